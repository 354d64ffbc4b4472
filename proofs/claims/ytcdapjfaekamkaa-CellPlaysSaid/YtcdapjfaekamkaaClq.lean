/- The walk for the statement CellPlays: the loop's body. -/
import Derived.Test.YtcdapjfaekamkaaClpa
import Derived.Test.YtcdapjfaekamkaaOpena
namespace Go.Proofs.Ytcdapjfaekamkaa
open Go.RowKit
open Go.NB (Rd Dk Kp Stp Off Dis val Ce footC)

def firstLoop : Code → Option Code
  | .loop c => some c
  | .seq a b => match firstLoop a with
    | some c => some c
    | none => firstLoop b
  | .block _ c => firstLoop c
  | .scope c => firstLoop c
  | .cond _ a b => match firstLoop a with
    | some c => some c
    | none => firstLoop b
  | _ => none
noncomputable def clpBody : Code := (((Try.f7).body.bind firstLoop).getD .skip)
end Go.Proofs.Ytcdapjfaekamkaa
