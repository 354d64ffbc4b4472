/- The walk for the statement SegmentPlays: the loop's body. -/
import Derived.Test.YtmgkaoenjnnlmaaSpa
namespace Go.Proofs.Ytmgkaoenjnnlmaa
open Go.RowKit
open Go.NB.Crc
open Go.NB (Rd Dk Kp Stp Off Dis val I64)

def firstLoop : Code → Option Code
  | .loop c => some c
  | .seq a b => match firstLoop a with
    | some c => some c
    | none => firstLoop b
  | .block _ c => firstLoop c
  | .scope c => firstLoop c
  | .cond _ a b => match firstLoop a with
    | some c => some c
    | none => firstLoop b
  | _ => none
theorem sblk (x z p1 p2 : Nat) (bs : List UInt8) (hx : x ≤ 3) (hz : z ≤ 3) (h1 : p1 ≤ 1) (h2 : p2 ≤ 1) (hb : bs.length ≤ 45) : ∃ B : List UInt8, B.length = 64 ∧ ∀ w, Calls Try.prog 29 #[.int .u64 (x : Int), .int .i64 (z : Int), .int .i64 (p1 : Int), .int .i64 (1 + (p2 : Int)), .string ⟨bs.toArray⟩] w fun e w' => e = .returned (.string ⟨B.toArray⟩) ∧ Below w.heap.size w w' := by
  obtain ⟨pn, hpn⟩ : ∃ pn : Nat, pn = 1 + p2 := ⟨_, rfl⟩
  have hc : 1 + (p2 : Int) = (pn : Int) := by omega
  rw [hc]
  exact ⟨blkL x (z + 1) p1 pn bs, blkL_len _ _ _ _ _ hb, fun w => rblk_any w x z p1 pn bs (by omega) (by omega) (by omega) (by omega) hb⟩
noncomputable def splBody : Code := (((Try.f8).body.bind firstLoop).getD .skip)
end Go.Proofs.Ytmgkaoenjnnlmaa
