/-
  No cell of these rows narrows 'for every input' (looked for: loops, veiled, ifaces, maps, wideKeys, modest, calm, conditions, laid).
  DERIVED. THE GIVEN ROWS OF THIS SEAT. 5 by the template 'for every input the law returns true; each argument reads behind the call as it read before'; 0 by the template 'total and deterministic' (their statements: YtcdapjfaekamkaaTotals.lean).
  GIVEN WITH THE SEED: the statements are not yours to turn. If you find one false, say at which input.
  Laid BY PROGRAM, IN A SANDBOX (cutbox-rows.mjs): the forced cells as the released guide's own fill.sh prints them over the translation b70960dc38009631… (all of the seat's roots in one cut). By AI agents, Wed Nov 11 2026. No macro, syntax, notation, axiom, sorry.
-/
import Derived.Test.YtcdapjfaekamkaaChecked
import GoSem.Claim
import GoSem.ClaimJoined
import GoSem.ClaimMapViews
import Derived.JoinedTies
import Derived.KernelRfl
namespace Go.Proofs.Ytcdapjfaekamkaa
/- THE CELL 'sum', in the pinned program and in every row, IS THE sha256 OF THE DUMP (.gsa) THAT YtcdapjfaekamkaaProg.lean LOADS. Nothing in Lean hashes anything: it is a label: what it is worth is what the hold of that sum in a sandbox is worth. -/
noncomputable def Try.pinned : Pinned := { name := "ytcdapjfaekamkaa", sum := "b70960dc38009631169580d0d621123e3f8488c908e0ddd2e0a10564eef51dd1", checked := Try.checked }
namespace Rows
def none {H : Type} : Left H := { results := [], args := [] }

/-- 'notcherlaw08.CellTurns': WHATEVER THE INPUT: true; the input reads as it did. -/
def cellTurnsSpec : ChangeSpec := { name := "cellTurns", fn := fun _ => fun
  | [d1, d2] => { results := [.lit (.bool true)], args := [d1, d2] }
  | _ => none }
def cellTurnsRow : OpenClaim := { program := "ytcdapjfaekamkaa", sum := "b70960dc38009631169580d0d621123e3f8488c908e0ddd2e0a10564eef51dd1", func := "notcher/notcherlaw08.CellTurns", spec := "cellTurns", unfollowed := true, recurses := true, apart := false }
def CellTurnsSaid : Prop := cellTurnsRow.holds Try.pinned (OpenSpec.ofChange cellTurnsSpec)

/-- ITS FALSE NEIGHBOUR: 'it returns false'. Refute it at one input. -/
def cellTurnsWrong : ChangeSpec := { name := "cellTurns", fn := fun _ => fun
  | [d1, d2] => { results := [.lit (.bool false)], args := [d1, d2] }
  | _ => none }
def CellTurnsWrongFalsely : Prop := cellTurnsRow.holds Try.pinned (OpenSpec.ofChange cellTurnsWrong)

/-- 'notcherlaw08.CellBig': WHATEVER THE INPUT: true; the input reads as it did. -/
def cellBigSpec : ChangeSpec := { name := "cellBig", fn := fun _ => fun
  | [d1, d2] => { results := [.lit (.bool true)], args := [d1, d2] }
  | _ => none }
def cellBigRow : OpenClaim := { program := "ytcdapjfaekamkaa", sum := "b70960dc38009631169580d0d621123e3f8488c908e0ddd2e0a10564eef51dd1", func := "notcher/notcherlaw08.CellBig", spec := "cellBig", unfollowed := true, recurses := true, apart := false }
def CellBigSaid : Prop := cellBigRow.holds Try.pinned (OpenSpec.ofChange cellBigSpec)

/-- ITS FALSE NEIGHBOUR: 'it returns false'. Refute it at one input. -/
def cellBigWrong : ChangeSpec := { name := "cellBig", fn := fun _ => fun
  | [d1, d2] => { results := [.lit (.bool false)], args := [d1, d2] }
  | _ => none }
def CellBigWrongFalsely : Prop := cellBigRow.holds Try.pinned (OpenSpec.ofChange cellBigWrong)

/-- 'notcherlaw08.CellAlone': WHATEVER THE INPUT: true; the input reads as it did. -/
def cellAloneSpec : ChangeSpec := { name := "cellAlone", fn := fun _ => fun
  | [d] => { results := [.lit (.bool true)], args := [d] }
  | _ => none }
def cellAloneRow : OpenClaim := { program := "ytcdapjfaekamkaa", sum := "b70960dc38009631169580d0d621123e3f8488c908e0ddd2e0a10564eef51dd1", func := "notcher/notcherlaw08.CellAlone", spec := "cellAlone", unfollowed := true, recurses := true, apart := false }
def CellAloneSaid : Prop := cellAloneRow.holds Try.pinned (OpenSpec.ofChange cellAloneSpec)

/-- ITS FALSE NEIGHBOUR: 'it returns false'. Refute it at one input. -/
def cellAloneWrong : ChangeSpec := { name := "cellAlone", fn := fun _ => fun
  | [d] => { results := [.lit (.bool false)], args := [d] }
  | _ => none }
def CellAloneWrongFalsely : Prop := cellAloneRow.holds Try.pinned (OpenSpec.ofChange cellAloneWrong)

/-- 'notcherlaw08.CellSure': WHATEVER THE INPUT: true; the input reads as it did. -/
def cellSureSpec : ChangeSpec := { name := "cellSure", fn := fun _ => fun
  | [d1, d2, d3] => { results := [.lit (.bool true)], args := [d1, d2, d3] }
  | _ => none }
def cellSureRow : OpenClaim := { program := "ytcdapjfaekamkaa", sum := "b70960dc38009631169580d0d621123e3f8488c908e0ddd2e0a10564eef51dd1", func := "notcher/notcherlaw08.CellSure", spec := "cellSure", unfollowed := true, recurses := true, apart := false }
def CellSureSaid : Prop := cellSureRow.holds Try.pinned (OpenSpec.ofChange cellSureSpec)

/-- ITS FALSE NEIGHBOUR: 'it returns false'. Refute it at one input. -/
def cellSureWrong : ChangeSpec := { name := "cellSure", fn := fun _ => fun
  | [d1, d2, d3] => { results := [.lit (.bool false)], args := [d1, d2, d3] }
  | _ => none }
def CellSureWrongFalsely : Prop := cellSureRow.holds Try.pinned (OpenSpec.ofChange cellSureWrong)

/-- 'notcherlaw08.CellPlays': WHATEVER THE INPUT: true; the input reads as it did. -/
def cellPlaysSpec : ChangeSpec := { name := "cellPlays", fn := fun _ => fun
  | [d1, d2, d3] => { results := [.lit (.bool true)], args := [d1, d2, d3] }
  | _ => none }
def cellPlaysRow : OpenClaim := { program := "ytcdapjfaekamkaa", sum := "b70960dc38009631169580d0d621123e3f8488c908e0ddd2e0a10564eef51dd1", func := "notcher/notcherlaw08.CellPlays", spec := "cellPlays", unfollowed := true, recurses := true, apart := false }
def CellPlaysSaid : Prop := cellPlaysRow.holds Try.pinned (OpenSpec.ofChange cellPlaysSpec)

/-- ITS FALSE NEIGHBOUR: 'it returns false'. Refute it at one input. -/
def cellPlaysWrong : ChangeSpec := { name := "cellPlays", fn := fun _ => fun
  | [d1, d2, d3] => { results := [.lit (.bool false)], args := [d1, d2, d3] }
  | _ => none }
def CellPlaysWrongFalsely : Prop := cellPlaysRow.holds Try.pinned (OpenSpec.ofChange cellPlaysWrong)

/- THE SECOND FORM. 'bulk': how many values and letters a reading holds, each counted each time it is reached (what is shared counts as often as it is met; a slice's spare places count too). A statement '..UptoSaid' is the law's where the arguments, and the package variables that the reading takes, are together of bulk at most 1048576: NARROWER than '..Said'. Prove '..Said' where nothing that the law and all that it calls make is longer than what came in: it says more and counts as full. Else prove '..UptoSaid'. A law counts once. -/
mutual
def uptoBulk {H : Type} : DataW H → Nat
  | .lit (.string bytes) => bytes.length + 1
  | .lit _ => 1
  | .nil => 1
  | .ptr d => uptoBulk d + 1
  | .slice elems spare => uptoBulkAll elems + uptoBulkAll spare + 1
  | .agg parts => uptoBulkAll parts + 1
  | .iface _ d => uptoBulk d + 1
  | .map entries => uptoBulkEntries entries + 1
  | .held _ => 1
def uptoBulkAll {H : Type} : List (DataW H) → Nat
  | [] => 0
  | d :: r => uptoBulk d + uptoBulkAll r
def uptoBulkEntries {H : Type} : List (Lit × DataW H) → Nat
  | [] => 0
  | x :: r => uptoBulkEntry x + uptoBulkEntries r
def uptoBulkEntry {H : Type} : Lit × DataW H → Nat
  | (.string bytes, d) => bytes.length + uptoBulk d + 1
  | (_, d) => uptoBulk d + 1
 end
def uptoSmall : (H : Type) → List (DataW H) → Bool := fun _ ds => decide (uptoBulkAll ds ≤ 1048576)
def OpenSpec.upto (s : _root_.Go.ChangeSpec) : _root_.Go.OpenSpec := { _root_.Go.OpenSpec.ofChange s with cond := some uptoSmall }

/-- 'notcherlaw08.CellTurns', WHERE WHAT IT READS IS OF BULK AT MOST 1048576: true; the input reads as it did. -/
def cellTurnsUptoRow : OpenClaim := { program := "ytcdapjfaekamkaa", sum := "b70960dc38009631169580d0d621123e3f8488c908e0ddd2e0a10564eef51dd1", func := "notcher/notcherlaw08.CellTurns", spec := "cellTurns", unfollowed := true, recurses := true, apart := false, narrowed := true }
def CellTurnsUptoSaid : Prop := cellTurnsUptoRow.holds Try.pinned (OpenSpec.upto cellTurnsSpec)

/-- 'notcherlaw08.CellBig', WHERE WHAT IT READS IS OF BULK AT MOST 1048576: true; the input reads as it did. -/
def cellBigUptoRow : OpenClaim := { program := "ytcdapjfaekamkaa", sum := "b70960dc38009631169580d0d621123e3f8488c908e0ddd2e0a10564eef51dd1", func := "notcher/notcherlaw08.CellBig", spec := "cellBig", unfollowed := true, recurses := true, apart := false, narrowed := true }
def CellBigUptoSaid : Prop := cellBigUptoRow.holds Try.pinned (OpenSpec.upto cellBigSpec)

/-- 'notcherlaw08.CellAlone', WHERE WHAT IT READS IS OF BULK AT MOST 1048576: true; the input reads as it did. -/
def cellAloneUptoRow : OpenClaim := { program := "ytcdapjfaekamkaa", sum := "b70960dc38009631169580d0d621123e3f8488c908e0ddd2e0a10564eef51dd1", func := "notcher/notcherlaw08.CellAlone", spec := "cellAlone", unfollowed := true, recurses := true, apart := false, narrowed := true }
def CellAloneUptoSaid : Prop := cellAloneUptoRow.holds Try.pinned (OpenSpec.upto cellAloneSpec)

/-- 'notcherlaw08.CellSure', WHERE WHAT IT READS IS OF BULK AT MOST 1048576: true; the input reads as it did. -/
def cellSureUptoRow : OpenClaim := { program := "ytcdapjfaekamkaa", sum := "b70960dc38009631169580d0d621123e3f8488c908e0ddd2e0a10564eef51dd1", func := "notcher/notcherlaw08.CellSure", spec := "cellSure", unfollowed := true, recurses := true, apart := false, narrowed := true }
def CellSureUptoSaid : Prop := cellSureUptoRow.holds Try.pinned (OpenSpec.upto cellSureSpec)

/-- 'notcherlaw08.CellPlays', WHERE WHAT IT READS IS OF BULK AT MOST 1048576: true; the input reads as it did. -/
def cellPlaysUptoRow : OpenClaim := { program := "ytcdapjfaekamkaa", sum := "b70960dc38009631169580d0d621123e3f8488c908e0ddd2e0a10564eef51dd1", func := "notcher/notcherlaw08.CellPlays", spec := "cellPlays", unfollowed := true, recurses := true, apart := false, narrowed := true }
def CellPlaysUptoSaid : Prop := cellPlaysUptoRow.holds Try.pinned (OpenSpec.upto cellPlaysSpec)

end Rows
end Go.Proofs.Ytcdapjfaekamkaa
