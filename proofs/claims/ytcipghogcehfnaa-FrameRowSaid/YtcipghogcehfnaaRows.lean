/-
  No cell of these rows narrows 'for every input' (looked for: loops, veiled, ifaces, maps, wideKeys, modest, calm, conditions, laid).
  DERIVED. THE GIVEN ROWS OF THIS SEAT. 6 by the template 'for every input the law returns true; each argument reads behind the call as it read before'; 0 by the template 'total and deterministic' (their statements: YtcipghogcehfnaaTotals.lean).
  GIVEN WITH THE SEED: the statements are not yours to turn. If you find one false, say at which input.
  Laid BY PROGRAM, IN A SANDBOX (cutbox-rows.mjs): the forced cells as the released guide's own fill.sh prints them over the translation 03b9132e5eb5da78… (all of the seat's roots in one cut). By AI agents, Wed Nov 11 2026. No macro, syntax, notation, axiom, sorry.
-/
import Derived.Test.YtcipghogcehfnaaChecked
import GoSem.Claim
import GoSem.ClaimJoined
import GoSem.ClaimMapViews
import Derived.JoinedTies
import Derived.KernelRfl
namespace Go.Proofs.Ytcipghogcehfnaa
/- THE CELL 'sum', in the pinned program and in every row, IS THE sha256 OF THE DUMP (.gsa) THAT YtcipghogcehfnaaProg.lean LOADS. Nothing in Lean hashes anything: it is a label: what it is worth is what the hold of that sum in a sandbox is worth. -/
noncomputable def Try.pinned : Pinned := { name := "ytcipghogcehfnaa", sum := "03b9132e5eb5da782c08cc1982970a3683b996f1532a449a44a61afc32b6b8f0", checked := Try.checked }
namespace Rows
def none {H : Type} : Left H := { results := [], args := [] }

/-- 'notcherlaw03.FrameGets': WHATEVER THE INPUT: true; the input reads as it did. -/
def frameGetsSpec : ChangeSpec := { name := "frameGets", fn := fun _ => fun
  | [d] => { results := [.lit (.bool true)], args := [d] }
  | _ => none }
def frameGetsRow : OpenClaim := { program := "ytcipghogcehfnaa", sum := "03b9132e5eb5da782c08cc1982970a3683b996f1532a449a44a61afc32b6b8f0", func := "notcher/notcherlaw03.FrameGets", spec := "frameGets", unfollowed := true, recurses := true, apart := false }
def FrameGetsSaid : Prop := frameGetsRow.holds Try.pinned (OpenSpec.ofChange frameGetsSpec)

/-- ITS FALSE NEIGHBOUR: 'it returns false'. Refute it at one input. -/
def frameGetsWrong : ChangeSpec := { name := "frameGets", fn := fun _ => fun
  | [d] => { results := [.lit (.bool false)], args := [d] }
  | _ => none }
def FrameGetsWrongFalsely : Prop := frameGetsRow.holds Try.pinned (OpenSpec.ofChange frameGetsWrong)

/-- 'notcherlaw03.FramePuts': WHATEVER THE INPUT: true; the input reads as it did. -/
def framePutsSpec : ChangeSpec := { name := "framePuts", fn := fun _ => fun
  | [d1, d2, d3] => { results := [.lit (.bool true)], args := [d1, d2, d3] }
  | _ => none }
def framePutsRow : OpenClaim := { program := "ytcipghogcehfnaa", sum := "03b9132e5eb5da782c08cc1982970a3683b996f1532a449a44a61afc32b6b8f0", func := "notcher/notcherlaw03.FramePuts", spec := "framePuts", unfollowed := true, recurses := true, apart := false }
def FramePutsSaid : Prop := framePutsRow.holds Try.pinned (OpenSpec.ofChange framePutsSpec)

/-- ITS FALSE NEIGHBOUR: 'it returns false'. Refute it at one input. -/
def framePutsWrong : ChangeSpec := { name := "framePuts", fn := fun _ => fun
  | [d1, d2, d3] => { results := [.lit (.bool false)], args := [d1, d2, d3] }
  | _ => none }
def FramePutsWrongFalsely : Prop := framePutsRow.holds Try.pinned (OpenSpec.ofChange framePutsWrong)

/-- 'notcherlaw03.FrameOne': WHATEVER THE INPUT: true; the input reads as it did. -/
def frameOneSpec : ChangeSpec := { name := "frameOne", fn := fun _ => fun
  | [d1, d2, d3, d4] => { results := [.lit (.bool true)], args := [d1, d2, d3, d4] }
  | _ => none }
def frameOneRow : OpenClaim := { program := "ytcipghogcehfnaa", sum := "03b9132e5eb5da782c08cc1982970a3683b996f1532a449a44a61afc32b6b8f0", func := "notcher/notcherlaw03.FrameOne", spec := "frameOne", unfollowed := true, recurses := true, apart := false }
def FrameOneSaid : Prop := frameOneRow.holds Try.pinned (OpenSpec.ofChange frameOneSpec)

/-- ITS FALSE NEIGHBOUR: 'it returns false'. Refute it at one input. -/
def frameOneWrong : ChangeSpec := { name := "frameOne", fn := fun _ => fun
  | [d1, d2, d3, d4] => { results := [.lit (.bool false)], args := [d1, d2, d3, d4] }
  | _ => none }
def FrameOneWrongFalsely : Prop := frameOneRow.holds Try.pinned (OpenSpec.ofChange frameOneWrong)

/-- 'notcherlaw03.FrameRow': WHATEVER THE INPUT: true; the input reads as it did. -/
def frameRowSpec : ChangeSpec := { name := "frameRow", fn := fun _ => fun
  | [d1, d2, d3, d4, d5] => { results := [.lit (.bool true)], args := [d1, d2, d3, d4, d5] }
  | _ => none }
def frameRowRow : OpenClaim := { program := "ytcipghogcehfnaa", sum := "03b9132e5eb5da782c08cc1982970a3683b996f1532a449a44a61afc32b6b8f0", func := "notcher/notcherlaw03.FrameRow", spec := "frameRow", unfollowed := true, recurses := true, apart := false }
def FrameRowSaid : Prop := frameRowRow.holds Try.pinned (OpenSpec.ofChange frameRowSpec)

/-- ITS FALSE NEIGHBOUR: 'it returns false'. Refute it at one input. -/
def frameRowWrong : ChangeSpec := { name := "frameRow", fn := fun _ => fun
  | [d1, d2, d3, d4, d5] => { results := [.lit (.bool false)], args := [d1, d2, d3, d4, d5] }
  | _ => none }
def FrameRowWrongFalsely : Prop := frameRowRow.holds Try.pinned (OpenSpec.ofChange frameRowWrong)

/-- 'notcherlaw03.FrameBig': WHATEVER THE INPUT: true; the input reads as it did. -/
def frameBigSpec : ChangeSpec := { name := "frameBig", fn := fun _ => fun
  | [d1, d2] => { results := [.lit (.bool true)], args := [d1, d2] }
  | _ => none }
def frameBigRow : OpenClaim := { program := "ytcipghogcehfnaa", sum := "03b9132e5eb5da782c08cc1982970a3683b996f1532a449a44a61afc32b6b8f0", func := "notcher/notcherlaw03.FrameBig", spec := "frameBig", unfollowed := true, recurses := true, apart := false }
def FrameBigSaid : Prop := frameBigRow.holds Try.pinned (OpenSpec.ofChange frameBigSpec)

/-- ITS FALSE NEIGHBOUR: 'it returns false'. Refute it at one input. -/
def frameBigWrong : ChangeSpec := { name := "frameBig", fn := fun _ => fun
  | [d1, d2] => { results := [.lit (.bool false)], args := [d1, d2] }
  | _ => none }
def FrameBigWrongFalsely : Prop := frameBigRow.holds Try.pinned (OpenSpec.ofChange frameBigWrong)

/-- 'notcherlaw03.FrameSpoils': WHATEVER THE INPUT: true; the input reads as it did. -/
def frameSpoilsSpec : ChangeSpec := { name := "frameSpoils", fn := fun _ => fun
  | [d1, d2, d3, d4] => { results := [.lit (.bool true)], args := [d1, d2, d3, d4] }
  | _ => none }
def frameSpoilsRow : OpenClaim := { program := "ytcipghogcehfnaa", sum := "03b9132e5eb5da782c08cc1982970a3683b996f1532a449a44a61afc32b6b8f0", func := "notcher/notcherlaw03.FrameSpoils", spec := "frameSpoils", unfollowed := true, recurses := true, apart := false }
def FrameSpoilsSaid : Prop := frameSpoilsRow.holds Try.pinned (OpenSpec.ofChange frameSpoilsSpec)

/-- ITS FALSE NEIGHBOUR: 'it returns false'. Refute it at one input. -/
def frameSpoilsWrong : ChangeSpec := { name := "frameSpoils", fn := fun _ => fun
  | [d1, d2, d3, d4] => { results := [.lit (.bool false)], args := [d1, d2, d3, d4] }
  | _ => none }
def FrameSpoilsWrongFalsely : Prop := frameSpoilsRow.holds Try.pinned (OpenSpec.ofChange frameSpoilsWrong)

/- THE SECOND FORM. 'bulk': how many values and letters a reading holds, each counted each time it is reached (what is shared counts as often as it is met; a slice's spare places count too). A statement '..UptoSaid' is the law's where the arguments, and the package variables that the reading takes, are together of bulk at most 1048576: NARROWER than '..Said'. Prove '..Said' where nothing that the law and all that it calls make is longer than what came in: it says more and counts as full. Else prove '..UptoSaid'. A law counts once. -/
mutual
def uptoBulk {H : Type} : DataW H → Nat
  | .lit (.string bytes) => bytes.length + 1
  | .lit _ => 1
  | .nil => 1
  | .ptr d => uptoBulk d + 1
  | .slice elems spare => uptoBulkAll elems + uptoBulkAll spare + 1
  | .agg parts => uptoBulkAll parts + 1
  | .iface _ d => uptoBulk d + 1
  | .map entries => uptoBulkEntries entries + 1
  | .held _ => 1
def uptoBulkAll {H : Type} : List (DataW H) → Nat
  | [] => 0
  | d :: r => uptoBulk d + uptoBulkAll r
def uptoBulkEntries {H : Type} : List (Lit × DataW H) → Nat
  | [] => 0
  | x :: r => uptoBulkEntry x + uptoBulkEntries r
def uptoBulkEntry {H : Type} : Lit × DataW H → Nat
  | (.string bytes, d) => bytes.length + uptoBulk d + 1
  | (_, d) => uptoBulk d + 1
 end
def uptoSmall : (H : Type) → List (DataW H) → Bool := fun _ ds => decide (uptoBulkAll ds ≤ 1048576)
def OpenSpec.upto (s : _root_.Go.ChangeSpec) : _root_.Go.OpenSpec := { _root_.Go.OpenSpec.ofChange s with cond := some uptoSmall }

/-- 'notcherlaw03.FrameGets', WHERE WHAT IT READS IS OF BULK AT MOST 1048576: true; the input reads as it did. -/
def frameGetsUptoRow : OpenClaim := { program := "ytcipghogcehfnaa", sum := "03b9132e5eb5da782c08cc1982970a3683b996f1532a449a44a61afc32b6b8f0", func := "notcher/notcherlaw03.FrameGets", spec := "frameGets", unfollowed := true, recurses := true, apart := false, narrowed := true }
def FrameGetsUptoSaid : Prop := frameGetsUptoRow.holds Try.pinned (OpenSpec.upto frameGetsSpec)

/-- 'notcherlaw03.FramePuts', WHERE WHAT IT READS IS OF BULK AT MOST 1048576: true; the input reads as it did. -/
def framePutsUptoRow : OpenClaim := { program := "ytcipghogcehfnaa", sum := "03b9132e5eb5da782c08cc1982970a3683b996f1532a449a44a61afc32b6b8f0", func := "notcher/notcherlaw03.FramePuts", spec := "framePuts", unfollowed := true, recurses := true, apart := false, narrowed := true }
def FramePutsUptoSaid : Prop := framePutsUptoRow.holds Try.pinned (OpenSpec.upto framePutsSpec)

/-- 'notcherlaw03.FrameOne', WHERE WHAT IT READS IS OF BULK AT MOST 1048576: true; the input reads as it did. -/
def frameOneUptoRow : OpenClaim := { program := "ytcipghogcehfnaa", sum := "03b9132e5eb5da782c08cc1982970a3683b996f1532a449a44a61afc32b6b8f0", func := "notcher/notcherlaw03.FrameOne", spec := "frameOne", unfollowed := true, recurses := true, apart := false, narrowed := true }
def FrameOneUptoSaid : Prop := frameOneUptoRow.holds Try.pinned (OpenSpec.upto frameOneSpec)

/-- 'notcherlaw03.FrameRow', WHERE WHAT IT READS IS OF BULK AT MOST 1048576: true; the input reads as it did. -/
def frameRowUptoRow : OpenClaim := { program := "ytcipghogcehfnaa", sum := "03b9132e5eb5da782c08cc1982970a3683b996f1532a449a44a61afc32b6b8f0", func := "notcher/notcherlaw03.FrameRow", spec := "frameRow", unfollowed := true, recurses := true, apart := false, narrowed := true }
def FrameRowUptoSaid : Prop := frameRowUptoRow.holds Try.pinned (OpenSpec.upto frameRowSpec)

/-- 'notcherlaw03.FrameBig', WHERE WHAT IT READS IS OF BULK AT MOST 1048576: true; the input reads as it did. -/
def frameBigUptoRow : OpenClaim := { program := "ytcipghogcehfnaa", sum := "03b9132e5eb5da782c08cc1982970a3683b996f1532a449a44a61afc32b6b8f0", func := "notcher/notcherlaw03.FrameBig", spec := "frameBig", unfollowed := true, recurses := true, apart := false, narrowed := true }
def FrameBigUptoSaid : Prop := frameBigUptoRow.holds Try.pinned (OpenSpec.upto frameBigSpec)

/-- 'notcherlaw03.FrameSpoils', WHERE WHAT IT READS IS OF BULK AT MOST 1048576: true; the input reads as it did. -/
def frameSpoilsUptoRow : OpenClaim := { program := "ytcipghogcehfnaa", sum := "03b9132e5eb5da782c08cc1982970a3683b996f1532a449a44a61afc32b6b8f0", func := "notcher/notcherlaw03.FrameSpoils", spec := "frameSpoils", unfollowed := true, recurses := true, apart := false, narrowed := true }
def FrameSpoilsUptoSaid : Prop := frameSpoilsUptoRow.holds Try.pinned (OpenSpec.upto frameSpoilsSpec)

end Rows
end Go.Proofs.Ytcipghogcehfnaa
