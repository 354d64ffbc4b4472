/-
  No cell of these rows narrows 'for every input' (looked for: loops, veiled, ifaces, maps, wideKeys, modest, calm, conditions, laid).
  DERIVED. THE GIVEN ROWS OF THIS SEAT. 6 by the template 'for every input the law returns true; each argument reads behind the call as it read before'; 0 by the template 'total and deterministic' (their statements: YtmgkaoenjnnlmaaTotals.lean).
  GIVEN WITH THE SEED: the statements are not yours to turn. If you find one false, say at which input.
  Laid BY PROGRAM, IN A SANDBOX (cutbox-rows.mjs): the forced cells as the released guide's own fill.sh prints them over the translation 1b060a76245a46a7… (all of the seat's roots in one cut). By AI agents, Wed Nov 11 2026. No macro, syntax, notation, axiom, sorry.
-/
import Derived.Test.YtmgkaoenjnnlmaaChecked
import GoSem.Claim
import GoSem.ClaimJoined
import GoSem.ClaimMapViews
import Derived.JoinedTies
import Derived.KernelRfl
namespace Go.Proofs.Ytmgkaoenjnnlmaa
/- THE CELL 'sum', in the pinned program and in every row, IS THE sha256 OF THE DUMP (.gsa) THAT YtmgkaoenjnnlmaaProg.lean LOADS. Nothing in Lean hashes anything: it is a label: what it is worth is what the hold of that sum in a sandbox is worth. -/
noncomputable def Try.pinned : Pinned := { name := "ytmgkaoenjnnlmaa", sum := "1b060a76245a46a7ec9788caa702ca89f86a1deb6b2d4e220b0b9a6e195b55c4", checked := Try.checked }
namespace Rows
def none {H : Type} : Left H := { results := [], args := [] }

/-- 'notcherlaw07.SegmentSure': WHATEVER THE INPUT: true; the input reads as it did. -/
def segmentSureSpec : ChangeSpec := { name := "segmentSure", fn := fun _ => fun
  | [d1, d2, d3] => { results := [.lit (.bool true)], args := [d1, d2, d3] }
  | _ => none }
def segmentSureRow : OpenClaim := { program := "ytmgkaoenjnnlmaa", sum := "1b060a76245a46a7ec9788caa702ca89f86a1deb6b2d4e220b0b9a6e195b55c4", func := "notcher/notcherlaw07.SegmentSure", spec := "segmentSure", unfollowed := true, recurses := true, apart := false }
def SegmentSureSaid : Prop := segmentSureRow.holds Try.pinned (OpenSpec.ofChange segmentSureSpec)

/-- ITS FALSE NEIGHBOUR: 'it returns false'. Refute it at one input. -/
def segmentSureWrong : ChangeSpec := { name := "segmentSure", fn := fun _ => fun
  | [d1, d2, d3] => { results := [.lit (.bool false)], args := [d1, d2, d3] }
  | _ => none }
def SegmentSureWrongFalsely : Prop := segmentSureRow.holds Try.pinned (OpenSpec.ofChange segmentSureWrong)

/-- 'notcherlaw07.SegmentAgain': WHATEVER THE INPUT: true; the input reads as it did. -/
def segmentAgainSpec : ChangeSpec := { name := "segmentAgain", fn := fun _ => fun
  | [d1, d2] => { results := [.lit (.bool true)], args := [d1, d2] }
  | _ => none }
def segmentAgainRow : OpenClaim := { program := "ytmgkaoenjnnlmaa", sum := "1b060a76245a46a7ec9788caa702ca89f86a1deb6b2d4e220b0b9a6e195b55c4", func := "notcher/notcherlaw07.SegmentAgain", spec := "segmentAgain", unfollowed := true, recurses := true, apart := false }
def SegmentAgainSaid : Prop := segmentAgainRow.holds Try.pinned (OpenSpec.ofChange segmentAgainSpec)

/-- ITS FALSE NEIGHBOUR: 'it returns false'. Refute it at one input. -/
def segmentAgainWrong : ChangeSpec := { name := "segmentAgain", fn := fun _ => fun
  | [d1, d2] => { results := [.lit (.bool false)], args := [d1, d2] }
  | _ => none }
def SegmentAgainWrongFalsely : Prop := segmentAgainRow.holds Try.pinned (OpenSpec.ofChange segmentAgainWrong)

/-- 'notcherlaw07.SegmentErrs': WHATEVER THE INPUT: true; the input reads as it did. -/
def segmentErrsSpec : ChangeSpec := { name := "segmentErrs", fn := fun _ => fun
  | [d1, d2, d3] => { results := [.lit (.bool true)], args := [d1, d2, d3] }
  | _ => none }
def segmentErrsRow : OpenClaim := { program := "ytmgkaoenjnnlmaa", sum := "1b060a76245a46a7ec9788caa702ca89f86a1deb6b2d4e220b0b9a6e195b55c4", func := "notcher/notcherlaw07.SegmentErrs", spec := "segmentErrs", unfollowed := true, recurses := true, apart := false }
def SegmentErrsSaid : Prop := segmentErrsRow.holds Try.pinned (OpenSpec.ofChange segmentErrsSpec)

/-- ITS FALSE NEIGHBOUR: 'it returns false'. Refute it at one input. -/
def segmentErrsWrong : ChangeSpec := { name := "segmentErrs", fn := fun _ => fun
  | [d1, d2, d3] => { results := [.lit (.bool false)], args := [d1, d2, d3] }
  | _ => none }
def SegmentErrsWrongFalsely : Prop := segmentErrsRow.holds Try.pinned (OpenSpec.ofChange segmentErrsWrong)

/-- 'notcherlaw07.SegmentRoom': WHATEVER THE INPUT: true; the input reads as it did. -/
def segmentRoomSpec : ChangeSpec := { name := "segmentRoom", fn := fun _ => fun
  | [d1, d2] => { results := [.lit (.bool true)], args := [d1, d2] }
  | _ => none }
def segmentRoomRow : OpenClaim := { program := "ytmgkaoenjnnlmaa", sum := "1b060a76245a46a7ec9788caa702ca89f86a1deb6b2d4e220b0b9a6e195b55c4", func := "notcher/notcherlaw07.SegmentRoom", spec := "segmentRoom", unfollowed := true, recurses := true, apart := false }
def SegmentRoomSaid : Prop := segmentRoomRow.holds Try.pinned (OpenSpec.ofChange segmentRoomSpec)

/-- ITS FALSE NEIGHBOUR: 'it returns false'. Refute it at one input. -/
def segmentRoomWrong : ChangeSpec := { name := "segmentRoom", fn := fun _ => fun
  | [d1, d2] => { results := [.lit (.bool false)], args := [d1, d2] }
  | _ => none }
def SegmentRoomWrongFalsely : Prop := segmentRoomRow.holds Try.pinned (OpenSpec.ofChange segmentRoomWrong)

/-- 'notcherlaw07.SegmentGives': WHATEVER THE INPUT: true; the input reads as it did. -/
def segmentGivesSpec : ChangeSpec := { name := "segmentGives", fn := fun _ => fun
  | [d1, d2, d3] => { results := [.lit (.bool true)], args := [d1, d2, d3] }
  | _ => none }
def segmentGivesRow : OpenClaim := { program := "ytmgkaoenjnnlmaa", sum := "1b060a76245a46a7ec9788caa702ca89f86a1deb6b2d4e220b0b9a6e195b55c4", func := "notcher/notcherlaw07.SegmentGives", spec := "segmentGives", unfollowed := true, recurses := true, apart := false }
def SegmentGivesSaid : Prop := segmentGivesRow.holds Try.pinned (OpenSpec.ofChange segmentGivesSpec)

/-- ITS FALSE NEIGHBOUR: 'it returns false'. Refute it at one input. -/
def segmentGivesWrong : ChangeSpec := { name := "segmentGives", fn := fun _ => fun
  | [d1, d2, d3] => { results := [.lit (.bool false)], args := [d1, d2, d3] }
  | _ => none }
def SegmentGivesWrongFalsely : Prop := segmentGivesRow.holds Try.pinned (OpenSpec.ofChange segmentGivesWrong)

/-- 'notcherlaw07.SegmentPlays': WHATEVER THE INPUT: true; the input reads as it did. -/
def segmentPlaysSpec : ChangeSpec := { name := "segmentPlays", fn := fun _ => fun
  | [d1, d2, d3] => { results := [.lit (.bool true)], args := [d1, d2, d3] }
  | _ => none }
def segmentPlaysRow : OpenClaim := { program := "ytmgkaoenjnnlmaa", sum := "1b060a76245a46a7ec9788caa702ca89f86a1deb6b2d4e220b0b9a6e195b55c4", func := "notcher/notcherlaw07.SegmentPlays", spec := "segmentPlays", unfollowed := true, recurses := true, apart := false }
def SegmentPlaysSaid : Prop := segmentPlaysRow.holds Try.pinned (OpenSpec.ofChange segmentPlaysSpec)

/-- ITS FALSE NEIGHBOUR: 'it returns false'. Refute it at one input. -/
def segmentPlaysWrong : ChangeSpec := { name := "segmentPlays", fn := fun _ => fun
  | [d1, d2, d3] => { results := [.lit (.bool false)], args := [d1, d2, d3] }
  | _ => none }
def SegmentPlaysWrongFalsely : Prop := segmentPlaysRow.holds Try.pinned (OpenSpec.ofChange segmentPlaysWrong)

/- THE SECOND FORM. 'bulk': how many values and letters a reading holds, each counted each time it is reached (what is shared counts as often as it is met; a slice's spare places count too). A statement '..UptoSaid' is the law's where the arguments, and the package variables that the reading takes, are together of bulk at most 1048576: NARROWER than '..Said'. Prove '..Said' where nothing that the law and all that it calls make is longer than what came in: it says more and counts as full. Else prove '..UptoSaid'. A law counts once. -/
mutual
def uptoBulk {H : Type} : DataW H → Nat
  | .lit (.string bytes) => bytes.length + 1
  | .lit _ => 1
  | .nil => 1
  | .ptr d => uptoBulk d + 1
  | .slice elems spare => uptoBulkAll elems + uptoBulkAll spare + 1
  | .agg parts => uptoBulkAll parts + 1
  | .iface _ d => uptoBulk d + 1
  | .map entries => uptoBulkEntries entries + 1
  | .held _ => 1
def uptoBulkAll {H : Type} : List (DataW H) → Nat
  | [] => 0
  | d :: r => uptoBulk d + uptoBulkAll r
def uptoBulkEntries {H : Type} : List (Lit × DataW H) → Nat
  | [] => 0
  | x :: r => uptoBulkEntry x + uptoBulkEntries r
def uptoBulkEntry {H : Type} : Lit × DataW H → Nat
  | (.string bytes, d) => bytes.length + uptoBulk d + 1
  | (_, d) => uptoBulk d + 1
 end
def uptoSmall : (H : Type) → List (DataW H) → Bool := fun _ ds => decide (uptoBulkAll ds ≤ 1048576)
def OpenSpec.upto (s : _root_.Go.ChangeSpec) : _root_.Go.OpenSpec := { _root_.Go.OpenSpec.ofChange s with cond := some uptoSmall }

/-- 'notcherlaw07.SegmentSure', WHERE WHAT IT READS IS OF BULK AT MOST 1048576: true; the input reads as it did. -/
def segmentSureUptoRow : OpenClaim := { program := "ytmgkaoenjnnlmaa", sum := "1b060a76245a46a7ec9788caa702ca89f86a1deb6b2d4e220b0b9a6e195b55c4", func := "notcher/notcherlaw07.SegmentSure", spec := "segmentSure", unfollowed := true, recurses := true, apart := false, narrowed := true }
def SegmentSureUptoSaid : Prop := segmentSureUptoRow.holds Try.pinned (OpenSpec.upto segmentSureSpec)

/-- 'notcherlaw07.SegmentAgain', WHERE WHAT IT READS IS OF BULK AT MOST 1048576: true; the input reads as it did. -/
def segmentAgainUptoRow : OpenClaim := { program := "ytmgkaoenjnnlmaa", sum := "1b060a76245a46a7ec9788caa702ca89f86a1deb6b2d4e220b0b9a6e195b55c4", func := "notcher/notcherlaw07.SegmentAgain", spec := "segmentAgain", unfollowed := true, recurses := true, apart := false, narrowed := true }
def SegmentAgainUptoSaid : Prop := segmentAgainUptoRow.holds Try.pinned (OpenSpec.upto segmentAgainSpec)

/-- 'notcherlaw07.SegmentErrs', WHERE WHAT IT READS IS OF BULK AT MOST 1048576: true; the input reads as it did. -/
def segmentErrsUptoRow : OpenClaim := { program := "ytmgkaoenjnnlmaa", sum := "1b060a76245a46a7ec9788caa702ca89f86a1deb6b2d4e220b0b9a6e195b55c4", func := "notcher/notcherlaw07.SegmentErrs", spec := "segmentErrs", unfollowed := true, recurses := true, apart := false, narrowed := true }
def SegmentErrsUptoSaid : Prop := segmentErrsUptoRow.holds Try.pinned (OpenSpec.upto segmentErrsSpec)

/-- 'notcherlaw07.SegmentRoom', WHERE WHAT IT READS IS OF BULK AT MOST 1048576: true; the input reads as it did. -/
def segmentRoomUptoRow : OpenClaim := { program := "ytmgkaoenjnnlmaa", sum := "1b060a76245a46a7ec9788caa702ca89f86a1deb6b2d4e220b0b9a6e195b55c4", func := "notcher/notcherlaw07.SegmentRoom", spec := "segmentRoom", unfollowed := true, recurses := true, apart := false, narrowed := true }
def SegmentRoomUptoSaid : Prop := segmentRoomUptoRow.holds Try.pinned (OpenSpec.upto segmentRoomSpec)

/-- 'notcherlaw07.SegmentGives', WHERE WHAT IT READS IS OF BULK AT MOST 1048576: true; the input reads as it did. -/
def segmentGivesUptoRow : OpenClaim := { program := "ytmgkaoenjnnlmaa", sum := "1b060a76245a46a7ec9788caa702ca89f86a1deb6b2d4e220b0b9a6e195b55c4", func := "notcher/notcherlaw07.SegmentGives", spec := "segmentGives", unfollowed := true, recurses := true, apart := false, narrowed := true }
def SegmentGivesUptoSaid : Prop := segmentGivesUptoRow.holds Try.pinned (OpenSpec.upto segmentGivesSpec)

/-- 'notcherlaw07.SegmentPlays', WHERE WHAT IT READS IS OF BULK AT MOST 1048576: true; the input reads as it did. -/
def segmentPlaysUptoRow : OpenClaim := { program := "ytmgkaoenjnnlmaa", sum := "1b060a76245a46a7ec9788caa702ca89f86a1deb6b2d4e220b0b9a6e195b55c4", func := "notcher/notcherlaw07.SegmentPlays", spec := "segmentPlays", unfollowed := true, recurses := true, apart := false, narrowed := true }
def SegmentPlaysUptoSaid : Prop := segmentPlaysUptoRow.holds Try.pinned (OpenSpec.upto segmentPlaysSpec)

end Rows
end Go.Proofs.Ytmgkaoenjnnlmaa
