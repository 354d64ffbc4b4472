/-
  No cell of these rows narrows 'for every input' (looked for: loops, veiled, ifaces, maps, wideKeys, modest, calm, conditions, laid).
  DERIVED. THE GIVEN ROWS OF THIS SEAT. 7 by the template 'for every input the law returns true; each argument reads behind the call as it read before'; 0 by the template 'total and deterministic' (their statements: YtnkmlopgfgdajaaTotals.lean).
  GIVEN WITH THE SEED: the statements are not yours to turn. If you find one false, say at which input.
  Laid BY PROGRAM, IN A SANDBOX (cutbox-rows.mjs): the forced cells as the released guide's own fill.sh prints them over the translation 6afc2d3306dac632… (all of the seat's roots in one cut). By AI agents, Wed Nov 11 2026. No macro, syntax, notation, axiom, sorry.
-/
import Derived.Test.YtnkmlopgfgdajaaChecked
import GoSem.Claim
import GoSem.ClaimJoined
import GoSem.ClaimMapViews
import Derived.JoinedTies
import Derived.KernelRfl
namespace Go.Proofs.Ytnkmlopgfgdajaa
/- THE CELL 'sum', in the pinned program and in every row, IS THE sha256 OF THE DUMP (.gsa) THAT YtnkmlopgfgdajaaProg.lean LOADS. Nothing in Lean hashes anything: it is a label: what it is worth is what the hold of that sum in a sandbox is worth. -/
noncomputable def Try.pinned : Pinned := { name := "ytnkmlopgfgdajaa", sum := "6afc2d3306dac632f77a6b936c90b21a135370f100d430c253ff33996f43f954", checked := Try.checked }
namespace Rows
def none {H : Type} : Left H := { results := [], args := [] }

/-- 'notcherlaw10.ConfGets': WHATEVER THE INPUT: true; the input reads as it did. -/
def confGetsSpec : ChangeSpec := { name := "confGets", fn := fun _ => fun
  | [d] => { results := [.lit (.bool true)], args := [d] }
  | _ => none }
def confGetsRow : OpenClaim := { program := "ytnkmlopgfgdajaa", sum := "6afc2d3306dac632f77a6b936c90b21a135370f100d430c253ff33996f43f954", func := "notcher/notcherlaw10.ConfGets", spec := "confGets", unfollowed := true, recurses := true, apart := false }
def ConfGetsSaid : Prop := confGetsRow.holds Try.pinned (OpenSpec.ofChange confGetsSpec)

/-- ITS FALSE NEIGHBOUR: 'it returns false'. Refute it at one input. -/
def confGetsWrong : ChangeSpec := { name := "confGets", fn := fun _ => fun
  | [d] => { results := [.lit (.bool false)], args := [d] }
  | _ => none }
def ConfGetsWrongFalsely : Prop := confGetsRow.holds Try.pinned (OpenSpec.ofChange confGetsWrong)

/-- 'notcherlaw10.ConfPuts': WHATEVER THE INPUT: true; the input reads as it did. -/
def confPutsSpec : ChangeSpec := { name := "confPuts", fn := fun _ => fun
  | [d] => { results := [.lit (.bool true)], args := [d] }
  | _ => none }
def confPutsRow : OpenClaim := { program := "ytnkmlopgfgdajaa", sum := "6afc2d3306dac632f77a6b936c90b21a135370f100d430c253ff33996f43f954", func := "notcher/notcherlaw10.ConfPuts", spec := "confPuts", unfollowed := true, recurses := true, apart := false }
def ConfPutsSaid : Prop := confPutsRow.holds Try.pinned (OpenSpec.ofChange confPutsSpec)

/-- ITS FALSE NEIGHBOUR: 'it returns false'. Refute it at one input. -/
def confPutsWrong : ChangeSpec := { name := "confPuts", fn := fun _ => fun
  | [d] => { results := [.lit (.bool false)], args := [d] }
  | _ => none }
def ConfPutsWrongFalsely : Prop := confPutsRow.holds Try.pinned (OpenSpec.ofChange confPutsWrong)

/-- 'notcherlaw10.ConfOne': WHATEVER THE INPUT: true; the input reads as it did. -/
def confOneSpec : ChangeSpec := { name := "confOne", fn := fun _ => fun
  | [d1, d2] => { results := [.lit (.bool true)], args := [d1, d2] }
  | _ => none }
def confOneRow : OpenClaim := { program := "ytnkmlopgfgdajaa", sum := "6afc2d3306dac632f77a6b936c90b21a135370f100d430c253ff33996f43f954", func := "notcher/notcherlaw10.ConfOne", spec := "confOne", unfollowed := true, recurses := true, apart := false }
def ConfOneSaid : Prop := confOneRow.holds Try.pinned (OpenSpec.ofChange confOneSpec)

/-- ITS FALSE NEIGHBOUR: 'it returns false'. Refute it at one input. -/
def confOneWrong : ChangeSpec := { name := "confOne", fn := fun _ => fun
  | [d1, d2] => { results := [.lit (.bool false)], args := [d1, d2] }
  | _ => none }
def ConfOneWrongFalsely : Prop := confOneRow.holds Try.pinned (OpenSpec.ofChange confOneWrong)

/-- 'notcherlaw10.ConfOps': WHATEVER THE INPUT: true; the input reads as it did. -/
def confOpsSpec : ChangeSpec := { name := "confOps", fn := fun _ => fun
  | [d1, d2] => { results := [.lit (.bool true)], args := [d1, d2] }
  | _ => none }
def confOpsRow : OpenClaim := { program := "ytnkmlopgfgdajaa", sum := "6afc2d3306dac632f77a6b936c90b21a135370f100d430c253ff33996f43f954", func := "notcher/notcherlaw10.ConfOps", spec := "confOps", unfollowed := true, recurses := true, apart := false }
def ConfOpsSaid : Prop := confOpsRow.holds Try.pinned (OpenSpec.ofChange confOpsSpec)

/-- ITS FALSE NEIGHBOUR: 'it returns false'. Refute it at one input. -/
def confOpsWrong : ChangeSpec := { name := "confOps", fn := fun _ => fun
  | [d1, d2] => { results := [.lit (.bool false)], args := [d1, d2] }
  | _ => none }
def ConfOpsWrongFalsely : Prop := confOpsRow.holds Try.pinned (OpenSpec.ofChange confOpsWrong)

/-- 'notcherlaw10.ConfRows': WHATEVER THE INPUT: true; the input reads as it did. -/
def confRowsSpec : ChangeSpec := { name := "confRows", fn := fun _ => fun
  | [d] => { results := [.lit (.bool true)], args := [d] }
  | _ => none }
def confRowsRow : OpenClaim := { program := "ytnkmlopgfgdajaa", sum := "6afc2d3306dac632f77a6b936c90b21a135370f100d430c253ff33996f43f954", func := "notcher/notcherlaw10.ConfRows", spec := "confRows", unfollowed := true, recurses := true, apart := false }
def ConfRowsSaid : Prop := confRowsRow.holds Try.pinned (OpenSpec.ofChange confRowsSpec)

/-- ITS FALSE NEIGHBOUR: 'it returns false'. Refute it at one input. -/
def confRowsWrong : ChangeSpec := { name := "confRows", fn := fun _ => fun
  | [d] => { results := [.lit (.bool false)], args := [d] }
  | _ => none }
def ConfRowsWrongFalsely : Prop := confRowsRow.holds Try.pinned (OpenSpec.ofChange confRowsWrong)

/-- 'notcherlaw10.ConfUnlike': WHATEVER THE INPUT: true; the input reads as it did. -/
def confUnlikeSpec : ChangeSpec := { name := "confUnlike", fn := fun _ => fun
  | [d1, d2, d3] => { results := [.lit (.bool true)], args := [d1, d2, d3] }
  | _ => none }
def confUnlikeRow : OpenClaim := { program := "ytnkmlopgfgdajaa", sum := "6afc2d3306dac632f77a6b936c90b21a135370f100d430c253ff33996f43f954", func := "notcher/notcherlaw10.ConfUnlike", spec := "confUnlike", unfollowed := true, recurses := true, apart := false }
def ConfUnlikeSaid : Prop := confUnlikeRow.holds Try.pinned (OpenSpec.ofChange confUnlikeSpec)

/-- ITS FALSE NEIGHBOUR: 'it returns false'. Refute it at one input. -/
def confUnlikeWrong : ChangeSpec := { name := "confUnlike", fn := fun _ => fun
  | [d1, d2, d3] => { results := [.lit (.bool false)], args := [d1, d2, d3] }
  | _ => none }
def ConfUnlikeWrongFalsely : Prop := confUnlikeRow.holds Try.pinned (OpenSpec.ofChange confUnlikeWrong)

/-- 'notcherlaw10.ConfShort': WHATEVER THE INPUT: true; the input reads as it did. -/
def confShortSpec : ChangeSpec := { name := "confShort", fn := fun _ => fun
  | [d1, d2, d3] => { results := [.lit (.bool true)], args := [d1, d2, d3] }
  | _ => none }
def confShortRow : OpenClaim := { program := "ytnkmlopgfgdajaa", sum := "6afc2d3306dac632f77a6b936c90b21a135370f100d430c253ff33996f43f954", func := "notcher/notcherlaw10.ConfShort", spec := "confShort", unfollowed := true, recurses := true, apart := false }
def ConfShortSaid : Prop := confShortRow.holds Try.pinned (OpenSpec.ofChange confShortSpec)

/-- ITS FALSE NEIGHBOUR: 'it returns false'. Refute it at one input. -/
def confShortWrong : ChangeSpec := { name := "confShort", fn := fun _ => fun
  | [d1, d2, d3] => { results := [.lit (.bool false)], args := [d1, d2, d3] }
  | _ => none }
def ConfShortWrongFalsely : Prop := confShortRow.holds Try.pinned (OpenSpec.ofChange confShortWrong)

/- THE SECOND FORM. 'bulk': how many values and letters a reading holds, each counted each time it is reached (what is shared counts as often as it is met; a slice's spare places count too). A statement '..UptoSaid' is the law's where the arguments, and the package variables that the reading takes, are together of bulk at most 1048576: NARROWER than '..Said'. Prove '..Said' where nothing that the law and all that it calls make is longer than what came in: it says more and counts as full. Else prove '..UptoSaid'. A law counts once. -/
mutual
def uptoBulk {H : Type} : DataW H → Nat
  | .lit (.string bytes) => bytes.length + 1
  | .lit _ => 1
  | .nil => 1
  | .ptr d => uptoBulk d + 1
  | .slice elems spare => uptoBulkAll elems + uptoBulkAll spare + 1
  | .agg parts => uptoBulkAll parts + 1
  | .iface _ d => uptoBulk d + 1
  | .map entries => uptoBulkEntries entries + 1
  | .held _ => 1
def uptoBulkAll {H : Type} : List (DataW H) → Nat
  | [] => 0
  | d :: r => uptoBulk d + uptoBulkAll r
def uptoBulkEntries {H : Type} : List (Lit × DataW H) → Nat
  | [] => 0
  | x :: r => uptoBulkEntry x + uptoBulkEntries r
def uptoBulkEntry {H : Type} : Lit × DataW H → Nat
  | (.string bytes, d) => bytes.length + uptoBulk d + 1
  | (_, d) => uptoBulk d + 1
 end
def uptoSmall : (H : Type) → List (DataW H) → Bool := fun _ ds => decide (uptoBulkAll ds ≤ 1048576)
def OpenSpec.upto (s : _root_.Go.ChangeSpec) : _root_.Go.OpenSpec := { _root_.Go.OpenSpec.ofChange s with cond := some uptoSmall }

/-- 'notcherlaw10.ConfGets', WHERE WHAT IT READS IS OF BULK AT MOST 1048576: true; the input reads as it did. -/
def confGetsUptoRow : OpenClaim := { program := "ytnkmlopgfgdajaa", sum := "6afc2d3306dac632f77a6b936c90b21a135370f100d430c253ff33996f43f954", func := "notcher/notcherlaw10.ConfGets", spec := "confGets", unfollowed := true, recurses := true, apart := false, narrowed := true }
def ConfGetsUptoSaid : Prop := confGetsUptoRow.holds Try.pinned (OpenSpec.upto confGetsSpec)

/-- 'notcherlaw10.ConfPuts', WHERE WHAT IT READS IS OF BULK AT MOST 1048576: true; the input reads as it did. -/
def confPutsUptoRow : OpenClaim := { program := "ytnkmlopgfgdajaa", sum := "6afc2d3306dac632f77a6b936c90b21a135370f100d430c253ff33996f43f954", func := "notcher/notcherlaw10.ConfPuts", spec := "confPuts", unfollowed := true, recurses := true, apart := false, narrowed := true }
def ConfPutsUptoSaid : Prop := confPutsUptoRow.holds Try.pinned (OpenSpec.upto confPutsSpec)

/-- 'notcherlaw10.ConfOne', WHERE WHAT IT READS IS OF BULK AT MOST 1048576: true; the input reads as it did. -/
def confOneUptoRow : OpenClaim := { program := "ytnkmlopgfgdajaa", sum := "6afc2d3306dac632f77a6b936c90b21a135370f100d430c253ff33996f43f954", func := "notcher/notcherlaw10.ConfOne", spec := "confOne", unfollowed := true, recurses := true, apart := false, narrowed := true }
def ConfOneUptoSaid : Prop := confOneUptoRow.holds Try.pinned (OpenSpec.upto confOneSpec)

/-- 'notcherlaw10.ConfOps', WHERE WHAT IT READS IS OF BULK AT MOST 1048576: true; the input reads as it did. -/
def confOpsUptoRow : OpenClaim := { program := "ytnkmlopgfgdajaa", sum := "6afc2d3306dac632f77a6b936c90b21a135370f100d430c253ff33996f43f954", func := "notcher/notcherlaw10.ConfOps", spec := "confOps", unfollowed := true, recurses := true, apart := false, narrowed := true }
def ConfOpsUptoSaid : Prop := confOpsUptoRow.holds Try.pinned (OpenSpec.upto confOpsSpec)

/-- 'notcherlaw10.ConfRows', WHERE WHAT IT READS IS OF BULK AT MOST 1048576: true; the input reads as it did. -/
def confRowsUptoRow : OpenClaim := { program := "ytnkmlopgfgdajaa", sum := "6afc2d3306dac632f77a6b936c90b21a135370f100d430c253ff33996f43f954", func := "notcher/notcherlaw10.ConfRows", spec := "confRows", unfollowed := true, recurses := true, apart := false, narrowed := true }
def ConfRowsUptoSaid : Prop := confRowsUptoRow.holds Try.pinned (OpenSpec.upto confRowsSpec)

/-- 'notcherlaw10.ConfUnlike', WHERE WHAT IT READS IS OF BULK AT MOST 1048576: true; the input reads as it did. -/
def confUnlikeUptoRow : OpenClaim := { program := "ytnkmlopgfgdajaa", sum := "6afc2d3306dac632f77a6b936c90b21a135370f100d430c253ff33996f43f954", func := "notcher/notcherlaw10.ConfUnlike", spec := "confUnlike", unfollowed := true, recurses := true, apart := false, narrowed := true }
def ConfUnlikeUptoSaid : Prop := confUnlikeUptoRow.holds Try.pinned (OpenSpec.upto confUnlikeSpec)

/-- 'notcherlaw10.ConfShort', WHERE WHAT IT READS IS OF BULK AT MOST 1048576: true; the input reads as it did. -/
def confShortUptoRow : OpenClaim := { program := "ytnkmlopgfgdajaa", sum := "6afc2d3306dac632f77a6b936c90b21a135370f100d430c253ff33996f43f954", func := "notcher/notcherlaw10.ConfShort", spec := "confShort", unfollowed := true, recurses := true, apart := false, narrowed := true }
def ConfShortUptoSaid : Prop := confShortUptoRow.holds Try.pinned (OpenSpec.upto confShortSpec)

end Rows
end Go.Proofs.Ytnkmlopgfgdajaa
