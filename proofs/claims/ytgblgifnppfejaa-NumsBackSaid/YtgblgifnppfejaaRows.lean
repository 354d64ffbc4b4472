/-
  No cell of these rows narrows 'for every input' (looked for: loops, veiled, ifaces, maps, wideKeys, modest, calm, conditions, laid).
  DERIVED. THE GIVEN ROWS OF THIS SEAT. 6 by the template 'for every input the law returns true; each argument reads behind the call as it read before'; 0 by the template 'total and deterministic' (their statements: YtgblgifnppfejaaTotals.lean).
  GIVEN WITH THE SEED: the statements are not yours to turn. If you find one false, say at which input.
  Laid BY PROGRAM, IN A SANDBOX (cutbox-rows.mjs): the forced cells as the released guide's own fill.sh prints them over the translation 4e59b13290d1e26e… (all of the seat's roots in one cut). By AI agents, Wed Nov 11 2026. No macro, syntax, notation, axiom, sorry.
-/
import Derived.Test.YtgblgifnppfejaaChecked
import GoSem.Claim
import GoSem.ClaimJoined
import GoSem.ClaimMapViews
import Derived.JoinedTies
import Derived.KernelRfl
namespace Go.Proofs.Ytgblgifnppfejaa
/- THE CELL 'sum', in the pinned program and in every row, IS THE sha256 OF THE DUMP (.gsa) THAT YtgblgifnppfejaaProg.lean LOADS. Nothing in Lean hashes anything: it is a label: what it is worth is what the hold of that sum in a sandbox is worth. -/
noncomputable def Try.pinned : Pinned := { name := "ytgblgifnppfejaa", sum := "4e59b13290d1e26efc1c3ec8510c48fee940f1e3280f669e1001f0b8ccd17f88", checked := Try.checked }
namespace Rows
def none {H : Type} : Left H := { results := [], args := [] }

/-- 'notcherlaw01.NumsPut': WHATEVER THE INPUT: true; the input reads as it did. -/
def numsPutSpec : ChangeSpec := { name := "numsPut", fn := fun _ => fun
  | [d1, d2] => { results := [.lit (.bool true)], args := [d1, d2] }
  | _ => none }
def numsPutRow : OpenClaim := { program := "ytgblgifnppfejaa", sum := "4e59b13290d1e26efc1c3ec8510c48fee940f1e3280f669e1001f0b8ccd17f88", func := "notcher/notcherlaw01.NumsPut", spec := "numsPut", recurses := true, apart := false }
def NumsPutSaid : Prop := numsPutRow.holds Try.pinned (OpenSpec.ofChange numsPutSpec)

/-- ITS FALSE NEIGHBOUR: 'it returns false'. Refute it at one input. -/
def numsPutWrong : ChangeSpec := { name := "numsPut", fn := fun _ => fun
  | [d1, d2] => { results := [.lit (.bool false)], args := [d1, d2] }
  | _ => none }
def NumsPutWrongFalsely : Prop := numsPutRow.holds Try.pinned (OpenSpec.ofChange numsPutWrong)

/-- 'notcherlaw01.NumsReads': WHATEVER THE INPUT: true; the input reads as it did. -/
def numsReadsSpec : ChangeSpec := { name := "numsReads", fn := fun _ => fun
  | [d1, d2] => { results := [.lit (.bool true)], args := [d1, d2] }
  | _ => none }
def numsReadsRow : OpenClaim := { program := "ytgblgifnppfejaa", sum := "4e59b13290d1e26efc1c3ec8510c48fee940f1e3280f669e1001f0b8ccd17f88", func := "notcher/notcherlaw01.NumsReads", spec := "numsReads", apart := false }
def NumsReadsSaid : Prop := numsReadsRow.holds Try.pinned (OpenSpec.ofChange numsReadsSpec)

/-- ITS FALSE NEIGHBOUR: 'it returns false'. Refute it at one input. -/
def numsReadsWrong : ChangeSpec := { name := "numsReads", fn := fun _ => fun
  | [d1, d2] => { results := [.lit (.bool false)], args := [d1, d2] }
  | _ => none }
def NumsReadsWrongFalsely : Prop := numsReadsRow.holds Try.pinned (OpenSpec.ofChange numsReadsWrong)

/-- 'notcherlaw01.NumsBack': WHATEVER THE INPUT: true; the input reads as it did. -/
def numsBackSpec : ChangeSpec := { name := "numsBack", fn := fun _ => fun
  | [d1, d2] => { results := [.lit (.bool true)], args := [d1, d2] }
  | _ => none }
def numsBackRow : OpenClaim := { program := "ytgblgifnppfejaa", sum := "4e59b13290d1e26efc1c3ec8510c48fee940f1e3280f669e1001f0b8ccd17f88", func := "notcher/notcherlaw01.NumsBack", spec := "numsBack", apart := false }
def NumsBackSaid : Prop := numsBackRow.holds Try.pinned (OpenSpec.ofChange numsBackSpec)

/-- ITS FALSE NEIGHBOUR: 'it returns false'. Refute it at one input. -/
def numsBackWrong : ChangeSpec := { name := "numsBack", fn := fun _ => fun
  | [d1, d2] => { results := [.lit (.bool false)], args := [d1, d2] }
  | _ => none }
def NumsBackWrongFalsely : Prop := numsBackRow.holds Try.pinned (OpenSpec.ofChange numsBackWrong)

/-- 'notcherlaw01.NumsOne': WHATEVER THE INPUT: true; the input reads as it did. -/
def numsOneSpec : ChangeSpec := { name := "numsOne", fn := fun _ => fun
  | [d] => { results := [.lit (.bool true)], args := [d] }
  | _ => none }
def numsOneRow : OpenClaim := { program := "ytgblgifnppfejaa", sum := "4e59b13290d1e26efc1c3ec8510c48fee940f1e3280f669e1001f0b8ccd17f88", func := "notcher/notcherlaw01.NumsOne", spec := "numsOne", apart := false }
def NumsOneSaid : Prop := numsOneRow.holds Try.pinned (OpenSpec.ofChange numsOneSpec)

/-- ITS FALSE NEIGHBOUR: 'it returns false'. Refute it at one input. -/
def numsOneWrong : ChangeSpec := { name := "numsOne", fn := fun _ => fun
  | [d] => { results := [.lit (.bool false)], args := [d] }
  | _ => none }
def NumsOneWrongFalsely : Prop := numsOneRow.holds Try.pinned (OpenSpec.ofChange numsOneWrong)

/-- 'notcherlaw01.NumsBytes': WHATEVER THE INPUT: true; the input reads as it did. -/
def numsBytesSpec : ChangeSpec := { name := "numsBytes", fn := fun _ => fun
  | [d1, d2, d3] => { results := [.lit (.bool true)], args := [d1, d2, d3] }
  | _ => none }
def numsBytesRow : OpenClaim := { program := "ytgblgifnppfejaa", sum := "4e59b13290d1e26efc1c3ec8510c48fee940f1e3280f669e1001f0b8ccd17f88", func := "notcher/notcherlaw01.NumsBytes", spec := "numsBytes", apart := false }
def NumsBytesSaid : Prop := numsBytesRow.holds Try.pinned (OpenSpec.ofChange numsBytesSpec)

/-- ITS FALSE NEIGHBOUR: 'it returns false'. Refute it at one input. -/
def numsBytesWrong : ChangeSpec := { name := "numsBytes", fn := fun _ => fun
  | [d1, d2, d3] => { results := [.lit (.bool false)], args := [d1, d2, d3] }
  | _ => none }
def NumsBytesWrongFalsely : Prop := numsBytesRow.holds Try.pinned (OpenSpec.ofChange numsBytesWrong)

/-- 'notcherlaw01.NumsStays': WHATEVER THE INPUT: true; the input reads as it did. -/
def numsStaysSpec : ChangeSpec := { name := "numsStays", fn := fun _ => fun
  | [d1, d2] => { results := [.lit (.bool true)], args := [d1, d2] }
  | _ => none }
def numsStaysRow : OpenClaim := { program := "ytgblgifnppfejaa", sum := "4e59b13290d1e26efc1c3ec8510c48fee940f1e3280f669e1001f0b8ccd17f88", func := "notcher/notcherlaw01.NumsStays", spec := "numsStays", apart := false }
def NumsStaysSaid : Prop := numsStaysRow.holds Try.pinned (OpenSpec.ofChange numsStaysSpec)

/-- ITS FALSE NEIGHBOUR: 'it returns false'. Refute it at one input. -/
def numsStaysWrong : ChangeSpec := { name := "numsStays", fn := fun _ => fun
  | [d1, d2] => { results := [.lit (.bool false)], args := [d1, d2] }
  | _ => none }
def NumsStaysWrongFalsely : Prop := numsStaysRow.holds Try.pinned (OpenSpec.ofChange numsStaysWrong)

/- THE SECOND FORM. 'bulk': how many values and letters a reading holds, each counted each time it is reached (what is shared counts as often as it is met; a slice's spare places count too). A statement '..UptoSaid' is the law's where the arguments, and the package variables that the reading takes, are together of bulk at most 1048576: NARROWER than '..Said'. Prove '..Said' where nothing that the law and all that it calls make is longer than what came in: it says more and counts as full. Else prove '..UptoSaid'. A law counts once. -/
mutual
def uptoBulk {H : Type} : DataW H → Nat
  | .lit (.string bytes) => bytes.length + 1
  | .lit _ => 1
  | .nil => 1
  | .ptr d => uptoBulk d + 1
  | .slice elems spare => uptoBulkAll elems + uptoBulkAll spare + 1
  | .agg parts => uptoBulkAll parts + 1
  | .iface _ d => uptoBulk d + 1
  | .map entries => uptoBulkEntries entries + 1
  | .held _ => 1
def uptoBulkAll {H : Type} : List (DataW H) → Nat
  | [] => 0
  | d :: r => uptoBulk d + uptoBulkAll r
def uptoBulkEntries {H : Type} : List (Lit × DataW H) → Nat
  | [] => 0
  | x :: r => uptoBulkEntry x + uptoBulkEntries r
def uptoBulkEntry {H : Type} : Lit × DataW H → Nat
  | (.string bytes, d) => bytes.length + uptoBulk d + 1
  | (_, d) => uptoBulk d + 1
 end
def uptoSmall : (H : Type) → List (DataW H) → Bool := fun _ ds => decide (uptoBulkAll ds ≤ 1048576)
def OpenSpec.upto (s : _root_.Go.ChangeSpec) : _root_.Go.OpenSpec := { _root_.Go.OpenSpec.ofChange s with cond := some uptoSmall }

/-- 'notcherlaw01.NumsPut', WHERE WHAT IT READS IS OF BULK AT MOST 1048576: true; the input reads as it did. -/
def numsPutUptoRow : OpenClaim := { program := "ytgblgifnppfejaa", sum := "4e59b13290d1e26efc1c3ec8510c48fee940f1e3280f669e1001f0b8ccd17f88", func := "notcher/notcherlaw01.NumsPut", spec := "numsPut", recurses := true, apart := false, narrowed := true }
def NumsPutUptoSaid : Prop := numsPutUptoRow.holds Try.pinned (OpenSpec.upto numsPutSpec)

/-- 'notcherlaw01.NumsReads', WHERE WHAT IT READS IS OF BULK AT MOST 1048576: true; the input reads as it did. -/
def numsReadsUptoRow : OpenClaim := { program := "ytgblgifnppfejaa", sum := "4e59b13290d1e26efc1c3ec8510c48fee940f1e3280f669e1001f0b8ccd17f88", func := "notcher/notcherlaw01.NumsReads", spec := "numsReads", apart := false, narrowed := true }
def NumsReadsUptoSaid : Prop := numsReadsUptoRow.holds Try.pinned (OpenSpec.upto numsReadsSpec)

/-- 'notcherlaw01.NumsBack', WHERE WHAT IT READS IS OF BULK AT MOST 1048576: true; the input reads as it did. -/
def numsBackUptoRow : OpenClaim := { program := "ytgblgifnppfejaa", sum := "4e59b13290d1e26efc1c3ec8510c48fee940f1e3280f669e1001f0b8ccd17f88", func := "notcher/notcherlaw01.NumsBack", spec := "numsBack", apart := false, narrowed := true }
def NumsBackUptoSaid : Prop := numsBackUptoRow.holds Try.pinned (OpenSpec.upto numsBackSpec)

/-- 'notcherlaw01.NumsOne', WHERE WHAT IT READS IS OF BULK AT MOST 1048576: true; the input reads as it did. -/
def numsOneUptoRow : OpenClaim := { program := "ytgblgifnppfejaa", sum := "4e59b13290d1e26efc1c3ec8510c48fee940f1e3280f669e1001f0b8ccd17f88", func := "notcher/notcherlaw01.NumsOne", spec := "numsOne", apart := false, narrowed := true }
def NumsOneUptoSaid : Prop := numsOneUptoRow.holds Try.pinned (OpenSpec.upto numsOneSpec)

/-- 'notcherlaw01.NumsBytes', WHERE WHAT IT READS IS OF BULK AT MOST 1048576: true; the input reads as it did. -/
def numsBytesUptoRow : OpenClaim := { program := "ytgblgifnppfejaa", sum := "4e59b13290d1e26efc1c3ec8510c48fee940f1e3280f669e1001f0b8ccd17f88", func := "notcher/notcherlaw01.NumsBytes", spec := "numsBytes", apart := false, narrowed := true }
def NumsBytesUptoSaid : Prop := numsBytesUptoRow.holds Try.pinned (OpenSpec.upto numsBytesSpec)

/-- 'notcherlaw01.NumsStays', WHERE WHAT IT READS IS OF BULK AT MOST 1048576: true; the input reads as it did. -/
def numsStaysUptoRow : OpenClaim := { program := "ytgblgifnppfejaa", sum := "4e59b13290d1e26efc1c3ec8510c48fee940f1e3280f669e1001f0b8ccd17f88", func := "notcher/notcherlaw01.NumsStays", spec := "numsStays", apart := false, narrowed := true }
def NumsStaysUptoSaid : Prop := numsStaysUptoRow.holds Try.pinned (OpenSpec.upto numsStaysSpec)

end Rows
end Go.Proofs.Ytgblgifnppfejaa
