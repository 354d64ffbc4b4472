/-
  No cell of these rows narrows 'for every input' (looked for: loops, veiled, ifaces, maps, wideKeys, modest, calm, conditions, laid).
  DERIVED. THE GIVEN ROWS OF THIS SEAT. 5 by the template 'for every input the law returns true; each argument reads behind the call as it read before'; 0 by the template 'total and deterministic' (their statements: YtfokmbpcpfkopaaTotals.lean).
  GIVEN WITH THE SEED: the statements are not yours to turn. If you find one false, say at which input.
  Laid BY PROGRAM, IN A SANDBOX (cutbox-rows.mjs): the forced cells as the released guide's own fill.sh prints them over the translation 3067be6b9ef6e4f1… (all of the seat's roots in one cut). By AI agents, Wed Nov 11 2026. No macro, syntax, notation, axiom, sorry.
-/
import Derived.Test.YtfokmbpcpfkopaaChecked
import GoSem.Claim
import GoSem.ClaimJoined
import GoSem.ClaimMapViews
import Derived.JoinedTies
import Derived.KernelRfl
namespace Go.Proofs.Ytfokmbpcpfkopaa
/- THE CELL 'sum', in the pinned program and in every row, IS THE sha256 OF THE DUMP (.gsa) THAT YtfokmbpcpfkopaaProg.lean LOADS. Nothing in Lean hashes anything: it is a label: what it is worth is what the hold of that sum in a sandbox is worth. -/
noncomputable def Try.pinned : Pinned := { name := "ytfokmbpcpfkopaa", sum := "3067be6b9ef6e4f1e387608531164a09ba7fa716d54aa97324e226151397337a", checked := Try.checked }
namespace Rows
def none {H : Type} : Left H := { results := [], args := [] }

/-- 'notcherlaw02.SumsOf': WHATEVER THE INPUT: true; the input reads as it did. -/
def sumsOfSpec : ChangeSpec := { name := "sumsOf", fn := fun _ => fun
  | [d1, d2] => { results := [.lit (.bool true)], args := [d1, d2] }
  | _ => none }
def sumsOfRow : OpenClaim := { program := "ytfokmbpcpfkopaa", sum := "3067be6b9ef6e4f1e387608531164a09ba7fa716d54aa97324e226151397337a", func := "notcher/notcherlaw02.SumsOf", spec := "sumsOf", apart := false }
def SumsOfSaid : Prop := sumsOfRow.holds Try.pinned (OpenSpec.ofChange sumsOfSpec)

/-- ITS FALSE NEIGHBOUR: 'it returns false'. Refute it at one input. -/
def sumsOfWrong : ChangeSpec := { name := "sumsOf", fn := fun _ => fun
  | [d1, d2] => { results := [.lit (.bool false)], args := [d1, d2] }
  | _ => none }
def SumsOfWrongFalsely : Prop := sumsOfRow.holds Try.pinned (OpenSpec.ofChange sumsOfWrong)

/-- 'notcherlaw02.SumsBurst': WHATEVER THE INPUT: true; the input reads as it did. -/
def sumsBurstSpec : ChangeSpec := { name := "sumsBurst", fn := fun _ => fun
  | [d1, d2, d3] => { results := [.lit (.bool true)], args := [d1, d2, d3] }
  | _ => none }
def sumsBurstRow : OpenClaim := { program := "ytfokmbpcpfkopaa", sum := "3067be6b9ef6e4f1e387608531164a09ba7fa716d54aa97324e226151397337a", func := "notcher/notcherlaw02.SumsBurst", spec := "sumsBurst", apart := false }
def SumsBurstSaid : Prop := sumsBurstRow.holds Try.pinned (OpenSpec.ofChange sumsBurstSpec)

/-- ITS FALSE NEIGHBOUR: 'it returns false'. Refute it at one input. -/
def sumsBurstWrong : ChangeSpec := { name := "sumsBurst", fn := fun _ => fun
  | [d1, d2, d3] => { results := [.lit (.bool false)], args := [d1, d2, d3] }
  | _ => none }
def SumsBurstWrongFalsely : Prop := sumsBurstRow.holds Try.pinned (OpenSpec.ofChange sumsBurstWrong)

/-- 'notcherlaw02.SumsCuts': WHATEVER THE INPUT: true; the input reads as it did. -/
def sumsCutsSpec : ChangeSpec := { name := "sumsCuts", fn := fun _ => fun
  | [d1, d2] => { results := [.lit (.bool true)], args := [d1, d2] }
  | _ => none }
def sumsCutsRow : OpenClaim := { program := "ytfokmbpcpfkopaa", sum := "3067be6b9ef6e4f1e387608531164a09ba7fa716d54aa97324e226151397337a", func := "notcher/notcherlaw02.SumsCuts", spec := "sumsCuts", apart := false }
def SumsCutsSaid : Prop := sumsCutsRow.holds Try.pinned (OpenSpec.ofChange sumsCutsSpec)

/-- ITS FALSE NEIGHBOUR: 'it returns false'. Refute it at one input. -/
def sumsCutsWrong : ChangeSpec := { name := "sumsCuts", fn := fun _ => fun
  | [d1, d2] => { results := [.lit (.bool false)], args := [d1, d2] }
  | _ => none }
def SumsCutsWrongFalsely : Prop := sumsCutsRow.holds Try.pinned (OpenSpec.ofChange sumsCutsWrong)

/-- 'notcherlaw02.SumsByte': WHATEVER THE INPUT: true; the input reads as it did. -/
def sumsByteSpec : ChangeSpec := { name := "sumsByte", fn := fun _ => fun
  | [d1, d2, d3] => { results := [.lit (.bool true)], args := [d1, d2, d3] }
  | _ => none }
def sumsByteRow : OpenClaim := { program := "ytfokmbpcpfkopaa", sum := "3067be6b9ef6e4f1e387608531164a09ba7fa716d54aa97324e226151397337a", func := "notcher/notcherlaw02.SumsByte", spec := "sumsByte", apart := false }
def SumsByteSaid : Prop := sumsByteRow.holds Try.pinned (OpenSpec.ofChange sumsByteSpec)

/-- ITS FALSE NEIGHBOUR: 'it returns false'. Refute it at one input. -/
def sumsByteWrong : ChangeSpec := { name := "sumsByte", fn := fun _ => fun
  | [d1, d2, d3] => { results := [.lit (.bool false)], args := [d1, d2, d3] }
  | _ => none }
def SumsByteWrongFalsely : Prop := sumsByteRow.holds Try.pinned (OpenSpec.ofChange sumsByteWrong)

/-- 'notcherlaw02.SumsLong': WHATEVER THE INPUT: true; the input reads as it did. -/
def sumsLongSpec : ChangeSpec := { name := "sumsLong", fn := fun _ => fun
  | [d] => { results := [.lit (.bool true)], args := [d] }
  | _ => none }
def sumsLongRow : OpenClaim := { program := "ytfokmbpcpfkopaa", sum := "3067be6b9ef6e4f1e387608531164a09ba7fa716d54aa97324e226151397337a", func := "notcher/notcherlaw02.SumsLong", spec := "sumsLong", apart := false }
def SumsLongSaid : Prop := sumsLongRow.holds Try.pinned (OpenSpec.ofChange sumsLongSpec)

/-- ITS FALSE NEIGHBOUR: 'it returns false'. Refute it at one input. -/
def sumsLongWrong : ChangeSpec := { name := "sumsLong", fn := fun _ => fun
  | [d] => { results := [.lit (.bool false)], args := [d] }
  | _ => none }
def SumsLongWrongFalsely : Prop := sumsLongRow.holds Try.pinned (OpenSpec.ofChange sumsLongWrong)

/- THE SECOND FORM. 'bulk': how many values and letters a reading holds, each counted each time it is reached (what is shared counts as often as it is met; a slice's spare places count too). A statement '..UptoSaid' is the law's where the arguments, and the package variables that the reading takes, are together of bulk at most 1048576: NARROWER than '..Said'. Prove '..Said' where nothing that the law and all that it calls make is longer than what came in: it says more and counts as full. Else prove '..UptoSaid'. A law counts once. -/
mutual
def uptoBulk {H : Type} : DataW H → Nat
  | .lit (.string bytes) => bytes.length + 1
  | .lit _ => 1
  | .nil => 1
  | .ptr d => uptoBulk d + 1
  | .slice elems spare => uptoBulkAll elems + uptoBulkAll spare + 1
  | .agg parts => uptoBulkAll parts + 1
  | .iface _ d => uptoBulk d + 1
  | .map entries => uptoBulkEntries entries + 1
  | .held _ => 1
def uptoBulkAll {H : Type} : List (DataW H) → Nat
  | [] => 0
  | d :: r => uptoBulk d + uptoBulkAll r
def uptoBulkEntries {H : Type} : List (Lit × DataW H) → Nat
  | [] => 0
  | x :: r => uptoBulkEntry x + uptoBulkEntries r
def uptoBulkEntry {H : Type} : Lit × DataW H → Nat
  | (.string bytes, d) => bytes.length + uptoBulk d + 1
  | (_, d) => uptoBulk d + 1
 end
def uptoSmall : (H : Type) → List (DataW H) → Bool := fun _ ds => decide (uptoBulkAll ds ≤ 1048576)
def OpenSpec.upto (s : _root_.Go.ChangeSpec) : _root_.Go.OpenSpec := { _root_.Go.OpenSpec.ofChange s with cond := some uptoSmall }

/-- 'notcherlaw02.SumsOf', WHERE WHAT IT READS IS OF BULK AT MOST 1048576: true; the input reads as it did. -/
def sumsOfUptoRow : OpenClaim := { program := "ytfokmbpcpfkopaa", sum := "3067be6b9ef6e4f1e387608531164a09ba7fa716d54aa97324e226151397337a", func := "notcher/notcherlaw02.SumsOf", spec := "sumsOf", apart := false, narrowed := true }
def SumsOfUptoSaid : Prop := sumsOfUptoRow.holds Try.pinned (OpenSpec.upto sumsOfSpec)

/-- 'notcherlaw02.SumsBurst', WHERE WHAT IT READS IS OF BULK AT MOST 1048576: true; the input reads as it did. -/
def sumsBurstUptoRow : OpenClaim := { program := "ytfokmbpcpfkopaa", sum := "3067be6b9ef6e4f1e387608531164a09ba7fa716d54aa97324e226151397337a", func := "notcher/notcherlaw02.SumsBurst", spec := "sumsBurst", apart := false, narrowed := true }
def SumsBurstUptoSaid : Prop := sumsBurstUptoRow.holds Try.pinned (OpenSpec.upto sumsBurstSpec)

/-- 'notcherlaw02.SumsCuts', WHERE WHAT IT READS IS OF BULK AT MOST 1048576: true; the input reads as it did. -/
def sumsCutsUptoRow : OpenClaim := { program := "ytfokmbpcpfkopaa", sum := "3067be6b9ef6e4f1e387608531164a09ba7fa716d54aa97324e226151397337a", func := "notcher/notcherlaw02.SumsCuts", spec := "sumsCuts", apart := false, narrowed := true }
def SumsCutsUptoSaid : Prop := sumsCutsUptoRow.holds Try.pinned (OpenSpec.upto sumsCutsSpec)

/-- 'notcherlaw02.SumsByte', WHERE WHAT IT READS IS OF BULK AT MOST 1048576: true; the input reads as it did. -/
def sumsByteUptoRow : OpenClaim := { program := "ytfokmbpcpfkopaa", sum := "3067be6b9ef6e4f1e387608531164a09ba7fa716d54aa97324e226151397337a", func := "notcher/notcherlaw02.SumsByte", spec := "sumsByte", apart := false, narrowed := true }
def SumsByteUptoSaid : Prop := sumsByteUptoRow.holds Try.pinned (OpenSpec.upto sumsByteSpec)

/-- 'notcherlaw02.SumsLong', WHERE WHAT IT READS IS OF BULK AT MOST 1048576: true; the input reads as it did. -/
def sumsLongUptoRow : OpenClaim := { program := "ytfokmbpcpfkopaa", sum := "3067be6b9ef6e4f1e387608531164a09ba7fa716d54aa97324e226151397337a", func := "notcher/notcherlaw02.SumsLong", spec := "sumsLong", apart := false, narrowed := true }
def SumsLongUptoSaid : Prop := sumsLongUptoRow.holds Try.pinned (OpenSpec.upto sumsLongSpec)

end Rows
end Go.Proofs.Ytfokmbpcpfkopaa
