/-
  No cell of these rows narrows 'for every input' (looked for: loops, veiled, ifaces, maps, wideKeys, modest, calm, conditions, laid).
  DERIVED. THE GIVEN ROWS OF THIS SEAT. 5 by the template 'for every input the law returns true; each argument reads behind the call as it read before'; 0 by the template 'total and deterministic' (their statements: YthemdfcokphjeaaTotals.lean).
  GIVEN WITH THE SEED: the statements are not yours to turn. If you find one false, say at which input.
  Laid BY PROGRAM, IN A SANDBOX (cutbox-rows.mjs): the forced cells as the released guide's own fill.sh prints them over the translation df82cd4cb6e0373f… (all of the seat's roots in one cut). By AI agents, Wed Nov 11 2026. No macro, syntax, notation, axiom, sorry.
-/
import Derived.Test.YthemdfcokphjeaaChecked
import GoSem.Claim
import GoSem.ClaimJoined
import GoSem.ClaimMapViews
import Derived.JoinedTies
import Derived.KernelRfl
namespace Go.Proofs.Ythemdfcokphjeaa
/- THE CELL 'sum', in the pinned program and in every row, IS THE sha256 OF THE DUMP (.gsa) THAT YthemdfcokphjeaaProg.lean LOADS. Nothing in Lean hashes anything: it is a label: what it is worth is what the hold of that sum in a sandbox is worth. -/
noncomputable def Try.pinned : Pinned := { name := "ythemdfcokphjeaa", sum := "df82cd4cb6e0373f97d8e028d6caa99305381cbbd1276acd232fc4815f51444d", checked := Try.checked }
namespace Rows
def none {H : Type} : Left H := { results := [], args := [] }

/-- 'notcherlaw18.DedupEntries': WHATEVER THE INPUT: true; the input reads as it did. -/
def dedupEntriesSpec : ChangeSpec := { name := "dedupEntries", fn := fun _ => fun
  | [d1, d2] => { results := [.lit (.bool true)], args := [d1, d2] }
  | _ => none }
def dedupEntriesRow : OpenClaim := { program := "ythemdfcokphjeaa", sum := "df82cd4cb6e0373f97d8e028d6caa99305381cbbd1276acd232fc4815f51444d", func := "notcher/notcherlaw18.DedupEntries", spec := "dedupEntries", recurses := true, plainKeys := false, apart := false }
def DedupEntriesSaid : Prop := dedupEntriesRow.holds Try.pinned (OpenSpec.ofChange dedupEntriesSpec)

/-- ITS FALSE NEIGHBOUR: 'it returns false'. Refute it at one input. -/
def dedupEntriesWrong : ChangeSpec := { name := "dedupEntries", fn := fun _ => fun
  | [d1, d2] => { results := [.lit (.bool false)], args := [d1, d2] }
  | _ => none }
def DedupEntriesWrongFalsely : Prop := dedupEntriesRow.holds Try.pinned (OpenSpec.ofChange dedupEntriesWrong)

/-- 'notcherlaw18.DedupCut': WHATEVER THE INPUT: true; the input reads as it did. -/
def dedupCutSpec : ChangeSpec := { name := "dedupCut", fn := fun _ => fun
  | [d1, d2, d3, d4] => { results := [.lit (.bool true)], args := [d1, d2, d3, d4] }
  | _ => none }
def dedupCutRow : OpenClaim := { program := "ythemdfcokphjeaa", sum := "df82cd4cb6e0373f97d8e028d6caa99305381cbbd1276acd232fc4815f51444d", func := "notcher/notcherlaw18.DedupCut", spec := "dedupCut", plainKeys := false, apart := false }
def DedupCutSaid : Prop := dedupCutRow.holds Try.pinned (OpenSpec.ofChange dedupCutSpec)

/-- ITS FALSE NEIGHBOUR: 'it returns false'. Refute it at one input. -/
def dedupCutWrong : ChangeSpec := { name := "dedupCut", fn := fun _ => fun
  | [d1, d2, d3, d4] => { results := [.lit (.bool false)], args := [d1, d2, d3, d4] }
  | _ => none }
def DedupCutWrongFalsely : Prop := dedupCutRow.holds Try.pinned (OpenSpec.ofChange dedupCutWrong)

/-- 'notcherlaw18.DedupOnce': WHATEVER THE INPUT: true; the input reads as it did. -/
def dedupOnceSpec : ChangeSpec := { name := "dedupOnce", fn := fun _ => fun
  | [d] => { results := [.lit (.bool true)], args := [d] }
  | _ => none }
def dedupOnceRow : OpenClaim := { program := "ythemdfcokphjeaa", sum := "df82cd4cb6e0373f97d8e028d6caa99305381cbbd1276acd232fc4815f51444d", func := "notcher/notcherlaw18.DedupOnce", spec := "dedupOnce", plainKeys := false, apart := false }
def DedupOnceSaid : Prop := dedupOnceRow.holds Try.pinned (OpenSpec.ofChange dedupOnceSpec)

/-- ITS FALSE NEIGHBOUR: 'it returns false'. Refute it at one input. -/
def dedupOnceWrong : ChangeSpec := { name := "dedupOnce", fn := fun _ => fun
  | [d] => { results := [.lit (.bool false)], args := [d] }
  | _ => none }
def DedupOnceWrongFalsely : Prop := dedupOnceRow.holds Try.pinned (OpenSpec.ofChange dedupOnceWrong)

/-- 'notcherlaw18.DedupLast': WHATEVER THE INPUT: true; the input reads as it did. -/
def dedupLastSpec : ChangeSpec := { name := "dedupLast", fn := fun _ => fun
  | [d] => { results := [.lit (.bool true)], args := [d] }
  | _ => none }
def dedupLastRow : OpenClaim := { program := "ythemdfcokphjeaa", sum := "df82cd4cb6e0373f97d8e028d6caa99305381cbbd1276acd232fc4815f51444d", func := "notcher/notcherlaw18.DedupLast", spec := "dedupLast", plainKeys := false, apart := false }
def DedupLastSaid : Prop := dedupLastRow.holds Try.pinned (OpenSpec.ofChange dedupLastSpec)

/-- ITS FALSE NEIGHBOUR: 'it returns false'. Refute it at one input. -/
def dedupLastWrong : ChangeSpec := { name := "dedupLast", fn := fun _ => fun
  | [d] => { results := [.lit (.bool false)], args := [d] }
  | _ => none }
def DedupLastWrongFalsely : Prop := dedupLastRow.holds Try.pinned (OpenSpec.ofChange dedupLastWrong)

/-- 'notcherlaw18.DedupPlays': WHATEVER THE INPUT: true; the input reads as it did. -/
def dedupPlaysSpec : ChangeSpec := { name := "dedupPlays", fn := fun _ => fun
  | [d] => { results := [.lit (.bool true)], args := [d] }
  | _ => none }
def dedupPlaysRow : OpenClaim := { program := "ythemdfcokphjeaa", sum := "df82cd4cb6e0373f97d8e028d6caa99305381cbbd1276acd232fc4815f51444d", func := "notcher/notcherlaw18.DedupPlays", spec := "dedupPlays", plainKeys := false, apart := false }
def DedupPlaysSaid : Prop := dedupPlaysRow.holds Try.pinned (OpenSpec.ofChange dedupPlaysSpec)

/-- ITS FALSE NEIGHBOUR: 'it returns false'. Refute it at one input. -/
def dedupPlaysWrong : ChangeSpec := { name := "dedupPlays", fn := fun _ => fun
  | [d] => { results := [.lit (.bool false)], args := [d] }
  | _ => none }
def DedupPlaysWrongFalsely : Prop := dedupPlaysRow.holds Try.pinned (OpenSpec.ofChange dedupPlaysWrong)

/- THE SECOND FORM. 'bulk': how many values and letters a reading holds, each counted each time it is reached (what is shared counts as often as it is met; a slice's spare places count too). A statement '..UptoSaid' is the law's where the arguments, and the package variables that the reading takes, are together of bulk at most 1048576: NARROWER than '..Said'. Prove '..Said' where nothing that the law and all that it calls make is longer than what came in: it says more and counts as full. Else prove '..UptoSaid'. A law counts once. -/
mutual
def uptoBulk {H : Type} : DataW H → Nat
  | .lit (.string bytes) => bytes.length + 1
  | .lit _ => 1
  | .nil => 1
  | .ptr d => uptoBulk d + 1
  | .slice elems spare => uptoBulkAll elems + uptoBulkAll spare + 1
  | .agg parts => uptoBulkAll parts + 1
  | .iface _ d => uptoBulk d + 1
  | .map entries => uptoBulkEntries entries + 1
  | .held _ => 1
def uptoBulkAll {H : Type} : List (DataW H) → Nat
  | [] => 0
  | d :: r => uptoBulk d + uptoBulkAll r
def uptoBulkEntries {H : Type} : List (Lit × DataW H) → Nat
  | [] => 0
  | x :: r => uptoBulkEntry x + uptoBulkEntries r
def uptoBulkEntry {H : Type} : Lit × DataW H → Nat
  | (.string bytes, d) => bytes.length + uptoBulk d + 1
  | (_, d) => uptoBulk d + 1
 end
def uptoSmall : (H : Type) → List (DataW H) → Bool := fun _ ds => decide (uptoBulkAll ds ≤ 1048576)
def OpenSpec.upto (s : _root_.Go.ChangeSpec) : _root_.Go.OpenSpec := { _root_.Go.OpenSpec.ofChange s with cond := some uptoSmall }

/-- 'notcherlaw18.DedupEntries', WHERE WHAT IT READS IS OF BULK AT MOST 1048576: true; the input reads as it did. -/
def dedupEntriesUptoRow : OpenClaim := { program := "ythemdfcokphjeaa", sum := "df82cd4cb6e0373f97d8e028d6caa99305381cbbd1276acd232fc4815f51444d", func := "notcher/notcherlaw18.DedupEntries", spec := "dedupEntries", recurses := true, plainKeys := false, apart := false, narrowed := true }
def DedupEntriesUptoSaid : Prop := dedupEntriesUptoRow.holds Try.pinned (OpenSpec.upto dedupEntriesSpec)

/-- 'notcherlaw18.DedupCut', WHERE WHAT IT READS IS OF BULK AT MOST 1048576: true; the input reads as it did. -/
def dedupCutUptoRow : OpenClaim := { program := "ythemdfcokphjeaa", sum := "df82cd4cb6e0373f97d8e028d6caa99305381cbbd1276acd232fc4815f51444d", func := "notcher/notcherlaw18.DedupCut", spec := "dedupCut", plainKeys := false, apart := false, narrowed := true }
def DedupCutUptoSaid : Prop := dedupCutUptoRow.holds Try.pinned (OpenSpec.upto dedupCutSpec)

/-- 'notcherlaw18.DedupOnce', WHERE WHAT IT READS IS OF BULK AT MOST 1048576: true; the input reads as it did. -/
def dedupOnceUptoRow : OpenClaim := { program := "ythemdfcokphjeaa", sum := "df82cd4cb6e0373f97d8e028d6caa99305381cbbd1276acd232fc4815f51444d", func := "notcher/notcherlaw18.DedupOnce", spec := "dedupOnce", plainKeys := false, apart := false, narrowed := true }
def DedupOnceUptoSaid : Prop := dedupOnceUptoRow.holds Try.pinned (OpenSpec.upto dedupOnceSpec)

/-- 'notcherlaw18.DedupLast', WHERE WHAT IT READS IS OF BULK AT MOST 1048576: true; the input reads as it did. -/
def dedupLastUptoRow : OpenClaim := { program := "ythemdfcokphjeaa", sum := "df82cd4cb6e0373f97d8e028d6caa99305381cbbd1276acd232fc4815f51444d", func := "notcher/notcherlaw18.DedupLast", spec := "dedupLast", plainKeys := false, apart := false, narrowed := true }
def DedupLastUptoSaid : Prop := dedupLastUptoRow.holds Try.pinned (OpenSpec.upto dedupLastSpec)

/-- 'notcherlaw18.DedupPlays', WHERE WHAT IT READS IS OF BULK AT MOST 1048576: true; the input reads as it did. -/
def dedupPlaysUptoRow : OpenClaim := { program := "ythemdfcokphjeaa", sum := "df82cd4cb6e0373f97d8e028d6caa99305381cbbd1276acd232fc4815f51444d", func := "notcher/notcherlaw18.DedupPlays", spec := "dedupPlays", plainKeys := false, apart := false, narrowed := true }
def DedupPlaysUptoSaid : Prop := dedupPlaysUptoRow.holds Try.pinned (OpenSpec.upto dedupPlaysSpec)

end Rows
end Go.Proofs.Ythemdfcokphjeaa
