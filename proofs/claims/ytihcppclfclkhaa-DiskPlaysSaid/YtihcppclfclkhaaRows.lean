/-
  No cell of these rows narrows 'for every input' (looked for: loops, veiled, ifaces, maps, wideKeys, modest, calm, conditions, laid).
  DERIVED. THE GIVEN ROWS OF THIS SEAT. 6 by the template 'for every input the law returns true; each argument reads behind the call as it read before'; 0 by the template 'total and deterministic' (their statements: YtihcppclfclkhaaTotals.lean).
  GIVEN WITH THE SEED: the statements are not yours to turn. If you find one false, say at which input.
  Laid BY PROGRAM, IN A SANDBOX (cutbox-rows.mjs): the forced cells as the released guide's own fill.sh prints them over the translation b52e1a270d6ba99e… (all of the seat's roots in one cut). By AI agents, Wed Nov 11 2026. No macro, syntax, notation, axiom, sorry.
-/
import Derived.Test.YtihcppclfclkhaaChecked
import GoSem.Claim
import GoSem.ClaimJoined
import GoSem.ClaimMapViews
import Derived.JoinedTies
import Derived.KernelRfl
namespace Go.Proofs.Ytihcppclfclkhaa
/- THE CELL 'sum', in the pinned program and in every row, IS THE sha256 OF THE DUMP (.gsa) THAT YtihcppclfclkhaaProg.lean LOADS. Nothing in Lean hashes anything: it is a label: what it is worth is what the hold of that sum in a sandbox is worth. -/
noncomputable def Try.pinned : Pinned := { name := "ytihcppclfclkhaa", sum := "b52e1a270d6ba99e41d910f81334858baa72a2fe077050fcfe5a170ac98daf10", checked := Try.checked }
namespace Rows
def none {H : Type} : Left H := { results := [], args := [] }

/-- 'notcherlaw06.DiskReads': WHATEVER THE INPUT: true; the input reads as it did. -/
def diskReadsSpec : ChangeSpec := { name := "diskReads", fn := fun _ => fun
  | [d1, d2] => { results := [.lit (.bool true)], args := [d1, d2] }
  | _ => none }
def diskReadsRow : OpenClaim := { program := "ytihcppclfclkhaa", sum := "b52e1a270d6ba99e41d910f81334858baa72a2fe077050fcfe5a170ac98daf10", func := "notcher/notcherlaw06.DiskReads", spec := "diskReads", apart := false }
def DiskReadsSaid : Prop := diskReadsRow.holds Try.pinned (OpenSpec.ofChange diskReadsSpec)

/-- ITS FALSE NEIGHBOUR: 'it returns false'. Refute it at one input. -/
def diskReadsWrong : ChangeSpec := { name := "diskReads", fn := fun _ => fun
  | [d1, d2] => { results := [.lit (.bool false)], args := [d1, d2] }
  | _ => none }
def DiskReadsWrongFalsely : Prop := diskReadsRow.holds Try.pinned (OpenSpec.ofChange diskReadsWrong)

/-- 'notcherlaw06.DiskTears': WHATEVER THE INPUT: true; the input reads as it did. -/
def diskTearsSpec : ChangeSpec := { name := "diskTears", fn := fun _ => fun
  | [d1, d2, d3] => { results := [.lit (.bool true)], args := [d1, d2, d3] }
  | _ => none }
def diskTearsRow : OpenClaim := { program := "ytihcppclfclkhaa", sum := "b52e1a270d6ba99e41d910f81334858baa72a2fe077050fcfe5a170ac98daf10", func := "notcher/notcherlaw06.DiskTears", spec := "diskTears", apart := false }
def DiskTearsSaid : Prop := diskTearsRow.holds Try.pinned (OpenSpec.ofChange diskTearsSpec)

/-- ITS FALSE NEIGHBOUR: 'it returns false'. Refute it at one input. -/
def diskTearsWrong : ChangeSpec := { name := "diskTears", fn := fun _ => fun
  | [d1, d2, d3] => { results := [.lit (.bool false)], args := [d1, d2, d3] }
  | _ => none }
def DiskTearsWrongFalsely : Prop := diskTearsRow.holds Try.pinned (OpenSpec.ofChange diskTearsWrong)

/-- 'notcherlaw06.DiskLayers': WHATEVER THE INPUT: true; the input reads as it did. -/
def diskLayersSpec : ChangeSpec := { name := "diskLayers", fn := fun _ => fun
  | [d1, d2] => { results := [.lit (.bool true)], args := [d1, d2] }
  | _ => none }
def diskLayersRow : OpenClaim := { program := "ytihcppclfclkhaa", sum := "b52e1a270d6ba99e41d910f81334858baa72a2fe077050fcfe5a170ac98daf10", func := "notcher/notcherlaw06.DiskLayers", spec := "diskLayers", apart := false }
def DiskLayersSaid : Prop := diskLayersRow.holds Try.pinned (OpenSpec.ofChange diskLayersSpec)

/-- ITS FALSE NEIGHBOUR: 'it returns false'. Refute it at one input. -/
def diskLayersWrong : ChangeSpec := { name := "diskLayers", fn := fun _ => fun
  | [d1, d2] => { results := [.lit (.bool false)], args := [d1, d2] }
  | _ => none }
def DiskLayersWrongFalsely : Prop := diskLayersRow.holds Try.pinned (OpenSpec.ofChange diskLayersWrong)

/-- 'notcherlaw06.DiskSure': WHATEVER THE INPUT: true; the input reads as it did. -/
def diskSureSpec : ChangeSpec := { name := "diskSure", fn := fun _ => fun
  | [d1, d2, d3] => { results := [.lit (.bool true)], args := [d1, d2, d3] }
  | _ => none }
def diskSureRow : OpenClaim := { program := "ytihcppclfclkhaa", sum := "b52e1a270d6ba99e41d910f81334858baa72a2fe077050fcfe5a170ac98daf10", func := "notcher/notcherlaw06.DiskSure", spec := "diskSure", apart := false }
def DiskSureSaid : Prop := diskSureRow.holds Try.pinned (OpenSpec.ofChange diskSureSpec)

/-- ITS FALSE NEIGHBOUR: 'it returns false'. Refute it at one input. -/
def diskSureWrong : ChangeSpec := { name := "diskSure", fn := fun _ => fun
  | [d1, d2, d3] => { results := [.lit (.bool false)], args := [d1, d2, d3] }
  | _ => none }
def DiskSureWrongFalsely : Prop := diskSureRow.holds Try.pinned (OpenSpec.ofChange diskSureWrong)

/-- 'notcherlaw06.DiskPlays': WHATEVER THE INPUT: true; the input reads as it did. -/
def diskPlaysSpec : ChangeSpec := { name := "diskPlays", fn := fun _ => fun
  | [d1, d2] => { results := [.lit (.bool true)], args := [d1, d2] }
  | _ => none }
def diskPlaysRow : OpenClaim := { program := "ytihcppclfclkhaa", sum := "b52e1a270d6ba99e41d910f81334858baa72a2fe077050fcfe5a170ac98daf10", func := "notcher/notcherlaw06.DiskPlays", spec := "diskPlays", apart := false }
def DiskPlaysSaid : Prop := diskPlaysRow.holds Try.pinned (OpenSpec.ofChange diskPlaysSpec)

/-- ITS FALSE NEIGHBOUR: 'it returns false'. Refute it at one input. -/
def diskPlaysWrong : ChangeSpec := { name := "diskPlays", fn := fun _ => fun
  | [d1, d2] => { results := [.lit (.bool false)], args := [d1, d2] }
  | _ => none }
def DiskPlaysWrongFalsely : Prop := diskPlaysRow.holds Try.pinned (OpenSpec.ofChange diskPlaysWrong)

/-- 'notcherlaw06.DiskStops': WHATEVER THE INPUT: true; the input reads as it did. -/
def diskStopsSpec : ChangeSpec := { name := "diskStops", fn := fun _ => fun
  | [d1, d2] => { results := [.lit (.bool true)], args := [d1, d2] }
  | _ => none }
def diskStopsRow : OpenClaim := { program := "ytihcppclfclkhaa", sum := "b52e1a270d6ba99e41d910f81334858baa72a2fe077050fcfe5a170ac98daf10", func := "notcher/notcherlaw06.DiskStops", spec := "diskStops", apart := false }
def DiskStopsSaid : Prop := diskStopsRow.holds Try.pinned (OpenSpec.ofChange diskStopsSpec)

/-- ITS FALSE NEIGHBOUR: 'it returns false'. Refute it at one input. -/
def diskStopsWrong : ChangeSpec := { name := "diskStops", fn := fun _ => fun
  | [d1, d2] => { results := [.lit (.bool false)], args := [d1, d2] }
  | _ => none }
def DiskStopsWrongFalsely : Prop := diskStopsRow.holds Try.pinned (OpenSpec.ofChange diskStopsWrong)

/- THE SECOND FORM. 'bulk': how many values and letters a reading holds, each counted each time it is reached (what is shared counts as often as it is met; a slice's spare places count too). A statement '..UptoSaid' is the law's where the arguments, and the package variables that the reading takes, are together of bulk at most 1048576: NARROWER than '..Said'. Prove '..Said' where nothing that the law and all that it calls make is longer than what came in: it says more and counts as full. Else prove '..UptoSaid'. A law counts once. -/
mutual
def uptoBulk {H : Type} : DataW H → Nat
  | .lit (.string bytes) => bytes.length + 1
  | .lit _ => 1
  | .nil => 1
  | .ptr d => uptoBulk d + 1
  | .slice elems spare => uptoBulkAll elems + uptoBulkAll spare + 1
  | .agg parts => uptoBulkAll parts + 1
  | .iface _ d => uptoBulk d + 1
  | .map entries => uptoBulkEntries entries + 1
  | .held _ => 1
def uptoBulkAll {H : Type} : List (DataW H) → Nat
  | [] => 0
  | d :: r => uptoBulk d + uptoBulkAll r
def uptoBulkEntries {H : Type} : List (Lit × DataW H) → Nat
  | [] => 0
  | x :: r => uptoBulkEntry x + uptoBulkEntries r
def uptoBulkEntry {H : Type} : Lit × DataW H → Nat
  | (.string bytes, d) => bytes.length + uptoBulk d + 1
  | (_, d) => uptoBulk d + 1
 end
def uptoSmall : (H : Type) → List (DataW H) → Bool := fun _ ds => decide (uptoBulkAll ds ≤ 1048576)
def OpenSpec.upto (s : _root_.Go.ChangeSpec) : _root_.Go.OpenSpec := { _root_.Go.OpenSpec.ofChange s with cond := some uptoSmall }

/-- 'notcherlaw06.DiskReads', WHERE WHAT IT READS IS OF BULK AT MOST 1048576: true; the input reads as it did. -/
def diskReadsUptoRow : OpenClaim := { program := "ytihcppclfclkhaa", sum := "b52e1a270d6ba99e41d910f81334858baa72a2fe077050fcfe5a170ac98daf10", func := "notcher/notcherlaw06.DiskReads", spec := "diskReads", apart := false, narrowed := true }
def DiskReadsUptoSaid : Prop := diskReadsUptoRow.holds Try.pinned (OpenSpec.upto diskReadsSpec)

/-- 'notcherlaw06.DiskTears', WHERE WHAT IT READS IS OF BULK AT MOST 1048576: true; the input reads as it did. -/
def diskTearsUptoRow : OpenClaim := { program := "ytihcppclfclkhaa", sum := "b52e1a270d6ba99e41d910f81334858baa72a2fe077050fcfe5a170ac98daf10", func := "notcher/notcherlaw06.DiskTears", spec := "diskTears", apart := false, narrowed := true }
def DiskTearsUptoSaid : Prop := diskTearsUptoRow.holds Try.pinned (OpenSpec.upto diskTearsSpec)

/-- 'notcherlaw06.DiskLayers', WHERE WHAT IT READS IS OF BULK AT MOST 1048576: true; the input reads as it did. -/
def diskLayersUptoRow : OpenClaim := { program := "ytihcppclfclkhaa", sum := "b52e1a270d6ba99e41d910f81334858baa72a2fe077050fcfe5a170ac98daf10", func := "notcher/notcherlaw06.DiskLayers", spec := "diskLayers", apart := false, narrowed := true }
def DiskLayersUptoSaid : Prop := diskLayersUptoRow.holds Try.pinned (OpenSpec.upto diskLayersSpec)

/-- 'notcherlaw06.DiskSure', WHERE WHAT IT READS IS OF BULK AT MOST 1048576: true; the input reads as it did. -/
def diskSureUptoRow : OpenClaim := { program := "ytihcppclfclkhaa", sum := "b52e1a270d6ba99e41d910f81334858baa72a2fe077050fcfe5a170ac98daf10", func := "notcher/notcherlaw06.DiskSure", spec := "diskSure", apart := false, narrowed := true }
def DiskSureUptoSaid : Prop := diskSureUptoRow.holds Try.pinned (OpenSpec.upto diskSureSpec)

/-- 'notcherlaw06.DiskPlays', WHERE WHAT IT READS IS OF BULK AT MOST 1048576: true; the input reads as it did. -/
def diskPlaysUptoRow : OpenClaim := { program := "ytihcppclfclkhaa", sum := "b52e1a270d6ba99e41d910f81334858baa72a2fe077050fcfe5a170ac98daf10", func := "notcher/notcherlaw06.DiskPlays", spec := "diskPlays", apart := false, narrowed := true }
def DiskPlaysUptoSaid : Prop := diskPlaysUptoRow.holds Try.pinned (OpenSpec.upto diskPlaysSpec)

/-- 'notcherlaw06.DiskStops', WHERE WHAT IT READS IS OF BULK AT MOST 1048576: true; the input reads as it did. -/
def diskStopsUptoRow : OpenClaim := { program := "ytihcppclfclkhaa", sum := "b52e1a270d6ba99e41d910f81334858baa72a2fe077050fcfe5a170ac98daf10", func := "notcher/notcherlaw06.DiskStops", spec := "diskStops", apart := false, narrowed := true }
def DiskStopsUptoSaid : Prop := diskStopsUptoRow.holds Try.pinned (OpenSpec.upto diskStopsSpec)

end Rows
end Go.Proofs.Ytihcppclfclkhaa
