/-
  No cell of these rows narrows 'for every input' (looked for: loops, veiled, ifaces, maps, wideKeys, modest, calm, conditions, laid).
  DERIVED. THE GIVEN ROWS OF THIS SEAT. 5 by the template 'for every input the law returns true; each argument reads behind the call as it read before'; 0 by the template 'total and deterministic' (their statements: YtjfidhjnbcmhfaaTotals.lean).
  GIVEN WITH THE SEED: the statements are not yours to turn. If you find one false, say at which input.
  Laid BY PROGRAM, IN A SANDBOX (cutbox-rows.mjs): the forced cells as the released guide's own fill.sh prints them over the translation 59c79236ca8568df… (all of the seat's roots in one cut). By AI agents, Wed Nov 11 2026. No macro, syntax, notation, axiom, sorry.
-/
import Derived.Test.YtjfidhjnbcmhfaaChecked
import GoSem.Claim
import GoSem.ClaimJoined
import GoSem.ClaimMapViews
import Derived.JoinedTies
import Derived.KernelRfl
namespace Go.Proofs.Ytjfidhjnbcmhfaa
/- THE CELL 'sum', in the pinned program and in every row, IS THE sha256 OF THE DUMP (.gsa) THAT YtjfidhjnbcmhfaaProg.lean LOADS. Nothing in Lean hashes anything: it is a label: what it is worth is what the hold of that sum in a sandbox is worth. -/
noncomputable def Try.pinned : Pinned := { name := "ytjfidhjnbcmhfaa", sum := "59c79236ca8568df6198a5bdc24e4b63e0068b63ca581e600150a54843d31e32", checked := Try.checked }
namespace Rows
def none {H : Type} : Left H := { results := [], args := [] }

/-- 'notcherlaw19.ReplicaOwn': WHATEVER THE INPUT: true; the input reads as it did. -/
def replicaOwnSpec : ChangeSpec := { name := "replicaOwn", fn := fun _ => fun
  | [d1, d2, d3, d4] => { results := [.lit (.bool true)], args := [d1, d2, d3, d4] }
  | _ => none }
def replicaOwnRow : OpenClaim := { program := "ytjfidhjnbcmhfaa", sum := "59c79236ca8568df6198a5bdc24e4b63e0068b63ca581e600150a54843d31e32", func := "notcher/notcherlaw19.ReplicaOwn", spec := "replicaOwn", unfollowed := true, recurses := true, plainKeys := false, apart := false }
def ReplicaOwnSaid : Prop := replicaOwnRow.holds Try.pinned (OpenSpec.ofChange replicaOwnSpec)

/-- ITS FALSE NEIGHBOUR: 'it returns false'. Refute it at one input. -/
def replicaOwnWrong : ChangeSpec := { name := "replicaOwn", fn := fun _ => fun
  | [d1, d2, d3, d4] => { results := [.lit (.bool false)], args := [d1, d2, d3, d4] }
  | _ => none }
def ReplicaOwnWrongFalsely : Prop := replicaOwnRow.holds Try.pinned (OpenSpec.ofChange replicaOwnWrong)

/-- 'notcherlaw19.ReplicaRoom': WHATEVER THE INPUT: true; the input reads as it did. -/
def replicaRoomSpec : ChangeSpec := { name := "replicaRoom", fn := fun _ => fun
  | [d1, d2] => { results := [.lit (.bool true)], args := [d1, d2] }
  | _ => none }
def replicaRoomRow : OpenClaim := { program := "ytjfidhjnbcmhfaa", sum := "59c79236ca8568df6198a5bdc24e4b63e0068b63ca581e600150a54843d31e32", func := "notcher/notcherlaw19.ReplicaRoom", spec := "replicaRoom", unfollowed := true, recurses := true, plainKeys := false, apart := false }
def ReplicaRoomSaid : Prop := replicaRoomRow.holds Try.pinned (OpenSpec.ofChange replicaRoomSpec)

/-- ITS FALSE NEIGHBOUR: 'it returns false'. Refute it at one input. -/
def replicaRoomWrong : ChangeSpec := { name := "replicaRoom", fn := fun _ => fun
  | [d1, d2] => { results := [.lit (.bool false)], args := [d1, d2] }
  | _ => none }
def ReplicaRoomWrongFalsely : Prop := replicaRoomRow.holds Try.pinned (OpenSpec.ofChange replicaRoomWrong)

/-- 'notcherlaw19.ReplicaKeeps': WHATEVER THE INPUT: true; the input reads as it did. -/
def replicaKeepsSpec : ChangeSpec := { name := "replicaKeeps", fn := fun _ => fun
  | [d1, d2, d3, d4] => { results := [.lit (.bool true)], args := [d1, d2, d3, d4] }
  | _ => none }
def replicaKeepsRow : OpenClaim := { program := "ytjfidhjnbcmhfaa", sum := "59c79236ca8568df6198a5bdc24e4b63e0068b63ca581e600150a54843d31e32", func := "notcher/notcherlaw19.ReplicaKeeps", spec := "replicaKeeps", unfollowed := true, recurses := true, plainKeys := false, apart := false }
def ReplicaKeepsSaid : Prop := replicaKeepsRow.holds Try.pinned (OpenSpec.ofChange replicaKeepsSpec)

/-- ITS FALSE NEIGHBOUR: 'it returns false'. Refute it at one input. -/
def replicaKeepsWrong : ChangeSpec := { name := "replicaKeeps", fn := fun _ => fun
  | [d1, d2, d3, d4] => { results := [.lit (.bool false)], args := [d1, d2, d3, d4] }
  | _ => none }
def ReplicaKeepsWrongFalsely : Prop := replicaKeepsRow.holds Try.pinned (OpenSpec.ofChange replicaKeepsWrong)

/-- 'notcherlaw19.ReplicaSeals': WHATEVER THE INPUT: true; the input reads as it did. -/
def replicaSealsSpec : ChangeSpec := { name := "replicaSeals", fn := fun _ => fun
  | [d1, d2] => { results := [.lit (.bool true)], args := [d1, d2] }
  | _ => none }
def replicaSealsRow : OpenClaim := { program := "ytjfidhjnbcmhfaa", sum := "59c79236ca8568df6198a5bdc24e4b63e0068b63ca581e600150a54843d31e32", func := "notcher/notcherlaw19.ReplicaSeals", spec := "replicaSeals", unfollowed := true, recurses := true, plainKeys := false, apart := false }
def ReplicaSealsSaid : Prop := replicaSealsRow.holds Try.pinned (OpenSpec.ofChange replicaSealsSpec)

/-- ITS FALSE NEIGHBOUR: 'it returns false'. Refute it at one input. -/
def replicaSealsWrong : ChangeSpec := { name := "replicaSeals", fn := fun _ => fun
  | [d1, d2] => { results := [.lit (.bool false)], args := [d1, d2] }
  | _ => none }
def ReplicaSealsWrongFalsely : Prop := replicaSealsRow.holds Try.pinned (OpenSpec.ofChange replicaSealsWrong)

/-- 'notcherlaw19.ReplicaFollows': WHATEVER THE INPUT: true; the input reads as it did. -/
def replicaFollowsSpec : ChangeSpec := { name := "replicaFollows", fn := fun _ => fun
  | [d1, d2] => { results := [.lit (.bool true)], args := [d1, d2] }
  | _ => none }
def replicaFollowsRow : OpenClaim := { program := "ytjfidhjnbcmhfaa", sum := "59c79236ca8568df6198a5bdc24e4b63e0068b63ca581e600150a54843d31e32", func := "notcher/notcherlaw19.ReplicaFollows", spec := "replicaFollows", unfollowed := true, recurses := true, plainKeys := false, apart := false }
def ReplicaFollowsSaid : Prop := replicaFollowsRow.holds Try.pinned (OpenSpec.ofChange replicaFollowsSpec)

/-- ITS FALSE NEIGHBOUR: 'it returns false'. Refute it at one input. -/
def replicaFollowsWrong : ChangeSpec := { name := "replicaFollows", fn := fun _ => fun
  | [d1, d2] => { results := [.lit (.bool false)], args := [d1, d2] }
  | _ => none }
def ReplicaFollowsWrongFalsely : Prop := replicaFollowsRow.holds Try.pinned (OpenSpec.ofChange replicaFollowsWrong)

/- THE SECOND FORM. 'bulk': how many values and letters a reading holds, each counted each time it is reached (what is shared counts as often as it is met; a slice's spare places count too). A statement '..UptoSaid' is the law's where the arguments, and the package variables that the reading takes, are together of bulk at most 1048576: NARROWER than '..Said'. Prove '..Said' where nothing that the law and all that it calls make is longer than what came in: it says more and counts as full. Else prove '..UptoSaid'. A law counts once. -/
mutual
def uptoBulk {H : Type} : DataW H → Nat
  | .lit (.string bytes) => bytes.length + 1
  | .lit _ => 1
  | .nil => 1
  | .ptr d => uptoBulk d + 1
  | .slice elems spare => uptoBulkAll elems + uptoBulkAll spare + 1
  | .agg parts => uptoBulkAll parts + 1
  | .iface _ d => uptoBulk d + 1
  | .map entries => uptoBulkEntries entries + 1
  | .held _ => 1
def uptoBulkAll {H : Type} : List (DataW H) → Nat
  | [] => 0
  | d :: r => uptoBulk d + uptoBulkAll r
def uptoBulkEntries {H : Type} : List (Lit × DataW H) → Nat
  | [] => 0
  | x :: r => uptoBulkEntry x + uptoBulkEntries r
def uptoBulkEntry {H : Type} : Lit × DataW H → Nat
  | (.string bytes, d) => bytes.length + uptoBulk d + 1
  | (_, d) => uptoBulk d + 1
 end
def uptoSmall : (H : Type) → List (DataW H) → Bool := fun _ ds => decide (uptoBulkAll ds ≤ 1048576)
def OpenSpec.upto (s : _root_.Go.ChangeSpec) : _root_.Go.OpenSpec := { _root_.Go.OpenSpec.ofChange s with cond := some uptoSmall }

/-- 'notcherlaw19.ReplicaOwn', WHERE WHAT IT READS IS OF BULK AT MOST 1048576: true; the input reads as it did. -/
def replicaOwnUptoRow : OpenClaim := { program := "ytjfidhjnbcmhfaa", sum := "59c79236ca8568df6198a5bdc24e4b63e0068b63ca581e600150a54843d31e32", func := "notcher/notcherlaw19.ReplicaOwn", spec := "replicaOwn", unfollowed := true, recurses := true, plainKeys := false, apart := false, narrowed := true }
def ReplicaOwnUptoSaid : Prop := replicaOwnUptoRow.holds Try.pinned (OpenSpec.upto replicaOwnSpec)

/-- 'notcherlaw19.ReplicaRoom', WHERE WHAT IT READS IS OF BULK AT MOST 1048576: true; the input reads as it did. -/
def replicaRoomUptoRow : OpenClaim := { program := "ytjfidhjnbcmhfaa", sum := "59c79236ca8568df6198a5bdc24e4b63e0068b63ca581e600150a54843d31e32", func := "notcher/notcherlaw19.ReplicaRoom", spec := "replicaRoom", unfollowed := true, recurses := true, plainKeys := false, apart := false, narrowed := true }
def ReplicaRoomUptoSaid : Prop := replicaRoomUptoRow.holds Try.pinned (OpenSpec.upto replicaRoomSpec)

/-- 'notcherlaw19.ReplicaKeeps', WHERE WHAT IT READS IS OF BULK AT MOST 1048576: true; the input reads as it did. -/
def replicaKeepsUptoRow : OpenClaim := { program := "ytjfidhjnbcmhfaa", sum := "59c79236ca8568df6198a5bdc24e4b63e0068b63ca581e600150a54843d31e32", func := "notcher/notcherlaw19.ReplicaKeeps", spec := "replicaKeeps", unfollowed := true, recurses := true, plainKeys := false, apart := false, narrowed := true }
def ReplicaKeepsUptoSaid : Prop := replicaKeepsUptoRow.holds Try.pinned (OpenSpec.upto replicaKeepsSpec)

/-- 'notcherlaw19.ReplicaSeals', WHERE WHAT IT READS IS OF BULK AT MOST 1048576: true; the input reads as it did. -/
def replicaSealsUptoRow : OpenClaim := { program := "ytjfidhjnbcmhfaa", sum := "59c79236ca8568df6198a5bdc24e4b63e0068b63ca581e600150a54843d31e32", func := "notcher/notcherlaw19.ReplicaSeals", spec := "replicaSeals", unfollowed := true, recurses := true, plainKeys := false, apart := false, narrowed := true }
def ReplicaSealsUptoSaid : Prop := replicaSealsUptoRow.holds Try.pinned (OpenSpec.upto replicaSealsSpec)

/-- 'notcherlaw19.ReplicaFollows', WHERE WHAT IT READS IS OF BULK AT MOST 1048576: true; the input reads as it did. -/
def replicaFollowsUptoRow : OpenClaim := { program := "ytjfidhjnbcmhfaa", sum := "59c79236ca8568df6198a5bdc24e4b63e0068b63ca581e600150a54843d31e32", func := "notcher/notcherlaw19.ReplicaFollows", spec := "replicaFollows", unfollowed := true, recurses := true, plainKeys := false, apart := false, narrowed := true }
def ReplicaFollowsUptoSaid : Prop := replicaFollowsUptoRow.holds Try.pinned (OpenSpec.upto replicaFollowsSpec)

end Rows
end Go.Proofs.Ytjfidhjnbcmhfaa
