/-
  NARROWER THAN 'FOR EVERY INPUT', by the rows' own cells (each row's printed sentence says how): MsgGets: laid · MsgPuts: laid · MsgOne: laid · MsgKinds: laid · MsgCut: laid · MsgUnlike: laid.
  DERIVED. THE GIVEN ROWS OF THIS SEAT. 6 by the template 'for every input the law returns true; each argument reads behind the call as it read before'; 0 by the template 'total and deterministic' (their statements: YtadgokegjmigoaaDoorTotals.lean).
  GIVEN WITH THE SEED: the statements are not yours to turn. If you find one false, say at which input.
  Laid BY PROGRAM, IN A SANDBOX (cutbox-rows.mjs): the forced cells as the released guide's own fill.sh prints them over the translation bc0a40cd308d7f81… (all of the seat's roots in one cut). By AI agents, Wed Nov 11 2026. No macro, syntax, notation, axiom, sorry.
-/
import Derived.Test.YtadgokegjmigoaaDoorChecked
import GoSem.Claim
import GoSem.ClaimJoined
import GoSem.ClaimMapViews
import Derived.JoinedTies
import Derived.KernelRfl
namespace Go.Proofs.YtadgokegjmigoaaDoor
/- THE CELL 'sum', in the pinned program and in every row, IS THE sha256 OF THE DUMP (.gsa) THAT YtadgokegjmigoaaDoorProg.lean LOADS. Nothing in Lean hashes anything: it is a label: what it is worth is what the hold of that sum in a sandbox is worth. -/
noncomputable def Tryd.pinned : Pinned := { name := "ytadgokegjmigoaadoor", sum := "bc0a40cd308d7f8136aaf320a7851935bbc5897d6d6e99aa8dada06e38d164f1", checked := Tryd.checked }
namespace Rows
def none {H : Type} : Left H := { results := [], args := [] }

/- WHAT THE LISTED PACKAGE-LEVEL VARIABLES READ AS WHEN THE CALL BEGINS. Each datum BY PROGRAM (the guide's laid-datum.mjs) off the statement by which the dump's own 'gosem.cut.vars' lays the variable. In a bare row this is a premise. The card (YtadgokegjmigoaaDoorCards.lean) ties it to the program's text. -/
def laid_notcher_msg_fields {H : Type} : DataW H := .agg [.lit (.int .u64 0), .lit (.int .u64 572), .lit (.int .u64 252), .lit (.int .u64 636), .lit (.int .u64 76), .lit (.int .u64 76), .lit (.int .u64 268), .lit (.int .u64 3), .lit (.int .u64 515), .lit (.int .u64 515), .lit (.int .u64 3), .lit (.int .u64 1), .lit (.int .u64 514), .lit (.int .u64 2), .lit (.int .u64 112), .lit (.int .u64 764), .lit (.int .u64 252), .lit (.int .u64 240), .lit (.int .u64 3)]

/-- 'notcherlaw04.MsgGets': WHATEVER THE INPUT: true; the input reads as it did. -/
def msgGetsSpec : ChangeSpec := { name := "msgGets", fn := fun _ => fun
  | [d1, d2, d3] => { results := [.lit (.bool true)], args := [d1, d2, d3] }
  | _ => none }
def msgGetsRow : OpenClaim := { program := "ytadgokegjmigoaadoor", sum := "bc0a40cd308d7f8136aaf320a7851935bbc5897d6d6e99aa8dada06e38d164f1", func := "notcher/notcherlaw04.MsgGets", spec := "msgGets", unfollowed := true, recurses := true, named := ["notcher/msg.fields"], apart := false, laid := [("notcher/msg.fields", laid_notcher_msg_fields)] }
def MsgGetsSaid : Prop := msgGetsRow.holds Tryd.pinned (OpenSpec.ofChange msgGetsSpec)

/-- ITS FALSE NEIGHBOUR: 'it returns false'. Refute it at one input. -/
def msgGetsWrong : ChangeSpec := { name := "msgGets", fn := fun _ => fun
  | [d1, d2, d3] => { results := [.lit (.bool false)], args := [d1, d2, d3] }
  | _ => none }
def MsgGetsWrongFalsely : Prop := msgGetsRow.holds Tryd.pinned (OpenSpec.ofChange msgGetsWrong)

/-- 'notcherlaw04.MsgPuts': WHATEVER THE INPUT: true; the input reads as it did. -/
def msgPutsSpec : ChangeSpec := { name := "msgPuts", fn := fun _ => fun
  | [d] => { results := [.lit (.bool true)], args := [d] }
  | _ => none }
def msgPutsRow : OpenClaim := { program := "ytadgokegjmigoaadoor", sum := "bc0a40cd308d7f8136aaf320a7851935bbc5897d6d6e99aa8dada06e38d164f1", func := "notcher/notcherlaw04.MsgPuts", spec := "msgPuts", unfollowed := true, recurses := true, named := ["notcher/msg.fields"], apart := false, laid := [("notcher/msg.fields", laid_notcher_msg_fields)] }
def MsgPutsSaid : Prop := msgPutsRow.holds Tryd.pinned (OpenSpec.ofChange msgPutsSpec)

/-- ITS FALSE NEIGHBOUR: 'it returns false'. Refute it at one input. -/
def msgPutsWrong : ChangeSpec := { name := "msgPuts", fn := fun _ => fun
  | [d] => { results := [.lit (.bool false)], args := [d] }
  | _ => none }
def MsgPutsWrongFalsely : Prop := msgPutsRow.holds Tryd.pinned (OpenSpec.ofChange msgPutsWrong)

/-- 'notcherlaw04.MsgOne': WHATEVER THE INPUT: true; the input reads as it did. -/
def msgOneSpec : ChangeSpec := { name := "msgOne", fn := fun _ => fun
  | [d1, d2, d3] => { results := [.lit (.bool true)], args := [d1, d2, d3] }
  | _ => none }
def msgOneRow : OpenClaim := { program := "ytadgokegjmigoaadoor", sum := "bc0a40cd308d7f8136aaf320a7851935bbc5897d6d6e99aa8dada06e38d164f1", func := "notcher/notcherlaw04.MsgOne", spec := "msgOne", unfollowed := true, recurses := true, named := ["notcher/msg.fields"], apart := false, laid := [("notcher/msg.fields", laid_notcher_msg_fields)] }
def MsgOneSaid : Prop := msgOneRow.holds Tryd.pinned (OpenSpec.ofChange msgOneSpec)

/-- ITS FALSE NEIGHBOUR: 'it returns false'. Refute it at one input. -/
def msgOneWrong : ChangeSpec := { name := "msgOne", fn := fun _ => fun
  | [d1, d2, d3] => { results := [.lit (.bool false)], args := [d1, d2, d3] }
  | _ => none }
def MsgOneWrongFalsely : Prop := msgOneRow.holds Tryd.pinned (OpenSpec.ofChange msgOneWrong)

/-- 'notcherlaw04.MsgKinds': WHATEVER THE INPUT: true; the input reads as it did. -/
def msgKindsSpec : ChangeSpec := { name := "msgKinds", fn := fun _ => fun
  | [d1, d2] => { results := [.lit (.bool true)], args := [d1, d2] }
  | _ => none }
def msgKindsRow : OpenClaim := { program := "ytadgokegjmigoaadoor", sum := "bc0a40cd308d7f8136aaf320a7851935bbc5897d6d6e99aa8dada06e38d164f1", func := "notcher/notcherlaw04.MsgKinds", spec := "msgKinds", unfollowed := true, recurses := true, named := ["notcher/msg.fields"], apart := false, laid := [("notcher/msg.fields", laid_notcher_msg_fields)] }
def MsgKindsSaid : Prop := msgKindsRow.holds Tryd.pinned (OpenSpec.ofChange msgKindsSpec)

/-- ITS FALSE NEIGHBOUR: 'it returns false'. Refute it at one input. -/
def msgKindsWrong : ChangeSpec := { name := "msgKinds", fn := fun _ => fun
  | [d1, d2] => { results := [.lit (.bool false)], args := [d1, d2] }
  | _ => none }
def MsgKindsWrongFalsely : Prop := msgKindsRow.holds Tryd.pinned (OpenSpec.ofChange msgKindsWrong)

/-- 'notcherlaw04.MsgCut': WHATEVER THE INPUT: true; the input reads as it did. -/
def msgCutSpec : ChangeSpec := { name := "msgCut", fn := fun _ => fun
  | [d1, d2, d3] => { results := [.lit (.bool true)], args := [d1, d2, d3] }
  | _ => none }
def msgCutRow : OpenClaim := { program := "ytadgokegjmigoaadoor", sum := "bc0a40cd308d7f8136aaf320a7851935bbc5897d6d6e99aa8dada06e38d164f1", func := "notcher/notcherlaw04.MsgCut", spec := "msgCut", unfollowed := true, recurses := true, named := ["notcher/msg.fields"], apart := false, laid := [("notcher/msg.fields", laid_notcher_msg_fields)] }
def MsgCutSaid : Prop := msgCutRow.holds Tryd.pinned (OpenSpec.ofChange msgCutSpec)

/-- ITS FALSE NEIGHBOUR: 'it returns false'. Refute it at one input. -/
def msgCutWrong : ChangeSpec := { name := "msgCut", fn := fun _ => fun
  | [d1, d2, d3] => { results := [.lit (.bool false)], args := [d1, d2, d3] }
  | _ => none }
def MsgCutWrongFalsely : Prop := msgCutRow.holds Tryd.pinned (OpenSpec.ofChange msgCutWrong)

/-- 'notcherlaw04.MsgUnlike': WHATEVER THE INPUT: true; the input reads as it did. -/
def msgUnlikeSpec : ChangeSpec := { name := "msgUnlike", fn := fun _ => fun
  | [d1, d2, d3] => { results := [.lit (.bool true)], args := [d1, d2, d3] }
  | _ => none }
def msgUnlikeRow : OpenClaim := { program := "ytadgokegjmigoaadoor", sum := "bc0a40cd308d7f8136aaf320a7851935bbc5897d6d6e99aa8dada06e38d164f1", func := "notcher/notcherlaw04.MsgUnlike", spec := "msgUnlike", unfollowed := true, recurses := true, named := ["notcher/msg.fields"], apart := false, laid := [("notcher/msg.fields", laid_notcher_msg_fields)] }
def MsgUnlikeSaid : Prop := msgUnlikeRow.holds Tryd.pinned (OpenSpec.ofChange msgUnlikeSpec)

/-- ITS FALSE NEIGHBOUR: 'it returns false'. Refute it at one input. -/
def msgUnlikeWrong : ChangeSpec := { name := "msgUnlike", fn := fun _ => fun
  | [d1, d2, d3] => { results := [.lit (.bool false)], args := [d1, d2, d3] }
  | _ => none }
def MsgUnlikeWrongFalsely : Prop := msgUnlikeRow.holds Tryd.pinned (OpenSpec.ofChange msgUnlikeWrong)

/- THE SECOND FORM. 'bulk': how many values and letters a reading holds, each counted each time it is reached (what is shared counts as often as it is met; a slice's spare places count too). A statement '..UptoSaid' is the law's where the arguments, and the package variables that the reading takes, are together of bulk at most 1048576: NARROWER than '..Said'. Prove '..Said' where nothing that the law and all that it calls make is longer than what came in: it says more and counts as full. Else prove '..UptoSaid'. A law counts once. -/
mutual
def uptoBulk {H : Type} : DataW H → Nat
  | .lit (.string bytes) => bytes.length + 1
  | .lit _ => 1
  | .nil => 1
  | .ptr d => uptoBulk d + 1
  | .slice elems spare => uptoBulkAll elems + uptoBulkAll spare + 1
  | .agg parts => uptoBulkAll parts + 1
  | .iface _ d => uptoBulk d + 1
  | .map entries => uptoBulkEntries entries + 1
  | .held _ => 1
def uptoBulkAll {H : Type} : List (DataW H) → Nat
  | [] => 0
  | d :: r => uptoBulk d + uptoBulkAll r
def uptoBulkEntries {H : Type} : List (Lit × DataW H) → Nat
  | [] => 0
  | x :: r => uptoBulkEntry x + uptoBulkEntries r
def uptoBulkEntry {H : Type} : Lit × DataW H → Nat
  | (.string bytes, d) => bytes.length + uptoBulk d + 1
  | (_, d) => uptoBulk d + 1
 end
def uptoSmall : (H : Type) → List (DataW H) → Bool := fun _ ds => decide (uptoBulkAll ds ≤ 1048576)
def OpenSpec.upto (s : _root_.Go.ChangeSpec) : _root_.Go.OpenSpec := { _root_.Go.OpenSpec.ofChange s with cond := some uptoSmall }

/-- 'notcherlaw04.MsgGets', WHERE WHAT IT READS IS OF BULK AT MOST 1048576: true; the input reads as it did. -/
def msgGetsUptoRow : OpenClaim := { program := "ytadgokegjmigoaadoor", sum := "bc0a40cd308d7f8136aaf320a7851935bbc5897d6d6e99aa8dada06e38d164f1", func := "notcher/notcherlaw04.MsgGets", spec := "msgGets", unfollowed := true, recurses := true, named := ["notcher/msg.fields"], apart := false, laid := [("notcher/msg.fields", laid_notcher_msg_fields)], narrowed := true }
def MsgGetsUptoSaid : Prop := msgGetsUptoRow.holds Tryd.pinned (OpenSpec.upto msgGetsSpec)

/-- 'notcherlaw04.MsgPuts', WHERE WHAT IT READS IS OF BULK AT MOST 1048576: true; the input reads as it did. -/
def msgPutsUptoRow : OpenClaim := { program := "ytadgokegjmigoaadoor", sum := "bc0a40cd308d7f8136aaf320a7851935bbc5897d6d6e99aa8dada06e38d164f1", func := "notcher/notcherlaw04.MsgPuts", spec := "msgPuts", unfollowed := true, recurses := true, named := ["notcher/msg.fields"], apart := false, laid := [("notcher/msg.fields", laid_notcher_msg_fields)], narrowed := true }
def MsgPutsUptoSaid : Prop := msgPutsUptoRow.holds Tryd.pinned (OpenSpec.upto msgPutsSpec)

/-- 'notcherlaw04.MsgOne', WHERE WHAT IT READS IS OF BULK AT MOST 1048576: true; the input reads as it did. -/
def msgOneUptoRow : OpenClaim := { program := "ytadgokegjmigoaadoor", sum := "bc0a40cd308d7f8136aaf320a7851935bbc5897d6d6e99aa8dada06e38d164f1", func := "notcher/notcherlaw04.MsgOne", spec := "msgOne", unfollowed := true, recurses := true, named := ["notcher/msg.fields"], apart := false, laid := [("notcher/msg.fields", laid_notcher_msg_fields)], narrowed := true }
def MsgOneUptoSaid : Prop := msgOneUptoRow.holds Tryd.pinned (OpenSpec.upto msgOneSpec)

/-- 'notcherlaw04.MsgKinds', WHERE WHAT IT READS IS OF BULK AT MOST 1048576: true; the input reads as it did. -/
def msgKindsUptoRow : OpenClaim := { program := "ytadgokegjmigoaadoor", sum := "bc0a40cd308d7f8136aaf320a7851935bbc5897d6d6e99aa8dada06e38d164f1", func := "notcher/notcherlaw04.MsgKinds", spec := "msgKinds", unfollowed := true, recurses := true, named := ["notcher/msg.fields"], apart := false, laid := [("notcher/msg.fields", laid_notcher_msg_fields)], narrowed := true }
def MsgKindsUptoSaid : Prop := msgKindsUptoRow.holds Tryd.pinned (OpenSpec.upto msgKindsSpec)

/-- 'notcherlaw04.MsgCut', WHERE WHAT IT READS IS OF BULK AT MOST 1048576: true; the input reads as it did. -/
def msgCutUptoRow : OpenClaim := { program := "ytadgokegjmigoaadoor", sum := "bc0a40cd308d7f8136aaf320a7851935bbc5897d6d6e99aa8dada06e38d164f1", func := "notcher/notcherlaw04.MsgCut", spec := "msgCut", unfollowed := true, recurses := true, named := ["notcher/msg.fields"], apart := false, laid := [("notcher/msg.fields", laid_notcher_msg_fields)], narrowed := true }
def MsgCutUptoSaid : Prop := msgCutUptoRow.holds Tryd.pinned (OpenSpec.upto msgCutSpec)

/-- 'notcherlaw04.MsgUnlike', WHERE WHAT IT READS IS OF BULK AT MOST 1048576: true; the input reads as it did. -/
def msgUnlikeUptoRow : OpenClaim := { program := "ytadgokegjmigoaadoor", sum := "bc0a40cd308d7f8136aaf320a7851935bbc5897d6d6e99aa8dada06e38d164f1", func := "notcher/notcherlaw04.MsgUnlike", spec := "msgUnlike", unfollowed := true, recurses := true, named := ["notcher/msg.fields"], apart := false, laid := [("notcher/msg.fields", laid_notcher_msg_fields)], narrowed := true }
def MsgUnlikeUptoSaid : Prop := msgUnlikeUptoRow.holds Tryd.pinned (OpenSpec.upto msgUnlikeSpec)

end Rows
end Go.Proofs.YtadgokegjmigoaaDoor
