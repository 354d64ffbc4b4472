/-
  DERIVED. GIVEN WITH THE SEED: THE CARDS: each row of YtadgokegjmigoaaDoorRows.lean that lists a variable, with what it lists TIED to the program's text (the seventh form; the later family's looks); each row that meets fmt, with fmt's text TOLD by the authors' own Lean function (tested against real Go, not proved from fmt's source: count such statements apart). THE CARD IS WHAT COUNTS. Prove the row's statement (the work); the ties are given (YtadgokegjmigoaaDoorTie.lean); close each card by the builder's one call (the guide's Derived/Test/ToyasCard.lean, 'card_holds'). Laid BY PROGRAM, IN A SANDBOX (cutbox-door.mjs). By AI agents, Wed Nov 11 2026. No macro, syntax, notation, axiom, sorry.
-/
import Derived.Test.YtadgokegjmigoaaDoorRows
import GoSem.ClaimSeven
namespace Go.Proofs.YtadgokegjmigoaaDoor
namespace Rows

/-- THE TIED CARD OF 'notcherlaw04.MsgGets'. -/
def msgGetsCard : Claim7 := { stood := { row := msgGetsRow, standIns := [], harness := (true, "05f4fc51d6b2585ef38ce8001e7acb1ba2597c61eb6e8edf16a3b37318d395aa"), looks := false }, kinds := [], alts := [], laidByText := true, laidKinds := [.data], laidTests := true, laidLooks := .later }
def MsgGetsCardSaid : Prop := Claim7.holds Tryd.pinned (.plain (OpenSpec.ofChange msgGetsSpec)) msgGetsCard

/-- THE TIED CARD OF 'notcherlaw04.MsgPuts'. -/
def msgPutsCard : Claim7 := { stood := { row := msgPutsRow, standIns := [], harness := (true, "05f4fc51d6b2585ef38ce8001e7acb1ba2597c61eb6e8edf16a3b37318d395aa"), looks := false }, kinds := [], alts := [], laidByText := true, laidKinds := [.data], laidTests := true, laidLooks := .later }
def MsgPutsCardSaid : Prop := Claim7.holds Tryd.pinned (.plain (OpenSpec.ofChange msgPutsSpec)) msgPutsCard

/-- THE TIED CARD OF 'notcherlaw04.MsgOne'. -/
def msgOneCard : Claim7 := { stood := { row := msgOneRow, standIns := [], harness := (true, "05f4fc51d6b2585ef38ce8001e7acb1ba2597c61eb6e8edf16a3b37318d395aa"), looks := false }, kinds := [], alts := [], laidByText := true, laidKinds := [.data], laidTests := true, laidLooks := .later }
def MsgOneCardSaid : Prop := Claim7.holds Tryd.pinned (.plain (OpenSpec.ofChange msgOneSpec)) msgOneCard

/-- THE TIED CARD OF 'notcherlaw04.MsgKinds'. -/
def msgKindsCard : Claim7 := { stood := { row := msgKindsRow, standIns := [], harness := (true, "05f4fc51d6b2585ef38ce8001e7acb1ba2597c61eb6e8edf16a3b37318d395aa"), looks := false }, kinds := [], alts := [], laidByText := true, laidKinds := [.data], laidTests := true, laidLooks := .later }
def MsgKindsCardSaid : Prop := Claim7.holds Tryd.pinned (.plain (OpenSpec.ofChange msgKindsSpec)) msgKindsCard

/-- THE TIED CARD OF 'notcherlaw04.MsgCut'. -/
def msgCutCard : Claim7 := { stood := { row := msgCutRow, standIns := [], harness := (true, "05f4fc51d6b2585ef38ce8001e7acb1ba2597c61eb6e8edf16a3b37318d395aa"), looks := false }, kinds := [], alts := [], laidByText := true, laidKinds := [.data], laidTests := true, laidLooks := .later }
def MsgCutCardSaid : Prop := Claim7.holds Tryd.pinned (.plain (OpenSpec.ofChange msgCutSpec)) msgCutCard

/-- THE TIED CARD OF 'notcherlaw04.MsgUnlike'. -/
def msgUnlikeCard : Claim7 := { stood := { row := msgUnlikeRow, standIns := [], harness := (true, "05f4fc51d6b2585ef38ce8001e7acb1ba2597c61eb6e8edf16a3b37318d395aa"), looks := false }, kinds := [], alts := [], laidByText := true, laidKinds := [.data], laidTests := true, laidLooks := .later }
def MsgUnlikeCardSaid : Prop := Claim7.holds Tryd.pinned (.plain (OpenSpec.ofChange msgUnlikeSpec)) msgUnlikeCard

/-- THE SECOND FORM's CARD OF 'notcherlaw04.MsgGets'. -/
def msgGetsUptoCard : Claim7 := { stood := { row := msgGetsUptoRow, standIns := [], harness := (true, "05f4fc51d6b2585ef38ce8001e7acb1ba2597c61eb6e8edf16a3b37318d395aa"), looks := false }, kinds := [], alts := [], laidByText := true, laidKinds := [.data], laidTests := true, laidLooks := .later }
def MsgGetsUptoCardSaid : Prop := Claim7.holds Tryd.pinned (.plain (OpenSpec.upto msgGetsSpec)) msgGetsUptoCard

/-- THE SECOND FORM's CARD OF 'notcherlaw04.MsgPuts'. -/
def msgPutsUptoCard : Claim7 := { stood := { row := msgPutsUptoRow, standIns := [], harness := (true, "05f4fc51d6b2585ef38ce8001e7acb1ba2597c61eb6e8edf16a3b37318d395aa"), looks := false }, kinds := [], alts := [], laidByText := true, laidKinds := [.data], laidTests := true, laidLooks := .later }
def MsgPutsUptoCardSaid : Prop := Claim7.holds Tryd.pinned (.plain (OpenSpec.upto msgPutsSpec)) msgPutsUptoCard

/-- THE SECOND FORM's CARD OF 'notcherlaw04.MsgOne'. -/
def msgOneUptoCard : Claim7 := { stood := { row := msgOneUptoRow, standIns := [], harness := (true, "05f4fc51d6b2585ef38ce8001e7acb1ba2597c61eb6e8edf16a3b37318d395aa"), looks := false }, kinds := [], alts := [], laidByText := true, laidKinds := [.data], laidTests := true, laidLooks := .later }
def MsgOneUptoCardSaid : Prop := Claim7.holds Tryd.pinned (.plain (OpenSpec.upto msgOneSpec)) msgOneUptoCard

/-- THE SECOND FORM's CARD OF 'notcherlaw04.MsgKinds'. -/
def msgKindsUptoCard : Claim7 := { stood := { row := msgKindsUptoRow, standIns := [], harness := (true, "05f4fc51d6b2585ef38ce8001e7acb1ba2597c61eb6e8edf16a3b37318d395aa"), looks := false }, kinds := [], alts := [], laidByText := true, laidKinds := [.data], laidTests := true, laidLooks := .later }
def MsgKindsUptoCardSaid : Prop := Claim7.holds Tryd.pinned (.plain (OpenSpec.upto msgKindsSpec)) msgKindsUptoCard

/-- THE SECOND FORM's CARD OF 'notcherlaw04.MsgCut'. -/
def msgCutUptoCard : Claim7 := { stood := { row := msgCutUptoRow, standIns := [], harness := (true, "05f4fc51d6b2585ef38ce8001e7acb1ba2597c61eb6e8edf16a3b37318d395aa"), looks := false }, kinds := [], alts := [], laidByText := true, laidKinds := [.data], laidTests := true, laidLooks := .later }
def MsgCutUptoCardSaid : Prop := Claim7.holds Tryd.pinned (.plain (OpenSpec.upto msgCutSpec)) msgCutUptoCard

/-- THE SECOND FORM's CARD OF 'notcherlaw04.MsgUnlike'. -/
def msgUnlikeUptoCard : Claim7 := { stood := { row := msgUnlikeUptoRow, standIns := [], harness := (true, "05f4fc51d6b2585ef38ce8001e7acb1ba2597c61eb6e8edf16a3b37318d395aa"), looks := false }, kinds := [], alts := [], laidByText := true, laidKinds := [.data], laidTests := true, laidLooks := .later }
def MsgUnlikeUptoCardSaid : Prop := Claim7.holds Tryd.pinned (.plain (OpenSpec.upto msgUnlikeSpec)) msgUnlikeUptoCard
end Rows
end Go.Proofs.YtadgokegjmigoaaDoor
