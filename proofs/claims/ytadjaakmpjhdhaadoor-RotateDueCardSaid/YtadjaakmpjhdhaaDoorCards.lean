/-
  DERIVED. GIVEN WITH THE SEED: THE CARDS: each row of YtadjaakmpjhdhaaDoorRows.lean that lists a variable, with what it lists TIED to the program's text (the seventh form; the later family's looks); each row that meets fmt, with fmt's text TOLD by the authors' own Lean function (tested against real Go, not proved from fmt's source: count such statements apart). THE CARD IS WHAT COUNTS. Prove the row's statement (the work); the ties are given (YtadjaakmpjhdhaaDoorTie.lean); close each card by the builder's one call (the guide's Derived/Test/ToyasCard.lean, 'card_holds'). Laid BY PROGRAM, IN A SANDBOX (cutbox-door.mjs). By AI agents, Wed Nov 11 2026. No macro, syntax, notation, axiom, sorry.
-/
import Derived.Test.YtadjaakmpjhdhaaDoorRows
import GoSem.ClaimSeven
namespace Go.Proofs.YtadjaakmpjhdhaaDoor
namespace Rows

/-- THE TIED CARD OF 'kauditlaw26.RotateDue'. -/
def rotateDueCard : Claim7 := { stood := { row := rotateDueRow, standIns := [], harness := (true, "398e0f3a5061d7d3cc553b30fcf52e6ce93c7422ebaf2cd879a7beb936275256"), looks := false }, kinds := [], alts := [], laidByText := true, laidKinds := [.data, .data, .data], laidTests := true, laidLooks := .later }
def RotateDueCardSaid : Prop := Claim7.holds Tryd.pinned (.plain (OpenSpec.ofChange rotateDueSpec)) rotateDueCard

/-- THE TIED CARD OF 'kauditlaw26.RotateDrops'. -/
def rotateDropsCard : Claim7 := { stood := { row := rotateDropsRow, standIns := [], harness := (true, "398e0f3a5061d7d3cc553b30fcf52e6ce93c7422ebaf2cd879a7beb936275256"), looks := false }, kinds := [], alts := [], laidByText := true, laidKinds := [.data, .data, .data], laidTests := true, laidLooks := .later }
def RotateDropsCardSaid : Prop := Claim7.holds Tryd.pinned (.plain (OpenSpec.ofChange rotateDropsSpec)) rotateDropsCard

/-- THE TIED CARD OF 'kauditlaw26.RotateKeeps'. -/
def rotateKeepsCard : Claim7 := { stood := { row := rotateKeepsRow, standIns := [], harness := (true, "398e0f3a5061d7d3cc553b30fcf52e6ce93c7422ebaf2cd879a7beb936275256"), looks := false }, kinds := [], alts := [], laidByText := true, laidKinds := [.data, .data, .data], laidTests := true, laidLooks := .later }
def RotateKeepsCardSaid : Prop := Claim7.holds Tryd.pinned (.plain (OpenSpec.ofChange rotateKeepsSpec)) rotateKeepsCard

/-- THE TIED CARD OF 'kauditlaw26.RotateNames'. -/
def rotateNamesCard : Claim7 := { stood := { row := rotateNamesRow, standIns := [], harness := (true, "398e0f3a5061d7d3cc553b30fcf52e6ce93c7422ebaf2cd879a7beb936275256"), looks := false }, kinds := [], alts := [], laidByText := true, laidKinds := [.data, .data, .data], laidTests := true, laidLooks := .later }
def RotateNamesCardSaid : Prop := Claim7.holds Tryd.pinned (.plain (OpenSpec.ofChange rotateNamesSpec)) rotateNamesCard

/-- THE TIED CARD OF 'kauditlaw26.RotateBack'. -/
def rotateBackCard : Claim7 := { stood := { row := rotateBackRow, standIns := [], harness := (true, "398e0f3a5061d7d3cc553b30fcf52e6ce93c7422ebaf2cd879a7beb936275256"), looks := false }, kinds := [], alts := [], laidByText := true, laidKinds := [.data, .data, .data], laidTests := true, laidLooks := .later }
def RotateBackCardSaid : Prop := Claim7.holds Tryd.pinned (.plain (OpenSpec.ofChange rotateBackSpec)) rotateBackCard

/-- THE TIED CARD OF 'kauditlaw26.RotateNumbers'. -/
def rotateNumbersCard : Claim7 := { stood := { row := rotateNumbersRow, standIns := [], harness := (true, "398e0f3a5061d7d3cc553b30fcf52e6ce93c7422ebaf2cd879a7beb936275256"), looks := false }, kinds := [], alts := [], laidByText := true, laidKinds := [.data, .data, .data], laidTests := true, laidLooks := .later }
def RotateNumbersCardSaid : Prop := Claim7.holds Tryd.pinned (.plain (OpenSpec.ofChange rotateNumbersSpec)) rotateNumbersCard

/-- THE SECOND FORM's CARD OF 'kauditlaw26.RotateDue'. -/
def rotateDueUptoCard : Claim7 := { stood := { row := rotateDueUptoRow, standIns := [], harness := (true, "398e0f3a5061d7d3cc553b30fcf52e6ce93c7422ebaf2cd879a7beb936275256"), looks := false }, kinds := [], alts := [], laidByText := true, laidKinds := [.data, .data, .data], laidTests := true, laidLooks := .later }
def RotateDueUptoCardSaid : Prop := Claim7.holds Tryd.pinned (.plain (OpenSpec.upto rotateDueSpec)) rotateDueUptoCard

/-- THE SECOND FORM's CARD OF 'kauditlaw26.RotateDrops'. -/
def rotateDropsUptoCard : Claim7 := { stood := { row := rotateDropsUptoRow, standIns := [], harness := (true, "398e0f3a5061d7d3cc553b30fcf52e6ce93c7422ebaf2cd879a7beb936275256"), looks := false }, kinds := [], alts := [], laidByText := true, laidKinds := [.data, .data, .data], laidTests := true, laidLooks := .later }
def RotateDropsUptoCardSaid : Prop := Claim7.holds Tryd.pinned (.plain (OpenSpec.upto rotateDropsSpec)) rotateDropsUptoCard

/-- THE SECOND FORM's CARD OF 'kauditlaw26.RotateKeeps'. -/
def rotateKeepsUptoCard : Claim7 := { stood := { row := rotateKeepsUptoRow, standIns := [], harness := (true, "398e0f3a5061d7d3cc553b30fcf52e6ce93c7422ebaf2cd879a7beb936275256"), looks := false }, kinds := [], alts := [], laidByText := true, laidKinds := [.data, .data, .data], laidTests := true, laidLooks := .later }
def RotateKeepsUptoCardSaid : Prop := Claim7.holds Tryd.pinned (.plain (OpenSpec.upto rotateKeepsSpec)) rotateKeepsUptoCard

/-- THE SECOND FORM's CARD OF 'kauditlaw26.RotateNames'. -/
def rotateNamesUptoCard : Claim7 := { stood := { row := rotateNamesUptoRow, standIns := [], harness := (true, "398e0f3a5061d7d3cc553b30fcf52e6ce93c7422ebaf2cd879a7beb936275256"), looks := false }, kinds := [], alts := [], laidByText := true, laidKinds := [.data, .data, .data], laidTests := true, laidLooks := .later }
def RotateNamesUptoCardSaid : Prop := Claim7.holds Tryd.pinned (.plain (OpenSpec.upto rotateNamesSpec)) rotateNamesUptoCard

/-- THE SECOND FORM's CARD OF 'kauditlaw26.RotateBack'. -/
def rotateBackUptoCard : Claim7 := { stood := { row := rotateBackUptoRow, standIns := [], harness := (true, "398e0f3a5061d7d3cc553b30fcf52e6ce93c7422ebaf2cd879a7beb936275256"), looks := false }, kinds := [], alts := [], laidByText := true, laidKinds := [.data, .data, .data], laidTests := true, laidLooks := .later }
def RotateBackUptoCardSaid : Prop := Claim7.holds Tryd.pinned (.plain (OpenSpec.upto rotateBackSpec)) rotateBackUptoCard

/-- THE SECOND FORM's CARD OF 'kauditlaw26.RotateNumbers'. -/
def rotateNumbersUptoCard : Claim7 := { stood := { row := rotateNumbersUptoRow, standIns := [], harness := (true, "398e0f3a5061d7d3cc553b30fcf52e6ce93c7422ebaf2cd879a7beb936275256"), looks := false }, kinds := [], alts := [], laidByText := true, laidKinds := [.data, .data, .data], laidTests := true, laidLooks := .later }
def RotateNumbersUptoCardSaid : Prop := Claim7.holds Tryd.pinned (.plain (OpenSpec.upto rotateNumbersSpec)) rotateNumbersUptoCard
end Rows
end Go.Proofs.YtadjaakmpjhdhaaDoor
