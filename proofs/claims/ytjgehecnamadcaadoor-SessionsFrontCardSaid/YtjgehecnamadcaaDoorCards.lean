/-
  DERIVED. GIVEN WITH THE SEED: THE CARDS: each row of YtjgehecnamadcaaDoorRows.lean that lists a variable, with what it lists TIED to the program's text (the seventh form; the later family's looks); each row that meets fmt, with fmt's text TOLD by the authors' own Lean function (tested against real Go, not proved from fmt's source: count such statements apart). THE CARD IS WHAT COUNTS. Prove the row's statement (the work); the ties are given (YtjgehecnamadcaaDoorTie.lean); close each card by the builder's one call (the guide's Derived/Test/ToyasCard.lean, 'card_holds'). Laid BY PROGRAM, IN A SANDBOX (cutbox-door.mjs). By AI agents, Wed Nov 11 2026. No macro, syntax, notation, axiom, sorry.
-/
import Derived.Test.YtjgehecnamadcaaDoorRows
import GoSem.ClaimSeven
namespace Go.Proofs.YtjgehecnamadcaaDoor
namespace Rows

/-- THE TIED CARD OF 'kauditlaw41.SessionsEnd'. -/
def sessionsEndCard : Claim7 := { stood := { row := sessionsEndRow, standIns := [], harness := (true, "0c4b22f05c5c16b31730fe1a51b8a3e12d1c07f3212a7f15aa7c58ff568e7c39"), looks := false }, kinds := [], alts := [], laidByText := true, laidKinds := [.data, .data, .data], laidTests := true, laidLooks := .later }
def SessionsEndCardSaid : Prop := Claim7.holds Tryd.pinned (.plain (OpenSpec.ofChange sessionsEndSpec)) sessionsEndCard

/-- THE TIED CARD OF 'kauditlaw41.SessionsLooks'. -/
def sessionsLooksCard : Claim7 := { stood := { row := sessionsLooksRow, standIns := [], harness := (true, "0c4b22f05c5c16b31730fe1a51b8a3e12d1c07f3212a7f15aa7c58ff568e7c39"), looks := false }, kinds := [], alts := [], laidByText := true, laidKinds := [.data, .data, .data], laidTests := true, laidLooks := .later }
def SessionsLooksCardSaid : Prop := Claim7.holds Tryd.pinned (.plain (OpenSpec.ofChange sessionsLooksSpec)) sessionsLooksCard

/-- THE TIED CARD OF 'kauditlaw41.SessionsFront'. -/
def sessionsFrontCard : Claim7 := { stood := { row := sessionsFrontRow, standIns := [], harness := (true, "0c4b22f05c5c16b31730fe1a51b8a3e12d1c07f3212a7f15aa7c58ff568e7c39"), looks := false }, kinds := [], alts := [], laidByText := true, laidKinds := [.data, .data, .data], laidTests := true, laidLooks := .later }
def SessionsFrontCardSaid : Prop := Claim7.holds Tryd.pinned (.plain (OpenSpec.ofChange sessionsFrontSpec)) sessionsFrontCard

/-- THE SECOND FORM's CARD OF 'kauditlaw41.SessionsEnd'. -/
def sessionsEndUptoCard : Claim7 := { stood := { row := sessionsEndUptoRow, standIns := [], harness := (true, "0c4b22f05c5c16b31730fe1a51b8a3e12d1c07f3212a7f15aa7c58ff568e7c39"), looks := false }, kinds := [], alts := [], laidByText := true, laidKinds := [.data, .data, .data], laidTests := true, laidLooks := .later }
def SessionsEndUptoCardSaid : Prop := Claim7.holds Tryd.pinned (.plain (OpenSpec.upto sessionsEndSpec)) sessionsEndUptoCard

/-- THE SECOND FORM's CARD OF 'kauditlaw41.SessionsLooks'. -/
def sessionsLooksUptoCard : Claim7 := { stood := { row := sessionsLooksUptoRow, standIns := [], harness := (true, "0c4b22f05c5c16b31730fe1a51b8a3e12d1c07f3212a7f15aa7c58ff568e7c39"), looks := false }, kinds := [], alts := [], laidByText := true, laidKinds := [.data, .data, .data], laidTests := true, laidLooks := .later }
def SessionsLooksUptoCardSaid : Prop := Claim7.holds Tryd.pinned (.plain (OpenSpec.upto sessionsLooksSpec)) sessionsLooksUptoCard

/-- THE SECOND FORM's CARD OF 'kauditlaw41.SessionsFront'. -/
def sessionsFrontUptoCard : Claim7 := { stood := { row := sessionsFrontUptoRow, standIns := [], harness := (true, "0c4b22f05c5c16b31730fe1a51b8a3e12d1c07f3212a7f15aa7c58ff568e7c39"), looks := false }, kinds := [], alts := [], laidByText := true, laidKinds := [.data, .data, .data], laidTests := true, laidLooks := .later }
def SessionsFrontUptoCardSaid : Prop := Claim7.holds Tryd.pinned (.plain (OpenSpec.upto sessionsFrontSpec)) sessionsFrontUptoCard
end Rows
end Go.Proofs.YtjgehecnamadcaaDoor
