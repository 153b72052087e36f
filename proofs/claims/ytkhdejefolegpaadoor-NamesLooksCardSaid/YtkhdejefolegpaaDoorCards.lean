/-
  DERIVED. GIVEN WITH THE SEED: THE CARDS: each row of YtkhdejefolegpaaDoorRows.lean that lists a variable, with what it lists TIED to the program's text (the seventh form; the later family's looks); each row that meets fmt, with fmt's text TOLD by the authors' own Lean function (tested against real Go, not proved from fmt's source: count such statements apart). THE CARD IS WHAT COUNTS. Prove the row's statement (the work); the ties are given (YtkhdejefolegpaaDoorTie.lean); close each card by the builder's one call (the guide's Derived/Test/ToyasCard.lean, 'card_holds'). Laid BY PROGRAM, IN A SANDBOX (cutbox-door.mjs). By AI agents, Wed Nov 11 2026. No macro, syntax, notation, axiom, sorry.
-/
import Derived.Test.YtkhdejefolegpaaDoorRows
import GoSem.ClaimSeven
namespace Go.Proofs.YtkhdejefolegpaaDoor
namespace Rows

/-- THE TIED CARD OF 'kauditlaw37.NamesLooks'. -/
def namesLooksCard : Claim7 := { stood := { row := namesLooksRow, standIns := [], harness := (true, "4bf6d53f388bc3706fa959b0aef2ef0e7625c5851f56f80feea8ecad7c8227a2"), looks := false }, kinds := [], alts := [], laidByText := true, laidKinds := [.data, .data, .data, .data], laidTests := true, laidLooks := .later }
def NamesLooksCardSaid : Prop := Claim7.holds Tryd.pinned (.plain (OpenSpec.ofChange namesLooksSpec)) namesLooksCard

/-- THE TIED CARD OF 'kauditlaw37.NamesAgree'. -/
def namesAgreeCard : Claim7 := { stood := { row := namesAgreeRow, standIns := [], harness := (true, "4bf6d53f388bc3706fa959b0aef2ef0e7625c5851f56f80feea8ecad7c8227a2"), looks := false }, kinds := [], alts := [], laidByText := true, laidKinds := [.data, .data, .data, .data], laidTests := true, laidLooks := .later }
def NamesAgreeCardSaid : Prop := Claim7.holds Tryd.pinned (.plain (OpenSpec.ofChange namesAgreeSpec)) namesAgreeCard

/-- THE SECOND FORM's CARD OF 'kauditlaw37.NamesLooks'. -/
def namesLooksUptoCard : Claim7 := { stood := { row := namesLooksUptoRow, standIns := [], harness := (true, "4bf6d53f388bc3706fa959b0aef2ef0e7625c5851f56f80feea8ecad7c8227a2"), looks := false }, kinds := [], alts := [], laidByText := true, laidKinds := [.data, .data, .data, .data], laidTests := true, laidLooks := .later }
def NamesLooksUptoCardSaid : Prop := Claim7.holds Tryd.pinned (.plain (OpenSpec.upto namesLooksSpec)) namesLooksUptoCard

/-- THE SECOND FORM's CARD OF 'kauditlaw37.NamesAgree'. -/
def namesAgreeUptoCard : Claim7 := { stood := { row := namesAgreeUptoRow, standIns := [], harness := (true, "4bf6d53f388bc3706fa959b0aef2ef0e7625c5851f56f80feea8ecad7c8227a2"), looks := false }, kinds := [], alts := [], laidByText := true, laidKinds := [.data, .data, .data, .data], laidTests := true, laidLooks := .later }
def NamesAgreeUptoCardSaid : Prop := Claim7.holds Tryd.pinned (.plain (OpenSpec.upto namesAgreeSpec)) namesAgreeUptoCard
end Rows
end Go.Proofs.YtkhdejefolegpaaDoor
