/-
  DERIVED. GIVEN WITH THE SEED: THE CARDS: each row of YtknnadnjikfibaaDoorRows.lean that lists a variable, with what it lists TIED to the program's text (the seventh form; the later family's looks); each row that meets fmt, with fmt's text TOLD by the authors' own Lean function (tested against real Go, not proved from fmt's source: count such statements apart). THE CARD IS WHAT COUNTS. Prove the row's statement (the work); the ties are given (YtknnadnjikfibaaDoorTie.lean); close each card by the builder's one call (the guide's Derived/Test/ToyasCard.lean, 'card_holds'). Laid BY PROGRAM, IN A SANDBOX (cutbox-door.mjs). By AI agents, Wed Nov 11 2026. No macro, syntax, notation, axiom, sorry.
-/
import Derived.Test.YtknnadnjikfibaaDoorRows
import GoSem.ClaimSeven
namespace Go.Proofs.YtknnadnjikfibaaDoor
namespace Rows

/-- THE TIED CARD OF 'causeylaw07.OctOnly'. -/
def octOnlyCard : Claim7 := { stood := { row := octOnlyRow, standIns := [], harness := (true, "170792a1f920abc4898ef2bd9c37d6ae8e8755e6c716a8b29b60c22983293927"), looks := false }, kinds := [], alts := [], laidByText := true, laidKinds := [.data, .pinned], laidTests := true, laidLooks := .later }
def OctOnlyCardSaid : Prop := Claim7.holds Tryd.pinned (.plain (OpenSpec.ofChange octOnlySpec)) octOnlyCard

/-- THE TIED CARD OF 'causeylaw07.OctBack'. -/
def octBackCard : Claim7 := { stood := { row := octBackRow, standIns := [], harness := (true, "170792a1f920abc4898ef2bd9c37d6ae8e8755e6c716a8b29b60c22983293927"), looks := false }, kinds := [], alts := [], laidByText := true, laidKinds := [.data, .pinned], laidTests := true, laidLooks := .later }
def OctBackCardSaid : Prop := Claim7.holds Tryd.pinned (.plain (OpenSpec.ofChange octBackSpec)) octBackCard

/-- THE TIED CARD OF 'causeylaw07.OctPlays'. -/
def octPlaysCard : Claim7 := { stood := { row := octPlaysRow, standIns := [], harness := (true, "170792a1f920abc4898ef2bd9c37d6ae8e8755e6c716a8b29b60c22983293927"), looks := false }, kinds := [], alts := [], laidByText := true, laidKinds := [.data, .pinned], laidTests := true, laidLooks := .later }
def OctPlaysCardSaid : Prop := Claim7.holds Tryd.pinned (.plain (OpenSpec.ofChange octPlaysSpec)) octPlaysCard

/-- THE SECOND FORM's CARD OF 'causeylaw07.OctOnly'. -/
def octOnlyUptoCard : Claim7 := { stood := { row := octOnlyUptoRow, standIns := [], harness := (true, "170792a1f920abc4898ef2bd9c37d6ae8e8755e6c716a8b29b60c22983293927"), looks := false }, kinds := [], alts := [], laidByText := true, laidKinds := [.data, .pinned], laidTests := true, laidLooks := .later }
def OctOnlyUptoCardSaid : Prop := Claim7.holds Tryd.pinned (.plain (OpenSpec.upto octOnlySpec)) octOnlyUptoCard

/-- THE SECOND FORM's CARD OF 'causeylaw07.OctBack'. -/
def octBackUptoCard : Claim7 := { stood := { row := octBackUptoRow, standIns := [], harness := (true, "170792a1f920abc4898ef2bd9c37d6ae8e8755e6c716a8b29b60c22983293927"), looks := false }, kinds := [], alts := [], laidByText := true, laidKinds := [.data, .pinned], laidTests := true, laidLooks := .later }
def OctBackUptoCardSaid : Prop := Claim7.holds Tryd.pinned (.plain (OpenSpec.upto octBackSpec)) octBackUptoCard

/-- THE SECOND FORM's CARD OF 'causeylaw07.OctPlays'. -/
def octPlaysUptoCard : Claim7 := { stood := { row := octPlaysUptoRow, standIns := [], harness := (true, "170792a1f920abc4898ef2bd9c37d6ae8e8755e6c716a8b29b60c22983293927"), looks := false }, kinds := [], alts := [], laidByText := true, laidKinds := [.data, .pinned], laidTests := true, laidLooks := .later }
def OctPlaysUptoCardSaid : Prop := Claim7.holds Tryd.pinned (.plain (OpenSpec.upto octPlaysSpec)) octPlaysUptoCard
end Rows
end Go.Proofs.YtknnadnjikfibaaDoor
