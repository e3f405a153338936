/-
  DERIVED. GIVEN WITH THE SEED: THE CARDS: each row of YthfckdnennfnoaaDoorRows.lean that lists a variable, with what it lists TIED to the program's text (the seventh form; the later family's looks); each row that meets fmt, with fmt's text TOLD by the authors' own Lean function (tested against real Go, not proved from fmt's source: count such statements apart). THE CARD IS WHAT COUNTS. Prove the row's statement (the work); the ties are given (YthfckdnennfnoaaDoorTie.lean); close each card by the builder's one call (the guide's Derived/Test/ToyasCard.lean, 'card_holds'). Laid BY PROGRAM, IN A SANDBOX (cutbox-door.mjs). By AI agents, Wed Nov 11 2026. No macro, syntax, notation, axiom, sorry.
-/
import Derived.Test.YthfckdnennfnoaaDoorRows
import GoSem.ClaimSeven
namespace Go.Proofs.YthfckdnennfnoaaDoor
namespace Rows

/-- THE TIED CARD OF 'causeylaw23.ConfLines'. -/
def confLinesCard : Claim7 := { stood := { row := confLinesRow, standIns := [], harness := (true, "06178ce278844463a235eda5ea55843449b659f43128eaae628b72838e1f3923"), looks := true }, kinds := [], alts := [], laidByText := true, laidKinds := [.data, .pinned], laidTests := true, laidLooks := .later }
def ConfLinesCardSaid : Prop := Claim7.holds Tryd.pinned (.plain (OpenSpec.ofChange confLinesSpec)) confLinesCard

/-- THE TIED CARD OF 'causeylaw23.ConfOnly'. -/
def confOnlyCard : Claim7 := { stood := { row := confOnlyRow, standIns := [], harness := (true, "06178ce278844463a235eda5ea55843449b659f43128eaae628b72838e1f3923"), looks := true }, kinds := [], alts := [], laidByText := true, laidKinds := [.data, .pinned], laidTests := true, laidLooks := .later }
def ConfOnlyCardSaid : Prop := Claim7.holds Tryd.pinned (.plain (OpenSpec.ofChange confOnlySpec)) confOnlyCard

/-- THE SECOND FORM's CARD OF 'causeylaw23.ConfLines'. -/
def confLinesUptoCard : Claim7 := { stood := { row := confLinesUptoRow, standIns := [], harness := (true, "06178ce278844463a235eda5ea55843449b659f43128eaae628b72838e1f3923"), looks := true }, kinds := [], alts := [], laidByText := true, laidKinds := [.data, .pinned], laidTests := true, laidLooks := .later }
def ConfLinesUptoCardSaid : Prop := Claim7.holds Tryd.pinned (.plain (OpenSpec.upto confLinesSpec)) confLinesUptoCard

/-- THE SECOND FORM's CARD OF 'causeylaw23.ConfOnly'. -/
def confOnlyUptoCard : Claim7 := { stood := { row := confOnlyUptoRow, standIns := [], harness := (true, "06178ce278844463a235eda5ea55843449b659f43128eaae628b72838e1f3923"), looks := true }, kinds := [], alts := [], laidByText := true, laidKinds := [.data, .pinned], laidTests := true, laidLooks := .later }
def ConfOnlyUptoCardSaid : Prop := Claim7.holds Tryd.pinned (.plain (OpenSpec.upto confOnlySpec)) confOnlyUptoCard
end Rows
end Go.Proofs.YthfckdnennfnoaaDoor
