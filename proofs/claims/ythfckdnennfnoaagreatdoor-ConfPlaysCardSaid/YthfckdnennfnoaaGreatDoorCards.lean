/-
  DERIVED. GIVEN WITH THE SEED: THE CARDS: each row of YthfckdnennfnoaaGreatDoorRows.lean that lists a variable, with what it lists TIED to the program's text (the seventh form; the later family's looks); each row that meets fmt, with fmt's text TOLD by the authors' own Lean function (tested against real Go, not proved from fmt's source: count such statements apart). THE CARD IS WHAT COUNTS. Prove the row's statement (the work); the ties are given (YthfckdnennfnoaaGreatDoorTie.lean); close each card by the builder's one call (the guide's Derived/Test/ToyasCard.lean, 'card_holds'). Laid BY PROGRAM, IN A SANDBOX (cutbox-door.mjs). By AI agents, Wed Nov 11 2026. No macro, syntax, notation, axiom, sorry.
-/
import Derived.Test.YthfckdnennfnoaaGreatDoorRows
import GoSem.ClaimSeven
namespace Go.Proofs.YthfckdnennfnoaaGreatDoor
namespace Rows

/-- THE TIED CARD OF 'causeylaw23.ConfPlays'. -/
def confPlaysCard : Claim7 := { stood := { row := confPlaysRow, standIns := [], harness := (true, "9fcd173e113c02df645af3a1d7b125ea1aa67260a6a789dec9ddbb7cc2940f57"), looks := true }, kinds := [], alts := [], laidByText := true, laidKinds := [.data, .pinned], laidTests := true, laidLooks := .later }
def ConfPlaysCardSaid : Prop := Claim7.holds Tryz.pinned (.plain (OpenSpec.ofChange confPlaysSpec)) confPlaysCard

/-- THE SECOND FORM's CARD OF 'causeylaw23.ConfPlays'. -/
def confPlaysUptoCard : Claim7 := { stood := { row := confPlaysUptoRow, standIns := [], harness := (true, "9fcd173e113c02df645af3a1d7b125ea1aa67260a6a789dec9ddbb7cc2940f57"), looks := true }, kinds := [], alts := [], laidByText := true, laidKinds := [.data, .pinned], laidTests := true, laidLooks := .later }
def ConfPlaysUptoCardSaid : Prop := Claim7.holds Tryz.pinned (.plain (OpenSpec.upto confPlaysSpec)) confPlaysUptoCard
end Rows
end Go.Proofs.YthfckdnennfnoaaGreatDoor
