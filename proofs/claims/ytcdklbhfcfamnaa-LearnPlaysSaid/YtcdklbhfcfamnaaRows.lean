/-
  No cell of these rows narrows 'for every input' (looked for: loops, veiled, ifaces, maps, wideKeys, modest, calm, conditions, laid).
  DERIVED. THE GIVEN ROWS OF THIS SEAT. 6 by the template 'for every input the law returns true; each argument reads behind the call as it read before'; 0 by the template 'total and deterministic' (their statements: YtcdklbhfcfamnaaTotals.lean).
  GIVEN WITH THE SEED: the statements are not yours to turn. If you find one false, say at which input.
  Laid BY PROGRAM, IN A SANDBOX (cutbox-rows.mjs): the forced cells as the released guide's own fill.sh prints them over the translation 7699a6808d3d195b… (all of the seat's roots in one cut). By AI agents, Wed Nov 11 2026. No macro, syntax, notation, axiom, sorry.
-/
import Derived.Test.YtcdklbhfcfamnaaChecked
import GoSem.Claim
import GoSem.ClaimJoined
import GoSem.ClaimMapViews
import Derived.JoinedTies
import Derived.KernelRfl
namespace Go.Proofs.Ytcdklbhfcfamnaa
/- THE CELL 'sum', in the pinned program and in every row, IS THE sha256 OF THE DUMP (.gsa) THAT YtcdklbhfcfamnaaProg.lean LOADS. Nothing in Lean hashes anything: it is a label: what it is worth is what the hold of that sum in a sandbox is worth. -/
noncomputable def Try.pinned : Pinned := { name := "ytcdklbhfcfamnaa", sum := "7699a6808d3d195b84cebb3bf000222d19a76268d0b88342fa619e1687634a64", checked := Try.checked }
namespace Rows
def none {H : Type} : Left H := { results := [], args := [] }

/-- 'causeylaw20.LearnMoves': WHATEVER THE INPUT: true; the input reads as it did. -/
def learnMovesSpec : ChangeSpec := { name := "learnMoves", fn := fun _ => fun
  | [d1, d2, d3, d4, d5] => { results := [.lit (.bool true)], args := [d1, d2, d3, d4, d5] }
  | _ => none }
def learnMovesRow : OpenClaim := { program := "ytcdklbhfcfamnaa", sum := "7699a6808d3d195b84cebb3bf000222d19a76268d0b88342fa619e1687634a64", func := "causey/causeylaw20.LearnMoves", spec := "learnMoves", unfollowed := true, recurses := true, plainKeys := false, apart := false }
def LearnMovesSaid : Prop := learnMovesRow.holds Try.pinned (OpenSpec.ofChange learnMovesSpec)

/-- ITS FALSE NEIGHBOUR: 'it returns false'. Refute it at one input. -/
def learnMovesWrong : ChangeSpec := { name := "learnMoves", fn := fun _ => fun
  | [d1, d2, d3, d4, d5] => { results := [.lit (.bool false)], args := [d1, d2, d3, d4, d5] }
  | _ => none }
def LearnMovesWrongFalsely : Prop := learnMovesRow.holds Try.pinned (OpenSpec.ofChange learnMovesWrong)

/-- 'causeylaw20.LearnClears': WHATEVER THE INPUT: true; the input reads as it did. -/
def learnClearsSpec : ChangeSpec := { name := "learnClears", fn := fun _ => fun
  | [d1, d2, d3] => { results := [.lit (.bool true)], args := [d1, d2, d3] }
  | _ => none }
def learnClearsRow : OpenClaim := { program := "ytcdklbhfcfamnaa", sum := "7699a6808d3d195b84cebb3bf000222d19a76268d0b88342fa619e1687634a64", func := "causey/causeylaw20.LearnClears", spec := "learnClears", inPlace := ["internal/bytealg.Compare"], unfollowed := true, recurses := true, plainKeys := false, apart := false }
def LearnClearsSaid : Prop := learnClearsRow.holds Try.pinned (OpenSpec.ofChange learnClearsSpec)

/-- ITS FALSE NEIGHBOUR: 'it returns false'. Refute it at one input. -/
def learnClearsWrong : ChangeSpec := { name := "learnClears", fn := fun _ => fun
  | [d1, d2, d3] => { results := [.lit (.bool false)], args := [d1, d2, d3] }
  | _ => none }
def LearnClearsWrongFalsely : Prop := learnClearsRow.holds Try.pinned (OpenSpec.ofChange learnClearsWrong)

/-- 'causeylaw20.LearnLimits': WHATEVER THE INPUT: true; the input reads as it did. -/
def learnLimitsSpec : ChangeSpec := { name := "learnLimits", fn := fun _ => fun
  | [d1, d2, d3] => { results := [.lit (.bool true)], args := [d1, d2, d3] }
  | _ => none }
def learnLimitsRow : OpenClaim := { program := "ytcdklbhfcfamnaa", sum := "7699a6808d3d195b84cebb3bf000222d19a76268d0b88342fa619e1687634a64", func := "causey/causeylaw20.LearnLimits", spec := "learnLimits", inPlace := ["internal/bytealg.Compare"], unfollowed := true, recurses := true, plainKeys := false, apart := false }
def LearnLimitsSaid : Prop := learnLimitsRow.holds Try.pinned (OpenSpec.ofChange learnLimitsSpec)

/-- ITS FALSE NEIGHBOUR: 'it returns false'. Refute it at one input. -/
def learnLimitsWrong : ChangeSpec := { name := "learnLimits", fn := fun _ => fun
  | [d1, d2, d3] => { results := [.lit (.bool false)], args := [d1, d2, d3] }
  | _ => none }
def LearnLimitsWrongFalsely : Prop := learnLimitsRow.holds Try.pinned (OpenSpec.ofChange learnLimitsWrong)

/-- 'causeylaw20.LearnFixed': WHATEVER THE INPUT: true; the input reads as it did. -/
def learnFixedSpec : ChangeSpec := { name := "learnFixed", fn := fun _ => fun
  | [d1, d2] => { results := [.lit (.bool true)], args := [d1, d2] }
  | _ => none }
def learnFixedRow : OpenClaim := { program := "ytcdklbhfcfamnaa", sum := "7699a6808d3d195b84cebb3bf000222d19a76268d0b88342fa619e1687634a64", func := "causey/causeylaw20.LearnFixed", spec := "learnFixed", inPlace := ["internal/bytealg.Compare"], unfollowed := true, recurses := true, plainKeys := false, apart := false }
def LearnFixedSaid : Prop := learnFixedRow.holds Try.pinned (OpenSpec.ofChange learnFixedSpec)

/-- ITS FALSE NEIGHBOUR: 'it returns false'. Refute it at one input. -/
def learnFixedWrong : ChangeSpec := { name := "learnFixed", fn := fun _ => fun
  | [d1, d2] => { results := [.lit (.bool false)], args := [d1, d2] }
  | _ => none }
def LearnFixedWrongFalsely : Prop := learnFixedRow.holds Try.pinned (OpenSpec.ofChange learnFixedWrong)

/-- 'causeylaw20.LearnPlays': WHATEVER THE INPUT: true; the input reads as it did. -/
def learnPlaysSpec : ChangeSpec := { name := "learnPlays", fn := fun _ => fun
  | [d1, d2, d3] => { results := [.lit (.bool true)], args := [d1, d2, d3] }
  | _ => none }
def learnPlaysRow : OpenClaim := { program := "ytcdklbhfcfamnaa", sum := "7699a6808d3d195b84cebb3bf000222d19a76268d0b88342fa619e1687634a64", func := "causey/causeylaw20.LearnPlays", spec := "learnPlays", inPlace := ["internal/bytealg.Compare"], unfollowed := true, recurses := true, plainKeys := false, apart := false }
def LearnPlaysSaid : Prop := learnPlaysRow.holds Try.pinned (OpenSpec.ofChange learnPlaysSpec)

/-- ITS FALSE NEIGHBOUR: 'it returns false'. Refute it at one input. -/
def learnPlaysWrong : ChangeSpec := { name := "learnPlays", fn := fun _ => fun
  | [d1, d2, d3] => { results := [.lit (.bool false)], args := [d1, d2, d3] }
  | _ => none }
def LearnPlaysWrongFalsely : Prop := learnPlaysRow.holds Try.pinned (OpenSpec.ofChange learnPlaysWrong)

/-- 'causeylaw20.LearnAges': WHATEVER THE INPUT: true; the input reads as it did. -/
def learnAgesSpec : ChangeSpec := { name := "learnAges", fn := fun _ => fun
  | [d1, d2, d3] => { results := [.lit (.bool true)], args := [d1, d2, d3] }
  | _ => none }
def learnAgesRow : OpenClaim := { program := "ytcdklbhfcfamnaa", sum := "7699a6808d3d195b84cebb3bf000222d19a76268d0b88342fa619e1687634a64", func := "causey/causeylaw20.LearnAges", spec := "learnAges", inPlace := ["internal/bytealg.Compare"], unfollowed := true, recurses := true, plainKeys := false, apart := false }
def LearnAgesSaid : Prop := learnAgesRow.holds Try.pinned (OpenSpec.ofChange learnAgesSpec)

/-- ITS FALSE NEIGHBOUR: 'it returns false'. Refute it at one input. -/
def learnAgesWrong : ChangeSpec := { name := "learnAges", fn := fun _ => fun
  | [d1, d2, d3] => { results := [.lit (.bool false)], args := [d1, d2, d3] }
  | _ => none }
def LearnAgesWrongFalsely : Prop := learnAgesRow.holds Try.pinned (OpenSpec.ofChange learnAgesWrong)

/- THE SECOND FORM. 'bulk': how many values and letters a reading holds, each counted each time it is reached (what is shared counts as often as it is met; a slice's spare places count too). A statement '..UptoSaid' is the law's where the arguments, and the package variables that the reading takes, are together of bulk at most 1048576: NARROWER than '..Said'. Prove '..Said' where nothing that the law and all that it calls make is longer than what came in: it says more and counts as full. Else prove '..UptoSaid'. A law counts once. -/
mutual
def uptoBulk {H : Type} : DataW H → Nat
  | .lit (.string bytes) => bytes.length + 1
  | .lit _ => 1
  | .nil => 1
  | .ptr d => uptoBulk d + 1
  | .slice elems spare => uptoBulkAll elems + uptoBulkAll spare + 1
  | .agg parts => uptoBulkAll parts + 1
  | .iface _ d => uptoBulk d + 1
  | .map entries => uptoBulkEntries entries + 1
  | .held _ => 1
def uptoBulkAll {H : Type} : List (DataW H) → Nat
  | [] => 0
  | d :: r => uptoBulk d + uptoBulkAll r
def uptoBulkEntries {H : Type} : List (Lit × DataW H) → Nat
  | [] => 0
  | x :: r => uptoBulkEntry x + uptoBulkEntries r
def uptoBulkEntry {H : Type} : Lit × DataW H → Nat
  | (.string bytes, d) => bytes.length + uptoBulk d + 1
  | (_, d) => uptoBulk d + 1
 end
def uptoSmall : (H : Type) → List (DataW H) → Bool := fun _ ds => decide (uptoBulkAll ds ≤ 1048576)
def OpenSpec.upto (s : _root_.Go.ChangeSpec) : _root_.Go.OpenSpec := { _root_.Go.OpenSpec.ofChange s with cond := some uptoSmall }

/-- 'causeylaw20.LearnMoves', WHERE WHAT IT READS IS OF BULK AT MOST 1048576: true; the input reads as it did. -/
def learnMovesUptoRow : OpenClaim := { program := "ytcdklbhfcfamnaa", sum := "7699a6808d3d195b84cebb3bf000222d19a76268d0b88342fa619e1687634a64", func := "causey/causeylaw20.LearnMoves", spec := "learnMoves", unfollowed := true, recurses := true, plainKeys := false, apart := false, narrowed := true }
def LearnMovesUptoSaid : Prop := learnMovesUptoRow.holds Try.pinned (OpenSpec.upto learnMovesSpec)

/-- 'causeylaw20.LearnClears', WHERE WHAT IT READS IS OF BULK AT MOST 1048576: true; the input reads as it did. -/
def learnClearsUptoRow : OpenClaim := { program := "ytcdklbhfcfamnaa", sum := "7699a6808d3d195b84cebb3bf000222d19a76268d0b88342fa619e1687634a64", func := "causey/causeylaw20.LearnClears", spec := "learnClears", inPlace := ["internal/bytealg.Compare"], unfollowed := true, recurses := true, plainKeys := false, apart := false, narrowed := true }
def LearnClearsUptoSaid : Prop := learnClearsUptoRow.holds Try.pinned (OpenSpec.upto learnClearsSpec)

/-- 'causeylaw20.LearnLimits', WHERE WHAT IT READS IS OF BULK AT MOST 1048576: true; the input reads as it did. -/
def learnLimitsUptoRow : OpenClaim := { program := "ytcdklbhfcfamnaa", sum := "7699a6808d3d195b84cebb3bf000222d19a76268d0b88342fa619e1687634a64", func := "causey/causeylaw20.LearnLimits", spec := "learnLimits", inPlace := ["internal/bytealg.Compare"], unfollowed := true, recurses := true, plainKeys := false, apart := false, narrowed := true }
def LearnLimitsUptoSaid : Prop := learnLimitsUptoRow.holds Try.pinned (OpenSpec.upto learnLimitsSpec)

/-- 'causeylaw20.LearnFixed', WHERE WHAT IT READS IS OF BULK AT MOST 1048576: true; the input reads as it did. -/
def learnFixedUptoRow : OpenClaim := { program := "ytcdklbhfcfamnaa", sum := "7699a6808d3d195b84cebb3bf000222d19a76268d0b88342fa619e1687634a64", func := "causey/causeylaw20.LearnFixed", spec := "learnFixed", inPlace := ["internal/bytealg.Compare"], unfollowed := true, recurses := true, plainKeys := false, apart := false, narrowed := true }
def LearnFixedUptoSaid : Prop := learnFixedUptoRow.holds Try.pinned (OpenSpec.upto learnFixedSpec)

/-- 'causeylaw20.LearnPlays', WHERE WHAT IT READS IS OF BULK AT MOST 1048576: true; the input reads as it did. -/
def learnPlaysUptoRow : OpenClaim := { program := "ytcdklbhfcfamnaa", sum := "7699a6808d3d195b84cebb3bf000222d19a76268d0b88342fa619e1687634a64", func := "causey/causeylaw20.LearnPlays", spec := "learnPlays", inPlace := ["internal/bytealg.Compare"], unfollowed := true, recurses := true, plainKeys := false, apart := false, narrowed := true }
def LearnPlaysUptoSaid : Prop := learnPlaysUptoRow.holds Try.pinned (OpenSpec.upto learnPlaysSpec)

/-- 'causeylaw20.LearnAges', WHERE WHAT IT READS IS OF BULK AT MOST 1048576: true; the input reads as it did. -/
def learnAgesUptoRow : OpenClaim := { program := "ytcdklbhfcfamnaa", sum := "7699a6808d3d195b84cebb3bf000222d19a76268d0b88342fa619e1687634a64", func := "causey/causeylaw20.LearnAges", spec := "learnAges", inPlace := ["internal/bytealg.Compare"], unfollowed := true, recurses := true, plainKeys := false, apart := false, narrowed := true }
def LearnAgesUptoSaid : Prop := learnAgesUptoRow.holds Try.pinned (OpenSpec.upto learnAgesSpec)

end Rows
end Go.Proofs.Ytcdklbhfcfamnaa
