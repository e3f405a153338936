/-
  No cell of these rows narrows 'for every input' (looked for: loops, veiled, ifaces, maps, wideKeys, modest, calm, conditions, laid).
  DERIVED. THE GIVEN ROWS OF THIS SEAT. 6 by the template 'for every input the law returns true; each argument reads behind the call as it read before'; 0 by the template 'total and deterministic' (their statements: YtmipdbmmhoacpaaTotals.lean).
  GIVEN WITH THE SEED: the statements are not yours to turn. If you find one false, say at which input.
  Laid BY PROGRAM, IN A SANDBOX (cutbox-rows.mjs): the forced cells as the released guide's own fill.sh prints them over the translation 1f061a766afb346e… (all of the seat's roots in one cut). By AI agents, Wed Nov 11 2026. No macro, syntax, notation, axiom, sorry.
-/
import Derived.Test.YtmipdbmmhoacpaaChecked
import GoSem.Claim
import GoSem.ClaimJoined
import GoSem.ClaimMapViews
import Derived.JoinedTies
import Derived.KernelRfl
namespace Go.Proofs.Ytmipdbmmhoacpaa
/- THE CELL 'sum', in the pinned program and in every row, IS THE sha256 OF THE DUMP (.gsa) THAT YtmipdbmmhoacpaaProg.lean LOADS. Nothing in Lean hashes anything: it is a label: what it is worth is what the hold of that sum in a sandbox is worth. -/
noncomputable def Try.pinned : Pinned := { name := "ytmipdbmmhoacpaa", sum := "1f061a766afb346e7a5d0b120485a2dcc8ccdfb97475c8a438e99d32456c4563", checked := Try.checked }
namespace Rows
def none {H : Type} : Left H := { results := [], args := [] }

/-- 'causeylaw12.TunBack': WHATEVER THE INPUT: true; the input reads as it did. -/
def tunBackSpec : ChangeSpec := { name := "tunBack", fn := fun _ => fun
  | [d1, d2] => { results := [.lit (.bool true)], args := [d1, d2] }
  | _ => none }
def tunBackRow : OpenClaim := { program := "ytmipdbmmhoacpaa", sum := "1f061a766afb346e7a5d0b120485a2dcc8ccdfb97475c8a438e99d32456c4563", func := "causey/causeylaw12.TunBack", spec := "tunBack", apart := false }
def TunBackSaid : Prop := tunBackRow.holds Try.pinned (OpenSpec.ofChange tunBackSpec)

/-- ITS FALSE NEIGHBOUR: 'it returns false'. Refute it at one input. -/
def tunBackWrong : ChangeSpec := { name := "tunBack", fn := fun _ => fun
  | [d1, d2] => { results := [.lit (.bool false)], args := [d1, d2] }
  | _ => none }
def TunBackWrongFalsely : Prop := tunBackRow.holds Try.pinned (OpenSpec.ofChange tunBackWrong)

/-- 'causeylaw12.TunPlays': WHATEVER THE INPUT: true; the input reads as it did. -/
def tunPlaysSpec : ChangeSpec := { name := "tunPlays", fn := fun _ => fun
  | [d1, d2, d3] => { results := [.lit (.bool true)], args := [d1, d2, d3] }
  | _ => none }
def tunPlaysRow : OpenClaim := { program := "ytmipdbmmhoacpaa", sum := "1f061a766afb346e7a5d0b120485a2dcc8ccdfb97475c8a438e99d32456c4563", func := "causey/causeylaw12.TunPlays", spec := "tunPlays", apart := false }
def TunPlaysSaid : Prop := tunPlaysRow.holds Try.pinned (OpenSpec.ofChange tunPlaysSpec)

/-- ITS FALSE NEIGHBOUR: 'it returns false'. Refute it at one input. -/
def tunPlaysWrong : ChangeSpec := { name := "tunPlays", fn := fun _ => fun
  | [d1, d2, d3] => { results := [.lit (.bool false)], args := [d1, d2, d3] }
  | _ => none }
def TunPlaysWrongFalsely : Prop := tunPlaysRow.holds Try.pinned (OpenSpec.ofChange tunPlaysWrong)

/-- 'causeylaw12.TunPieces': WHATEVER THE INPUT: true; the input reads as it did. -/
def tunPiecesSpec : ChangeSpec := { name := "tunPieces", fn := fun _ => fun
  | [d1, d2, d3, d4] => { results := [.lit (.bool true)], args := [d1, d2, d3, d4] }
  | _ => none }
def tunPiecesRow : OpenClaim := { program := "ytmipdbmmhoacpaa", sum := "1f061a766afb346e7a5d0b120485a2dcc8ccdfb97475c8a438e99d32456c4563", func := "causey/causeylaw12.TunPieces", spec := "tunPieces", unfollowed := true, recurses := true, apart := false }
def TunPiecesSaid : Prop := tunPiecesRow.holds Try.pinned (OpenSpec.ofChange tunPiecesSpec)

/-- ITS FALSE NEIGHBOUR: 'it returns false'. Refute it at one input. -/
def tunPiecesWrong : ChangeSpec := { name := "tunPieces", fn := fun _ => fun
  | [d1, d2, d3, d4] => { results := [.lit (.bool false)], args := [d1, d2, d3, d4] }
  | _ => none }
def TunPiecesWrongFalsely : Prop := tunPiecesRow.holds Try.pinned (OpenSpec.ofChange tunPiecesWrong)

/-- 'causeylaw12.TunMixed': WHATEVER THE INPUT: true; the input reads as it did. -/
def tunMixedSpec : ChangeSpec := { name := "tunMixed", fn := fun _ => fun
  | [d1, d2, d3, d4, d5] => { results := [.lit (.bool true)], args := [d1, d2, d3, d4, d5] }
  | _ => none }
def tunMixedRow : OpenClaim := { program := "ytmipdbmmhoacpaa", sum := "1f061a766afb346e7a5d0b120485a2dcc8ccdfb97475c8a438e99d32456c4563", func := "causey/causeylaw12.TunMixed", spec := "tunMixed", unfollowed := true, recurses := true, apart := false }
def TunMixedSaid : Prop := tunMixedRow.holds Try.pinned (OpenSpec.ofChange tunMixedSpec)

/-- ITS FALSE NEIGHBOUR: 'it returns false'. Refute it at one input. -/
def tunMixedWrong : ChangeSpec := { name := "tunMixed", fn := fun _ => fun
  | [d1, d2, d3, d4, d5] => { results := [.lit (.bool false)], args := [d1, d2, d3, d4, d5] }
  | _ => none }
def TunMixedWrongFalsely : Prop := tunMixedRow.holds Try.pinned (OpenSpec.ofChange tunMixedWrong)

/-- 'causeylaw12.TunHeld': WHATEVER THE INPUT: true; the input reads as it did. -/
def tunHeldSpec : ChangeSpec := { name := "tunHeld", fn := fun _ => fun
  | [d1, d2] => { results := [.lit (.bool true)], args := [d1, d2] }
  | _ => none }
def tunHeldRow : OpenClaim := { program := "ytmipdbmmhoacpaa", sum := "1f061a766afb346e7a5d0b120485a2dcc8ccdfb97475c8a438e99d32456c4563", func := "causey/causeylaw12.TunHeld", spec := "tunHeld", unfollowed := true, recurses := true, apart := false }
def TunHeldSaid : Prop := tunHeldRow.holds Try.pinned (OpenSpec.ofChange tunHeldSpec)

/-- ITS FALSE NEIGHBOUR: 'it returns false'. Refute it at one input. -/
def tunHeldWrong : ChangeSpec := { name := "tunHeld", fn := fun _ => fun
  | [d1, d2] => { results := [.lit (.bool false)], args := [d1, d2] }
  | _ => none }
def TunHeldWrongFalsely : Prop := tunHeldRow.holds Try.pinned (OpenSpec.ofChange tunHeldWrong)

/-- 'causeylaw12.TunTakes': WHATEVER THE INPUT: true; the input reads as it did. -/
def tunTakesSpec : ChangeSpec := { name := "tunTakes", fn := fun _ => fun
  | [d] => { results := [.lit (.bool true)], args := [d] }
  | _ => none }
def tunTakesRow : OpenClaim := { program := "ytmipdbmmhoacpaa", sum := "1f061a766afb346e7a5d0b120485a2dcc8ccdfb97475c8a438e99d32456c4563", func := "causey/causeylaw12.TunTakes", spec := "tunTakes", unfollowed := true, recurses := true, apart := false }
def TunTakesSaid : Prop := tunTakesRow.holds Try.pinned (OpenSpec.ofChange tunTakesSpec)

/-- ITS FALSE NEIGHBOUR: 'it returns false'. Refute it at one input. -/
def tunTakesWrong : ChangeSpec := { name := "tunTakes", fn := fun _ => fun
  | [d] => { results := [.lit (.bool false)], args := [d] }
  | _ => none }
def TunTakesWrongFalsely : Prop := tunTakesRow.holds Try.pinned (OpenSpec.ofChange tunTakesWrong)

/- THE SECOND FORM. 'bulk': how many values and letters a reading holds, each counted each time it is reached (what is shared counts as often as it is met; a slice's spare places count too). A statement '..UptoSaid' is the law's where the arguments, and the package variables that the reading takes, are together of bulk at most 1048576: NARROWER than '..Said'. Prove '..Said' where nothing that the law and all that it calls make is longer than what came in: it says more and counts as full. Else prove '..UptoSaid'. A law counts once. -/
mutual
def uptoBulk {H : Type} : DataW H → Nat
  | .lit (.string bytes) => bytes.length + 1
  | .lit _ => 1
  | .nil => 1
  | .ptr d => uptoBulk d + 1
  | .slice elems spare => uptoBulkAll elems + uptoBulkAll spare + 1
  | .agg parts => uptoBulkAll parts + 1
  | .iface _ d => uptoBulk d + 1
  | .map entries => uptoBulkEntries entries + 1
  | .held _ => 1
def uptoBulkAll {H : Type} : List (DataW H) → Nat
  | [] => 0
  | d :: r => uptoBulk d + uptoBulkAll r
def uptoBulkEntries {H : Type} : List (Lit × DataW H) → Nat
  | [] => 0
  | x :: r => uptoBulkEntry x + uptoBulkEntries r
def uptoBulkEntry {H : Type} : Lit × DataW H → Nat
  | (.string bytes, d) => bytes.length + uptoBulk d + 1
  | (_, d) => uptoBulk d + 1
 end
def uptoSmall : (H : Type) → List (DataW H) → Bool := fun _ ds => decide (uptoBulkAll ds ≤ 1048576)
def OpenSpec.upto (s : _root_.Go.ChangeSpec) : _root_.Go.OpenSpec := { _root_.Go.OpenSpec.ofChange s with cond := some uptoSmall }

/-- 'causeylaw12.TunBack', WHERE WHAT IT READS IS OF BULK AT MOST 1048576: true; the input reads as it did. -/
def tunBackUptoRow : OpenClaim := { program := "ytmipdbmmhoacpaa", sum := "1f061a766afb346e7a5d0b120485a2dcc8ccdfb97475c8a438e99d32456c4563", func := "causey/causeylaw12.TunBack", spec := "tunBack", apart := false, narrowed := true }
def TunBackUptoSaid : Prop := tunBackUptoRow.holds Try.pinned (OpenSpec.upto tunBackSpec)

/-- 'causeylaw12.TunPlays', WHERE WHAT IT READS IS OF BULK AT MOST 1048576: true; the input reads as it did. -/
def tunPlaysUptoRow : OpenClaim := { program := "ytmipdbmmhoacpaa", sum := "1f061a766afb346e7a5d0b120485a2dcc8ccdfb97475c8a438e99d32456c4563", func := "causey/causeylaw12.TunPlays", spec := "tunPlays", apart := false, narrowed := true }
def TunPlaysUptoSaid : Prop := tunPlaysUptoRow.holds Try.pinned (OpenSpec.upto tunPlaysSpec)

/-- 'causeylaw12.TunPieces', WHERE WHAT IT READS IS OF BULK AT MOST 1048576: true; the input reads as it did. -/
def tunPiecesUptoRow : OpenClaim := { program := "ytmipdbmmhoacpaa", sum := "1f061a766afb346e7a5d0b120485a2dcc8ccdfb97475c8a438e99d32456c4563", func := "causey/causeylaw12.TunPieces", spec := "tunPieces", unfollowed := true, recurses := true, apart := false, narrowed := true }
def TunPiecesUptoSaid : Prop := tunPiecesUptoRow.holds Try.pinned (OpenSpec.upto tunPiecesSpec)

/-- 'causeylaw12.TunMixed', WHERE WHAT IT READS IS OF BULK AT MOST 1048576: true; the input reads as it did. -/
def tunMixedUptoRow : OpenClaim := { program := "ytmipdbmmhoacpaa", sum := "1f061a766afb346e7a5d0b120485a2dcc8ccdfb97475c8a438e99d32456c4563", func := "causey/causeylaw12.TunMixed", spec := "tunMixed", unfollowed := true, recurses := true, apart := false, narrowed := true }
def TunMixedUptoSaid : Prop := tunMixedUptoRow.holds Try.pinned (OpenSpec.upto tunMixedSpec)

/-- 'causeylaw12.TunHeld', WHERE WHAT IT READS IS OF BULK AT MOST 1048576: true; the input reads as it did. -/
def tunHeldUptoRow : OpenClaim := { program := "ytmipdbmmhoacpaa", sum := "1f061a766afb346e7a5d0b120485a2dcc8ccdfb97475c8a438e99d32456c4563", func := "causey/causeylaw12.TunHeld", spec := "tunHeld", unfollowed := true, recurses := true, apart := false, narrowed := true }
def TunHeldUptoSaid : Prop := tunHeldUptoRow.holds Try.pinned (OpenSpec.upto tunHeldSpec)

/-- 'causeylaw12.TunTakes', WHERE WHAT IT READS IS OF BULK AT MOST 1048576: true; the input reads as it did. -/
def tunTakesUptoRow : OpenClaim := { program := "ytmipdbmmhoacpaa", sum := "1f061a766afb346e7a5d0b120485a2dcc8ccdfb97475c8a438e99d32456c4563", func := "causey/causeylaw12.TunTakes", spec := "tunTakes", unfollowed := true, recurses := true, apart := false, narrowed := true }
def TunTakesUptoSaid : Prop := tunTakesUptoRow.holds Try.pinned (OpenSpec.upto tunTakesSpec)

end Rows
end Go.Proofs.Ytmipdbmmhoacpaa
