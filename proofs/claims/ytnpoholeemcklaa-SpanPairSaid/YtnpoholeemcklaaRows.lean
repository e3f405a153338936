/-
  No cell of these rows narrows 'for every input' (looked for: loops, veiled, ifaces, maps, wideKeys, modest, calm, conditions, laid).
  DERIVED. THE GIVEN ROWS OF THIS SEAT. 6 by the template 'for every input the law returns true; each argument reads behind the call as it read before'; 0 by the template 'total and deterministic' (their statements: YtnpoholeemcklaaTotals.lean).
  GIVEN WITH THE SEED: the statements are not yours to turn. If you find one false, say at which input.
  Laid BY PROGRAM, IN A SANDBOX (cutbox-rows.mjs): the forced cells as the released guide's own fill.sh prints them over the translation 875abfb9da9c4142… (all of the seat's roots in one cut). By AI agents, Wed Nov 11 2026. No macro, syntax, notation, axiom, sorry.
-/
import Derived.Test.YtnpoholeemcklaaChecked
import GoSem.Claim
import GoSem.ClaimJoined
import GoSem.ClaimMapViews
import Derived.JoinedTies
import Derived.KernelRfl
namespace Go.Proofs.Ytnpoholeemcklaa
/- THE CELL 'sum', in the pinned program and in every row, IS THE sha256 OF THE DUMP (.gsa) THAT YtnpoholeemcklaaProg.lean LOADS. Nothing in Lean hashes anything: it is a label: what it is worth is what the hold of that sum in a sandbox is worth. -/
noncomputable def Try.pinned : Pinned := { name := "ytnpoholeemcklaa", sum := "875abfb9da9c414282ea3381e5a79fe5dc301fbb433387d4b762efc0465afb41", checked := Try.checked }
namespace Rows
def none {H : Type} : Left H := { results := [], args := [] }

/-- 'causeylaw17.SpanAlone': WHATEVER THE INPUT: true; the input reads as it did. -/
def spanAloneSpec : ChangeSpec := { name := "spanAlone", fn := fun _ => fun
  | [d1, d2, d3] => { results := [.lit (.bool true)], args := [d1, d2, d3] }
  | _ => none }
def spanAloneRow : OpenClaim := { program := "ytnpoholeemcklaa", sum := "875abfb9da9c414282ea3381e5a79fe5dc301fbb433387d4b762efc0465afb41", func := "causey/causeylaw17.SpanAlone", spec := "spanAlone", unfollowed := true, recurses := true, apart := false }
def SpanAloneSaid : Prop := spanAloneRow.holds Try.pinned (OpenSpec.ofChange spanAloneSpec)

/-- ITS FALSE NEIGHBOUR: 'it returns false'. Refute it at one input. -/
def spanAloneWrong : ChangeSpec := { name := "spanAlone", fn := fun _ => fun
  | [d1, d2, d3] => { results := [.lit (.bool false)], args := [d1, d2, d3] }
  | _ => none }
def SpanAloneWrongFalsely : Prop := spanAloneRow.holds Try.pinned (OpenSpec.ofChange spanAloneWrong)

/-- 'causeylaw17.SpanForgets': WHATEVER THE INPUT: true; the input reads as it did. -/
def spanForgetsSpec : ChangeSpec := { name := "spanForgets", fn := fun _ => fun
  | [d1, d2, d3, d4] => { results := [.lit (.bool true)], args := [d1, d2, d3, d4] }
  | _ => none }
def spanForgetsRow : OpenClaim := { program := "ytnpoholeemcklaa", sum := "875abfb9da9c414282ea3381e5a79fe5dc301fbb433387d4b762efc0465afb41", func := "causey/causeylaw17.SpanForgets", spec := "spanForgets", unfollowed := true, recurses := true, apart := false }
def SpanForgetsSaid : Prop := spanForgetsRow.holds Try.pinned (OpenSpec.ofChange spanForgetsSpec)

/-- ITS FALSE NEIGHBOUR: 'it returns false'. Refute it at one input. -/
def spanForgetsWrong : ChangeSpec := { name := "spanForgets", fn := fun _ => fun
  | [d1, d2, d3, d4] => { results := [.lit (.bool false)], args := [d1, d2, d3, d4] }
  | _ => none }
def SpanForgetsWrongFalsely : Prop := spanForgetsRow.holds Try.pinned (OpenSpec.ofChange spanForgetsWrong)

/-- 'causeylaw17.SpanDown': WHATEVER THE INPUT: true; the input reads as it did. -/
def spanDownSpec : ChangeSpec := { name := "spanDown", fn := fun _ => fun
  | [d1, d2, d3, d4, d5] => { results := [.lit (.bool true)], args := [d1, d2, d3, d4, d5] }
  | _ => none }
def spanDownRow : OpenClaim := { program := "ytnpoholeemcklaa", sum := "875abfb9da9c414282ea3381e5a79fe5dc301fbb433387d4b762efc0465afb41", func := "causey/causeylaw17.SpanDown", spec := "spanDown", unfollowed := true, recurses := true, apart := false }
def SpanDownSaid : Prop := spanDownRow.holds Try.pinned (OpenSpec.ofChange spanDownSpec)

/-- ITS FALSE NEIGHBOUR: 'it returns false'. Refute it at one input. -/
def spanDownWrong : ChangeSpec := { name := "spanDown", fn := fun _ => fun
  | [d1, d2, d3, d4, d5] => { results := [.lit (.bool false)], args := [d1, d2, d3, d4, d5] }
  | _ => none }
def SpanDownWrongFalsely : Prop := spanDownRow.holds Try.pinned (OpenSpec.ofChange spanDownWrong)

/-- 'causeylaw17.SpanTells': WHATEVER THE INPUT: true; the input reads as it did. -/
def spanTellsSpec : ChangeSpec := { name := "spanTells", fn := fun _ => fun
  | [d1, d2, d3, d4] => { results := [.lit (.bool true)], args := [d1, d2, d3, d4] }
  | _ => none }
def spanTellsRow : OpenClaim := { program := "ytnpoholeemcklaa", sum := "875abfb9da9c414282ea3381e5a79fe5dc301fbb433387d4b762efc0465afb41", func := "causey/causeylaw17.SpanTells", spec := "spanTells", unfollowed := true, recurses := true, apart := false }
def SpanTellsSaid : Prop := spanTellsRow.holds Try.pinned (OpenSpec.ofChange spanTellsSpec)

/-- ITS FALSE NEIGHBOUR: 'it returns false'. Refute it at one input. -/
def spanTellsWrong : ChangeSpec := { name := "spanTells", fn := fun _ => fun
  | [d1, d2, d3, d4] => { results := [.lit (.bool false)], args := [d1, d2, d3, d4] }
  | _ => none }
def SpanTellsWrongFalsely : Prop := spanTellsRow.holds Try.pinned (OpenSpec.ofChange spanTellsWrong)

/-- 'causeylaw17.SpanPair': WHATEVER THE INPUT: true; the input reads as it did. -/
def spanPairSpec : ChangeSpec := { name := "spanPair", fn := fun _ => fun
  | [d1, d2, d3, d4] => { results := [.lit (.bool true)], args := [d1, d2, d3, d4] }
  | _ => none }
def spanPairRow : OpenClaim := { program := "ytnpoholeemcklaa", sum := "875abfb9da9c414282ea3381e5a79fe5dc301fbb433387d4b762efc0465afb41", func := "causey/causeylaw17.SpanPair", spec := "spanPair", unfollowed := true, recurses := true, apart := false }
def SpanPairSaid : Prop := spanPairRow.holds Try.pinned (OpenSpec.ofChange spanPairSpec)

/-- ITS FALSE NEIGHBOUR: 'it returns false'. Refute it at one input. -/
def spanPairWrong : ChangeSpec := { name := "spanPair", fn := fun _ => fun
  | [d1, d2, d3, d4] => { results := [.lit (.bool false)], args := [d1, d2, d3, d4] }
  | _ => none }
def SpanPairWrongFalsely : Prop := spanPairRow.holds Try.pinned (OpenSpec.ofChange spanPairWrong)

/-- 'causeylaw17.SpanPlays': WHATEVER THE INPUT: true; the input reads as it did. -/
def spanPlaysSpec : ChangeSpec := { name := "spanPlays", fn := fun _ => fun
  | [d1, d2, d3, d4] => { results := [.lit (.bool true)], args := [d1, d2, d3, d4] }
  | _ => none }
def spanPlaysRow : OpenClaim := { program := "ytnpoholeemcklaa", sum := "875abfb9da9c414282ea3381e5a79fe5dc301fbb433387d4b762efc0465afb41", func := "causey/causeylaw17.SpanPlays", spec := "spanPlays", unfollowed := true, recurses := true, apart := false }
def SpanPlaysSaid : Prop := spanPlaysRow.holds Try.pinned (OpenSpec.ofChange spanPlaysSpec)

/-- ITS FALSE NEIGHBOUR: 'it returns false'. Refute it at one input. -/
def spanPlaysWrong : ChangeSpec := { name := "spanPlays", fn := fun _ => fun
  | [d1, d2, d3, d4] => { results := [.lit (.bool false)], args := [d1, d2, d3, d4] }
  | _ => none }
def SpanPlaysWrongFalsely : Prop := spanPlaysRow.holds Try.pinned (OpenSpec.ofChange spanPlaysWrong)

/- THE SECOND FORM. 'bulk': how many values and letters a reading holds, each counted each time it is reached (what is shared counts as often as it is met; a slice's spare places count too). A statement '..UptoSaid' is the law's where the arguments, and the package variables that the reading takes, are together of bulk at most 1048576: NARROWER than '..Said'. Prove '..Said' where nothing that the law and all that it calls make is longer than what came in: it says more and counts as full. Else prove '..UptoSaid'. A law counts once. -/
mutual
def uptoBulk {H : Type} : DataW H → Nat
  | .lit (.string bytes) => bytes.length + 1
  | .lit _ => 1
  | .nil => 1
  | .ptr d => uptoBulk d + 1
  | .slice elems spare => uptoBulkAll elems + uptoBulkAll spare + 1
  | .agg parts => uptoBulkAll parts + 1
  | .iface _ d => uptoBulk d + 1
  | .map entries => uptoBulkEntries entries + 1
  | .held _ => 1
def uptoBulkAll {H : Type} : List (DataW H) → Nat
  | [] => 0
  | d :: r => uptoBulk d + uptoBulkAll r
def uptoBulkEntries {H : Type} : List (Lit × DataW H) → Nat
  | [] => 0
  | x :: r => uptoBulkEntry x + uptoBulkEntries r
def uptoBulkEntry {H : Type} : Lit × DataW H → Nat
  | (.string bytes, d) => bytes.length + uptoBulk d + 1
  | (_, d) => uptoBulk d + 1
 end
def uptoSmall : (H : Type) → List (DataW H) → Bool := fun _ ds => decide (uptoBulkAll ds ≤ 1048576)
def OpenSpec.upto (s : _root_.Go.ChangeSpec) : _root_.Go.OpenSpec := { _root_.Go.OpenSpec.ofChange s with cond := some uptoSmall }

/-- 'causeylaw17.SpanAlone', WHERE WHAT IT READS IS OF BULK AT MOST 1048576: true; the input reads as it did. -/
def spanAloneUptoRow : OpenClaim := { program := "ytnpoholeemcklaa", sum := "875abfb9da9c414282ea3381e5a79fe5dc301fbb433387d4b762efc0465afb41", func := "causey/causeylaw17.SpanAlone", spec := "spanAlone", unfollowed := true, recurses := true, apart := false, narrowed := true }
def SpanAloneUptoSaid : Prop := spanAloneUptoRow.holds Try.pinned (OpenSpec.upto spanAloneSpec)

/-- 'causeylaw17.SpanForgets', WHERE WHAT IT READS IS OF BULK AT MOST 1048576: true; the input reads as it did. -/
def spanForgetsUptoRow : OpenClaim := { program := "ytnpoholeemcklaa", sum := "875abfb9da9c414282ea3381e5a79fe5dc301fbb433387d4b762efc0465afb41", func := "causey/causeylaw17.SpanForgets", spec := "spanForgets", unfollowed := true, recurses := true, apart := false, narrowed := true }
def SpanForgetsUptoSaid : Prop := spanForgetsUptoRow.holds Try.pinned (OpenSpec.upto spanForgetsSpec)

/-- 'causeylaw17.SpanDown', WHERE WHAT IT READS IS OF BULK AT MOST 1048576: true; the input reads as it did. -/
def spanDownUptoRow : OpenClaim := { program := "ytnpoholeemcklaa", sum := "875abfb9da9c414282ea3381e5a79fe5dc301fbb433387d4b762efc0465afb41", func := "causey/causeylaw17.SpanDown", spec := "spanDown", unfollowed := true, recurses := true, apart := false, narrowed := true }
def SpanDownUptoSaid : Prop := spanDownUptoRow.holds Try.pinned (OpenSpec.upto spanDownSpec)

/-- 'causeylaw17.SpanTells', WHERE WHAT IT READS IS OF BULK AT MOST 1048576: true; the input reads as it did. -/
def spanTellsUptoRow : OpenClaim := { program := "ytnpoholeemcklaa", sum := "875abfb9da9c414282ea3381e5a79fe5dc301fbb433387d4b762efc0465afb41", func := "causey/causeylaw17.SpanTells", spec := "spanTells", unfollowed := true, recurses := true, apart := false, narrowed := true }
def SpanTellsUptoSaid : Prop := spanTellsUptoRow.holds Try.pinned (OpenSpec.upto spanTellsSpec)

/-- 'causeylaw17.SpanPair', WHERE WHAT IT READS IS OF BULK AT MOST 1048576: true; the input reads as it did. -/
def spanPairUptoRow : OpenClaim := { program := "ytnpoholeemcklaa", sum := "875abfb9da9c414282ea3381e5a79fe5dc301fbb433387d4b762efc0465afb41", func := "causey/causeylaw17.SpanPair", spec := "spanPair", unfollowed := true, recurses := true, apart := false, narrowed := true }
def SpanPairUptoSaid : Prop := spanPairUptoRow.holds Try.pinned (OpenSpec.upto spanPairSpec)

/-- 'causeylaw17.SpanPlays', WHERE WHAT IT READS IS OF BULK AT MOST 1048576: true; the input reads as it did. -/
def spanPlaysUptoRow : OpenClaim := { program := "ytnpoholeemcklaa", sum := "875abfb9da9c414282ea3381e5a79fe5dc301fbb433387d4b762efc0465afb41", func := "causey/causeylaw17.SpanPlays", spec := "spanPlays", unfollowed := true, recurses := true, apart := false, narrowed := true }
def SpanPlaysUptoSaid : Prop := spanPlaysUptoRow.holds Try.pinned (OpenSpec.upto spanPlaysSpec)

end Rows
end Go.Proofs.Ytnpoholeemcklaa
