/-
  No cell of these rows narrows 'for every input' (looked for: loops, veiled, ifaces, maps, wideKeys, modest, calm, conditions, laid).
  DERIVED. THE GIVEN ROWS OF THIS SEAT. 6 by the template 'for every input the law returns true; each argument reads behind the call as it read before'; 0 by the template 'total and deterministic' (their statements: YthadlpiioabajaaTotals.lean).
  GIVEN WITH THE SEED: the statements are not yours to turn. If you find one false, say at which input.
  Laid BY PROGRAM, IN A SANDBOX (cutbox-rows.mjs): the forced cells as the released guide's own fill.sh prints them over the translation 750137b84773ac11… (all of the seat's roots in one cut). By AI agents, Wed Nov 11 2026. No macro, syntax, notation, axiom, sorry.
-/
import Derived.Test.YthadlpiioabajaaChecked
import GoSem.Claim
import GoSem.ClaimJoined
import GoSem.ClaimMapViews
import Derived.JoinedTies
import Derived.KernelRfl
namespace Go.Proofs.Ythadlpiioabajaa
/- THE CELL 'sum', in the pinned program and in every row, IS THE sha256 OF THE DUMP (.gsa) THAT YthadlpiioabajaaProg.lean LOADS. Nothing in Lean hashes anything: it is a label: what it is worth is what the hold of that sum in a sandbox is worth. -/
noncomputable def Try.pinned : Pinned := { name := "ythadlpiioabajaa", sum := "750137b84773ac11bacc7abc93c7309133f08243c9f5ac8246bc143b6708e735", checked := Try.checked }
namespace Rows
def none {H : Type} : Left H := { results := [], args := [] }

/-- 'causeylaw16.VecCosts': WHATEVER THE INPUT: true; the input reads as it did. -/
def vecCostsSpec : ChangeSpec := { name := "vecCosts", fn := fun _ => fun
  | [d1, d2] => { results := [.lit (.bool true)], args := [d1, d2] }
  | _ => none }
def vecCostsRow : OpenClaim := { program := "ythadlpiioabajaa", sum := "750137b84773ac11bacc7abc93c7309133f08243c9f5ac8246bc143b6708e735", func := "causey/causeylaw16.VecCosts", spec := "vecCosts", inPlace := ["math.Float64bits", "math.Float64frombits"], apart := false }
def VecCostsSaid : Prop := vecCostsRow.holds Try.pinned (OpenSpec.ofChange vecCostsSpec)

/-- ITS FALSE NEIGHBOUR: 'it returns false'. Refute it at one input. -/
def vecCostsWrong : ChangeSpec := { name := "vecCosts", fn := fun _ => fun
  | [d1, d2] => { results := [.lit (.bool false)], args := [d1, d2] }
  | _ => none }
def VecCostsWrongFalsely : Prop := vecCostsRow.holds Try.pinned (OpenSpec.ofChange vecCostsWrong)

/-- 'causeylaw16.VecEdges': WHATEVER THE INPUT: true; the input reads as it did. -/
def vecEdgesSpec : ChangeSpec := { name := "vecEdges", fn := fun _ => fun
  | [d1, d2] => { results := [.lit (.bool true)], args := [d1, d2] }
  | _ => none }
def vecEdgesRow : OpenClaim := { program := "ythadlpiioabajaa", sum := "750137b84773ac11bacc7abc93c7309133f08243c9f5ac8246bc143b6708e735", func := "causey/causeylaw16.VecEdges", spec := "vecEdges", inPlace := ["math.Float64bits", "math.Float64frombits"], apart := false }
def VecEdgesSaid : Prop := vecEdgesRow.holds Try.pinned (OpenSpec.ofChange vecEdgesSpec)

/-- ITS FALSE NEIGHBOUR: 'it returns false'. Refute it at one input. -/
def vecEdgesWrong : ChangeSpec := { name := "vecEdges", fn := fun _ => fun
  | [d1, d2] => { results := [.lit (.bool false)], args := [d1, d2] }
  | _ => none }
def VecEdgesWrongFalsely : Prop := vecEdgesRow.holds Try.pinned (OpenSpec.ofChange vecEdgesWrong)

/-- 'causeylaw16.VecOrder': WHATEVER THE INPUT: true; the input reads as it did. -/
def vecOrderSpec : ChangeSpec := { name := "vecOrder", fn := fun _ => fun
  | [d1, d2, d3] => { results := [.lit (.bool true)], args := [d1, d2, d3] }
  | _ => none }
def vecOrderRow : OpenClaim := { program := "ythadlpiioabajaa", sum := "750137b84773ac11bacc7abc93c7309133f08243c9f5ac8246bc143b6708e735", func := "causey/causeylaw16.VecOrder", spec := "vecOrder", inPlace := ["math.Float64bits", "math.Float64frombits"], apart := false }
def VecOrderSaid : Prop := vecOrderRow.holds Try.pinned (OpenSpec.ofChange vecOrderSpec)

/-- ITS FALSE NEIGHBOUR: 'it returns false'. Refute it at one input. -/
def vecOrderWrong : ChangeSpec := { name := "vecOrder", fn := fun _ => fun
  | [d1, d2, d3] => { results := [.lit (.bool false)], args := [d1, d2, d3] }
  | _ => none }
def VecOrderWrongFalsely : Prop := vecOrderRow.holds Try.pinned (OpenSpec.ofChange vecOrderWrong)

/-- 'causeylaw16.VecOvers': WHATEVER THE INPUT: true; the input reads as it did. -/
def vecOversSpec : ChangeSpec := { name := "vecOvers", fn := fun _ => fun
  | [d1, d2, d3, d4, d5] => { results := [.lit (.bool true)], args := [d1, d2, d3, d4, d5] }
  | _ => none }
def vecOversRow : OpenClaim := { program := "ythadlpiioabajaa", sum := "750137b84773ac11bacc7abc93c7309133f08243c9f5ac8246bc143b6708e735", func := "causey/causeylaw16.VecOvers", spec := "vecOvers", inPlace := ["math.Float64bits", "math.Float64frombits"], apart := false }
def VecOversSaid : Prop := vecOversRow.holds Try.pinned (OpenSpec.ofChange vecOversSpec)

/-- ITS FALSE NEIGHBOUR: 'it returns false'. Refute it at one input. -/
def vecOversWrong : ChangeSpec := { name := "vecOvers", fn := fun _ => fun
  | [d1, d2, d3, d4, d5] => { results := [.lit (.bool false)], args := [d1, d2, d3, d4, d5] }
  | _ => none }
def VecOversWrongFalsely : Prop := vecOversRow.holds Try.pinned (OpenSpec.ofChange vecOversWrong)

/-- 'causeylaw16.VecBest': WHATEVER THE INPUT: true; the input reads as it did. -/
def vecBestSpec : ChangeSpec := { name := "vecBest", fn := fun _ => fun
  | [d1, d2] => { results := [.lit (.bool true)], args := [d1, d2] }
  | _ => none }
def vecBestRow : OpenClaim := { program := "ythadlpiioabajaa", sum := "750137b84773ac11bacc7abc93c7309133f08243c9f5ac8246bc143b6708e735", func := "causey/causeylaw16.VecBest", spec := "vecBest", inPlace := ["math.Float64bits", "math.Float64frombits"], apart := false }
def VecBestSaid : Prop := vecBestRow.holds Try.pinned (OpenSpec.ofChange vecBestSpec)

/-- ITS FALSE NEIGHBOUR: 'it returns false'. Refute it at one input. -/
def vecBestWrong : ChangeSpec := { name := "vecBest", fn := fun _ => fun
  | [d1, d2] => { results := [.lit (.bool false)], args := [d1, d2] }
  | _ => none }
def VecBestWrongFalsely : Prop := vecBestRow.holds Try.pinned (OpenSpec.ofChange vecBestWrong)

/-- 'causeylaw16.VecPlays': WHATEVER THE INPUT: true; the input reads as it did. -/
def vecPlaysSpec : ChangeSpec := { name := "vecPlays", fn := fun _ => fun
  | [d1, d2, d3, d4, d5] => { results := [.lit (.bool true)], args := [d1, d2, d3, d4, d5] }
  | _ => none }
def vecPlaysRow : OpenClaim := { program := "ythadlpiioabajaa", sum := "750137b84773ac11bacc7abc93c7309133f08243c9f5ac8246bc143b6708e735", func := "causey/causeylaw16.VecPlays", spec := "vecPlays", inPlace := ["math.Float64bits", "math.Float64frombits"], apart := false }
def VecPlaysSaid : Prop := vecPlaysRow.holds Try.pinned (OpenSpec.ofChange vecPlaysSpec)

/-- ITS FALSE NEIGHBOUR: 'it returns false'. Refute it at one input. -/
def vecPlaysWrong : ChangeSpec := { name := "vecPlays", fn := fun _ => fun
  | [d1, d2, d3, d4, d5] => { results := [.lit (.bool false)], args := [d1, d2, d3, d4, d5] }
  | _ => none }
def VecPlaysWrongFalsely : Prop := vecPlaysRow.holds Try.pinned (OpenSpec.ofChange vecPlaysWrong)

/- THE SECOND FORM. 'bulk': how many values and letters a reading holds, each counted each time it is reached (what is shared counts as often as it is met; a slice's spare places count too). A statement '..UptoSaid' is the law's where the arguments, and the package variables that the reading takes, are together of bulk at most 1048576: NARROWER than '..Said'. Prove '..Said' where nothing that the law and all that it calls make is longer than what came in: it says more and counts as full. Else prove '..UptoSaid'. A law counts once. -/
mutual
def uptoBulk {H : Type} : DataW H → Nat
  | .lit (.string bytes) => bytes.length + 1
  | .lit _ => 1
  | .nil => 1
  | .ptr d => uptoBulk d + 1
  | .slice elems spare => uptoBulkAll elems + uptoBulkAll spare + 1
  | .agg parts => uptoBulkAll parts + 1
  | .iface _ d => uptoBulk d + 1
  | .map entries => uptoBulkEntries entries + 1
  | .held _ => 1
def uptoBulkAll {H : Type} : List (DataW H) → Nat
  | [] => 0
  | d :: r => uptoBulk d + uptoBulkAll r
def uptoBulkEntries {H : Type} : List (Lit × DataW H) → Nat
  | [] => 0
  | x :: r => uptoBulkEntry x + uptoBulkEntries r
def uptoBulkEntry {H : Type} : Lit × DataW H → Nat
  | (.string bytes, d) => bytes.length + uptoBulk d + 1
  | (_, d) => uptoBulk d + 1
 end
def uptoSmall : (H : Type) → List (DataW H) → Bool := fun _ ds => decide (uptoBulkAll ds ≤ 1048576)
def OpenSpec.upto (s : _root_.Go.ChangeSpec) : _root_.Go.OpenSpec := { _root_.Go.OpenSpec.ofChange s with cond := some uptoSmall }

/-- 'causeylaw16.VecCosts', WHERE WHAT IT READS IS OF BULK AT MOST 1048576: true; the input reads as it did. -/
def vecCostsUptoRow : OpenClaim := { program := "ythadlpiioabajaa", sum := "750137b84773ac11bacc7abc93c7309133f08243c9f5ac8246bc143b6708e735", func := "causey/causeylaw16.VecCosts", spec := "vecCosts", inPlace := ["math.Float64bits", "math.Float64frombits"], apart := false, narrowed := true }
def VecCostsUptoSaid : Prop := vecCostsUptoRow.holds Try.pinned (OpenSpec.upto vecCostsSpec)

/-- 'causeylaw16.VecEdges', WHERE WHAT IT READS IS OF BULK AT MOST 1048576: true; the input reads as it did. -/
def vecEdgesUptoRow : OpenClaim := { program := "ythadlpiioabajaa", sum := "750137b84773ac11bacc7abc93c7309133f08243c9f5ac8246bc143b6708e735", func := "causey/causeylaw16.VecEdges", spec := "vecEdges", inPlace := ["math.Float64bits", "math.Float64frombits"], apart := false, narrowed := true }
def VecEdgesUptoSaid : Prop := vecEdgesUptoRow.holds Try.pinned (OpenSpec.upto vecEdgesSpec)

/-- 'causeylaw16.VecOrder', WHERE WHAT IT READS IS OF BULK AT MOST 1048576: true; the input reads as it did. -/
def vecOrderUptoRow : OpenClaim := { program := "ythadlpiioabajaa", sum := "750137b84773ac11bacc7abc93c7309133f08243c9f5ac8246bc143b6708e735", func := "causey/causeylaw16.VecOrder", spec := "vecOrder", inPlace := ["math.Float64bits", "math.Float64frombits"], apart := false, narrowed := true }
def VecOrderUptoSaid : Prop := vecOrderUptoRow.holds Try.pinned (OpenSpec.upto vecOrderSpec)

/-- 'causeylaw16.VecOvers', WHERE WHAT IT READS IS OF BULK AT MOST 1048576: true; the input reads as it did. -/
def vecOversUptoRow : OpenClaim := { program := "ythadlpiioabajaa", sum := "750137b84773ac11bacc7abc93c7309133f08243c9f5ac8246bc143b6708e735", func := "causey/causeylaw16.VecOvers", spec := "vecOvers", inPlace := ["math.Float64bits", "math.Float64frombits"], apart := false, narrowed := true }
def VecOversUptoSaid : Prop := vecOversUptoRow.holds Try.pinned (OpenSpec.upto vecOversSpec)

/-- 'causeylaw16.VecBest', WHERE WHAT IT READS IS OF BULK AT MOST 1048576: true; the input reads as it did. -/
def vecBestUptoRow : OpenClaim := { program := "ythadlpiioabajaa", sum := "750137b84773ac11bacc7abc93c7309133f08243c9f5ac8246bc143b6708e735", func := "causey/causeylaw16.VecBest", spec := "vecBest", inPlace := ["math.Float64bits", "math.Float64frombits"], apart := false, narrowed := true }
def VecBestUptoSaid : Prop := vecBestUptoRow.holds Try.pinned (OpenSpec.upto vecBestSpec)

/-- 'causeylaw16.VecPlays', WHERE WHAT IT READS IS OF BULK AT MOST 1048576: true; the input reads as it did. -/
def vecPlaysUptoRow : OpenClaim := { program := "ythadlpiioabajaa", sum := "750137b84773ac11bacc7abc93c7309133f08243c9f5ac8246bc143b6708e735", func := "causey/causeylaw16.VecPlays", spec := "vecPlays", inPlace := ["math.Float64bits", "math.Float64frombits"], apart := false, narrowed := true }
def VecPlaysUptoSaid : Prop := vecPlaysUptoRow.holds Try.pinned (OpenSpec.upto vecPlaysSpec)

end Rows
end Go.Proofs.Ythadlpiioabajaa
