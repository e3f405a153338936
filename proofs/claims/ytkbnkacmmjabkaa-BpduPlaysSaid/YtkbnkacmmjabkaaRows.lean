/-
  No cell of these rows narrows 'for every input' (looked for: loops, veiled, ifaces, maps, wideKeys, modest, calm, conditions, laid).
  DERIVED. THE GIVEN ROWS OF THIS SEAT. 5 by the template 'for every input the law returns true; each argument reads behind the call as it read before'; 0 by the template 'total and deterministic' (their statements: YtkbnkacmmjabkaaTotals.lean).
  GIVEN WITH THE SEED: the statements are not yours to turn. If you find one false, say at which input.
  Laid BY PROGRAM, IN A SANDBOX (cutbox-rows.mjs): the forced cells as the released guide's own fill.sh prints them over the translation cc3e34de940ec578… (all of the seat's roots in one cut). By AI agents, Wed Nov 11 2026. No macro, syntax, notation, axiom, sorry.
-/
import Derived.Test.YtkbnkacmmjabkaaChecked
import GoSem.Claim
import GoSem.ClaimJoined
import GoSem.ClaimMapViews
import Derived.JoinedTies
import Derived.KernelRfl
namespace Go.Proofs.Ytkbnkacmmjabkaa
/- THE CELL 'sum', in the pinned program and in every row, IS THE sha256 OF THE DUMP (.gsa) THAT YtkbnkacmmjabkaaProg.lean LOADS. Nothing in Lean hashes anything: it is a label: what it is worth is what the hold of that sum in a sandbox is worth. -/
noncomputable def Try.pinned : Pinned := { name := "ytkbnkacmmjabkaa", sum := "cc3e34de940ec578de21e5d1865d889edc5c598fbf38253d1b5c2665d82c9467", checked := Try.checked }
namespace Rows
def none {H : Type} : Left H := { results := [], args := [] }

/-- 'causeylaw11.BpduOrder': WHATEVER THE INPUT: true; the input reads as it did. -/
def bpduOrderSpec : ChangeSpec := { name := "bpduOrder", fn := fun _ => fun
  | [d1, d2, d3] => { results := [.lit (.bool true)], args := [d1, d2, d3] }
  | _ => none }
def bpduOrderRow : OpenClaim := { program := "ytkbnkacmmjabkaa", sum := "cc3e34de940ec578de21e5d1865d889edc5c598fbf38253d1b5c2665d82c9467", func := "causey/causeylaw11.BpduOrder", spec := "bpduOrder", apart := false }
def BpduOrderSaid : Prop := bpduOrderRow.holds Try.pinned (OpenSpec.ofChange bpduOrderSpec)

/-- ITS FALSE NEIGHBOUR: 'it returns false'. Refute it at one input. -/
def bpduOrderWrong : ChangeSpec := { name := "bpduOrder", fn := fun _ => fun
  | [d1, d2, d3] => { results := [.lit (.bool false)], args := [d1, d2, d3] }
  | _ => none }
def BpduOrderWrongFalsely : Prop := bpduOrderRow.holds Try.pinned (OpenSpec.ofChange bpduOrderWrong)

/-- 'causeylaw11.BpduBack': WHATEVER THE INPUT: true; the input reads as it did. -/
def bpduBackSpec : ChangeSpec := { name := "bpduBack", fn := fun _ => fun
  | [d1, d2] => { results := [.lit (.bool true)], args := [d1, d2] }
  | _ => none }
def bpduBackRow : OpenClaim := { program := "ytkbnkacmmjabkaa", sum := "cc3e34de940ec578de21e5d1865d889edc5c598fbf38253d1b5c2665d82c9467", func := "causey/causeylaw11.BpduBack", spec := "bpduBack", apart := false }
def BpduBackSaid : Prop := bpduBackRow.holds Try.pinned (OpenSpec.ofChange bpduBackSpec)

/-- ITS FALSE NEIGHBOUR: 'it returns false'. Refute it at one input. -/
def bpduBackWrong : ChangeSpec := { name := "bpduBack", fn := fun _ => fun
  | [d1, d2] => { results := [.lit (.bool false)], args := [d1, d2] }
  | _ => none }
def BpduBackWrongFalsely : Prop := bpduBackRow.holds Try.pinned (OpenSpec.ofChange bpduBackWrong)

/-- 'causeylaw11.BpduOnly': WHATEVER THE INPUT: true; the input reads as it did. -/
def bpduOnlySpec : ChangeSpec := { name := "bpduOnly", fn := fun _ => fun
  | [d] => { results := [.lit (.bool true)], args := [d] }
  | _ => none }
def bpduOnlyRow : OpenClaim := { program := "ytkbnkacmmjabkaa", sum := "cc3e34de940ec578de21e5d1865d889edc5c598fbf38253d1b5c2665d82c9467", func := "causey/causeylaw11.BpduOnly", spec := "bpduOnly", apart := false }
def BpduOnlySaid : Prop := bpduOnlyRow.holds Try.pinned (OpenSpec.ofChange bpduOnlySpec)

/-- ITS FALSE NEIGHBOUR: 'it returns false'. Refute it at one input. -/
def bpduOnlyWrong : ChangeSpec := { name := "bpduOnly", fn := fun _ => fun
  | [d] => { results := [.lit (.bool false)], args := [d] }
  | _ => none }
def BpduOnlyWrongFalsely : Prop := bpduOnlyRow.holds Try.pinned (OpenSpec.ofChange bpduOnlyWrong)

/-- 'causeylaw11.BpduFlags': WHATEVER THE INPUT: true; the input reads as it did. -/
def bpduFlagsSpec : ChangeSpec := { name := "bpduFlags", fn := fun _ => fun
  | [d1, d2] => { results := [.lit (.bool true)], args := [d1, d2] }
  | _ => none }
def bpduFlagsRow : OpenClaim := { program := "ytkbnkacmmjabkaa", sum := "cc3e34de940ec578de21e5d1865d889edc5c598fbf38253d1b5c2665d82c9467", func := "causey/causeylaw11.BpduFlags", spec := "bpduFlags", apart := false }
def BpduFlagsSaid : Prop := bpduFlagsRow.holds Try.pinned (OpenSpec.ofChange bpduFlagsSpec)

/-- ITS FALSE NEIGHBOUR: 'it returns false'. Refute it at one input. -/
def bpduFlagsWrong : ChangeSpec := { name := "bpduFlags", fn := fun _ => fun
  | [d1, d2] => { results := [.lit (.bool false)], args := [d1, d2] }
  | _ => none }
def BpduFlagsWrongFalsely : Prop := bpduFlagsRow.holds Try.pinned (OpenSpec.ofChange bpduFlagsWrong)

/-- 'causeylaw11.BpduPlays': WHATEVER THE INPUT: true; the input reads as it did. -/
def bpduPlaysSpec : ChangeSpec := { name := "bpduPlays", fn := fun _ => fun
  | [d1, d2] => { results := [.lit (.bool true)], args := [d1, d2] }
  | _ => none }
def bpduPlaysRow : OpenClaim := { program := "ytkbnkacmmjabkaa", sum := "cc3e34de940ec578de21e5d1865d889edc5c598fbf38253d1b5c2665d82c9467", func := "causey/causeylaw11.BpduPlays", spec := "bpduPlays", apart := false }
def BpduPlaysSaid : Prop := bpduPlaysRow.holds Try.pinned (OpenSpec.ofChange bpduPlaysSpec)

/-- ITS FALSE NEIGHBOUR: 'it returns false'. Refute it at one input. -/
def bpduPlaysWrong : ChangeSpec := { name := "bpduPlays", fn := fun _ => fun
  | [d1, d2] => { results := [.lit (.bool false)], args := [d1, d2] }
  | _ => none }
def BpduPlaysWrongFalsely : Prop := bpduPlaysRow.holds Try.pinned (OpenSpec.ofChange bpduPlaysWrong)

/- THE SECOND FORM. 'bulk': how many values and letters a reading holds, each counted each time it is reached (what is shared counts as often as it is met; a slice's spare places count too). A statement '..UptoSaid' is the law's where the arguments, and the package variables that the reading takes, are together of bulk at most 1048576: NARROWER than '..Said'. Prove '..Said' where nothing that the law and all that it calls make is longer than what came in: it says more and counts as full. Else prove '..UptoSaid'. A law counts once. -/
mutual
def uptoBulk {H : Type} : DataW H → Nat
  | .lit (.string bytes) => bytes.length + 1
  | .lit _ => 1
  | .nil => 1
  | .ptr d => uptoBulk d + 1
  | .slice elems spare => uptoBulkAll elems + uptoBulkAll spare + 1
  | .agg parts => uptoBulkAll parts + 1
  | .iface _ d => uptoBulk d + 1
  | .map entries => uptoBulkEntries entries + 1
  | .held _ => 1
def uptoBulkAll {H : Type} : List (DataW H) → Nat
  | [] => 0
  | d :: r => uptoBulk d + uptoBulkAll r
def uptoBulkEntries {H : Type} : List (Lit × DataW H) → Nat
  | [] => 0
  | x :: r => uptoBulkEntry x + uptoBulkEntries r
def uptoBulkEntry {H : Type} : Lit × DataW H → Nat
  | (.string bytes, d) => bytes.length + uptoBulk d + 1
  | (_, d) => uptoBulk d + 1
 end
def uptoSmall : (H : Type) → List (DataW H) → Bool := fun _ ds => decide (uptoBulkAll ds ≤ 1048576)
def OpenSpec.upto (s : _root_.Go.ChangeSpec) : _root_.Go.OpenSpec := { _root_.Go.OpenSpec.ofChange s with cond := some uptoSmall }

/-- 'causeylaw11.BpduOrder', WHERE WHAT IT READS IS OF BULK AT MOST 1048576: true; the input reads as it did. -/
def bpduOrderUptoRow : OpenClaim := { program := "ytkbnkacmmjabkaa", sum := "cc3e34de940ec578de21e5d1865d889edc5c598fbf38253d1b5c2665d82c9467", func := "causey/causeylaw11.BpduOrder", spec := "bpduOrder", apart := false, narrowed := true }
def BpduOrderUptoSaid : Prop := bpduOrderUptoRow.holds Try.pinned (OpenSpec.upto bpduOrderSpec)

/-- 'causeylaw11.BpduBack', WHERE WHAT IT READS IS OF BULK AT MOST 1048576: true; the input reads as it did. -/
def bpduBackUptoRow : OpenClaim := { program := "ytkbnkacmmjabkaa", sum := "cc3e34de940ec578de21e5d1865d889edc5c598fbf38253d1b5c2665d82c9467", func := "causey/causeylaw11.BpduBack", spec := "bpduBack", apart := false, narrowed := true }
def BpduBackUptoSaid : Prop := bpduBackUptoRow.holds Try.pinned (OpenSpec.upto bpduBackSpec)

/-- 'causeylaw11.BpduOnly', WHERE WHAT IT READS IS OF BULK AT MOST 1048576: true; the input reads as it did. -/
def bpduOnlyUptoRow : OpenClaim := { program := "ytkbnkacmmjabkaa", sum := "cc3e34de940ec578de21e5d1865d889edc5c598fbf38253d1b5c2665d82c9467", func := "causey/causeylaw11.BpduOnly", spec := "bpduOnly", apart := false, narrowed := true }
def BpduOnlyUptoSaid : Prop := bpduOnlyUptoRow.holds Try.pinned (OpenSpec.upto bpduOnlySpec)

/-- 'causeylaw11.BpduFlags', WHERE WHAT IT READS IS OF BULK AT MOST 1048576: true; the input reads as it did. -/
def bpduFlagsUptoRow : OpenClaim := { program := "ytkbnkacmmjabkaa", sum := "cc3e34de940ec578de21e5d1865d889edc5c598fbf38253d1b5c2665d82c9467", func := "causey/causeylaw11.BpduFlags", spec := "bpduFlags", apart := false, narrowed := true }
def BpduFlagsUptoSaid : Prop := bpduFlagsUptoRow.holds Try.pinned (OpenSpec.upto bpduFlagsSpec)

/-- 'causeylaw11.BpduPlays', WHERE WHAT IT READS IS OF BULK AT MOST 1048576: true; the input reads as it did. -/
def bpduPlaysUptoRow : OpenClaim := { program := "ytkbnkacmmjabkaa", sum := "cc3e34de940ec578de21e5d1865d889edc5c598fbf38253d1b5c2665d82c9467", func := "causey/causeylaw11.BpduPlays", spec := "bpduPlays", apart := false, narrowed := true }
def BpduPlaysUptoSaid : Prop := bpduPlaysUptoRow.holds Try.pinned (OpenSpec.upto bpduPlaysSpec)

end Rows
end Go.Proofs.Ytkbnkacmmjabkaa
