/-
  No cell of these rows narrows 'for every input' (looked for: loops, veiled, ifaces, maps, wideKeys, modest, calm, conditions, laid).
  DERIVED. THE GIVEN ROWS OF THIS SEAT. 6 by the template 'for every input the law returns true; each argument reads behind the call as it read before'; 0 by the template 'total and deterministic' (their statements: YtnglpoognlegfaaTotals.lean).
  GIVEN WITH THE SEED: the statements are not yours to turn. If you find one false, say at which input.
  Laid BY PROGRAM, IN A SANDBOX (cutbox-rows.mjs): the forced cells as the released guide's own fill.sh prints them over the translation e959eb4f6cf474a3… (all of the seat's roots in one cut). By AI agents, Wed Nov 11 2026. No macro, syntax, notation, axiom, sorry.
-/
import Derived.Test.YtnglpoognlegfaaChecked
import GoSem.Claim
import GoSem.ClaimJoined
import GoSem.ClaimMapViews
import Derived.JoinedTies
import Derived.KernelRfl
namespace Go.Proofs.Ytnglpoognlegfaa
/- THE CELL 'sum', in the pinned program and in every row, IS THE sha256 OF THE DUMP (.gsa) THAT YtnglpoognlegfaaProg.lean LOADS. Nothing in Lean hashes anything: it is a label: what it is worth is what the hold of that sum in a sandbox is worth. -/
noncomputable def Try.pinned : Pinned := { name := "ytnglpoognlegfaa", sum := "e959eb4f6cf474a38e12a5c3850399cf387199c4c5ad70bd5b12db08b1d2120a", checked := Try.checked }
namespace Rows
def none {H : Type} : Left H := { results := [], args := [] }

/-- 'causeylaw19.VlanMembers': WHATEVER THE INPUT: true; the input reads as it did. -/
def vlanMembersSpec : ChangeSpec := { name := "vlanMembers", fn := fun _ => fun
  | [d1, d2] => { results := [.lit (.bool true)], args := [d1, d2] }
  | _ => none }
def vlanMembersRow : OpenClaim := { program := "ytnglpoognlegfaa", sum := "e959eb4f6cf474a38e12a5c3850399cf387199c4c5ad70bd5b12db08b1d2120a", func := "causey/causeylaw19.VlanMembers", spec := "vlanMembers", unfollowed := true, recurses := true, apart := false }
def VlanMembersSaid : Prop := vlanMembersRow.holds Try.pinned (OpenSpec.ofChange vlanMembersSpec)

/-- ITS FALSE NEIGHBOUR: 'it returns false'. Refute it at one input. -/
def vlanMembersWrong : ChangeSpec := { name := "vlanMembers", fn := fun _ => fun
  | [d1, d2] => { results := [.lit (.bool false)], args := [d1, d2] }
  | _ => none }
def VlanMembersWrongFalsely : Prop := vlanMembersRow.holds Try.pinned (OpenSpec.ofChange vlanMembersWrong)

/-- 'causeylaw19.VlanPlays': WHATEVER THE INPUT: true; the input reads as it did. -/
def vlanPlaysSpec : ChangeSpec := { name := "vlanPlays", fn := fun _ => fun
  | [d1, d2, d3, d4] => { results := [.lit (.bool true)], args := [d1, d2, d3, d4] }
  | _ => none }
def vlanPlaysRow : OpenClaim := { program := "ytnglpoognlegfaa", sum := "e959eb4f6cf474a38e12a5c3850399cf387199c4c5ad70bd5b12db08b1d2120a", func := "causey/causeylaw19.VlanPlays", spec := "vlanPlays", unfollowed := true, recurses := true, apart := false }
def VlanPlaysSaid : Prop := vlanPlaysRow.holds Try.pinned (OpenSpec.ofChange vlanPlaysSpec)

/-- ITS FALSE NEIGHBOUR: 'it returns false'. Refute it at one input. -/
def vlanPlaysWrong : ChangeSpec := { name := "vlanPlays", fn := fun _ => fun
  | [d1, d2, d3, d4] => { results := [.lit (.bool false)], args := [d1, d2, d3, d4] }
  | _ => none }
def VlanPlaysWrongFalsely : Prop := vlanPlaysRow.holds Try.pinned (OpenSpec.ofChange vlanPlaysWrong)

/-- 'causeylaw19.VlanApart': WHATEVER THE INPUT: true; the input reads as it did. -/
def vlanApartSpec : ChangeSpec := { name := "vlanApart", fn := fun _ => fun
  | [d1, d2, d3, d4] => { results := [.lit (.bool true)], args := [d1, d2, d3, d4] }
  | _ => none }
def vlanApartRow : OpenClaim := { program := "ytnglpoognlegfaa", sum := "e959eb4f6cf474a38e12a5c3850399cf387199c4c5ad70bd5b12db08b1d2120a", func := "causey/causeylaw19.VlanApart", spec := "vlanApart", unfollowed := true, recurses := true, apart := false }
def VlanApartSaid : Prop := vlanApartRow.holds Try.pinned (OpenSpec.ofChange vlanApartSpec)

/-- ITS FALSE NEIGHBOUR: 'it returns false'. Refute it at one input. -/
def vlanApartWrong : ChangeSpec := { name := "vlanApart", fn := fun _ => fun
  | [d1, d2, d3, d4] => { results := [.lit (.bool false)], args := [d1, d2, d3, d4] }
  | _ => none }
def VlanApartWrongFalsely : Prop := vlanApartRow.holds Try.pinned (OpenSpec.ofChange vlanApartWrong)

/-- 'causeylaw19.VlanBack': WHATEVER THE INPUT: true; the input reads as it did. -/
def vlanBackSpec : ChangeSpec := { name := "vlanBack", fn := fun _ => fun
  | [d1, d2, d3, d4] => { results := [.lit (.bool true)], args := [d1, d2, d3, d4] }
  | _ => none }
def vlanBackRow : OpenClaim := { program := "ytnglpoognlegfaa", sum := "e959eb4f6cf474a38e12a5c3850399cf387199c4c5ad70bd5b12db08b1d2120a", func := "causey/causeylaw19.VlanBack", spec := "vlanBack", unfollowed := true, recurses := true, apart := false }
def VlanBackSaid : Prop := vlanBackRow.holds Try.pinned (OpenSpec.ofChange vlanBackSpec)

/-- ITS FALSE NEIGHBOUR: 'it returns false'. Refute it at one input. -/
def vlanBackWrong : ChangeSpec := { name := "vlanBack", fn := fun _ => fun
  | [d1, d2, d3, d4] => { results := [.lit (.bool false)], args := [d1, d2, d3, d4] }
  | _ => none }
def VlanBackWrongFalsely : Prop := vlanBackRow.holds Try.pinned (OpenSpec.ofChange vlanBackWrong)

/-- 'causeylaw19.VlanBoth': WHATEVER THE INPUT: true; the input reads as it did. -/
def vlanBothSpec : ChangeSpec := { name := "vlanBoth", fn := fun _ => fun
  | [d1, d2, d3] => { results := [.lit (.bool true)], args := [d1, d2, d3] }
  | _ => none }
def vlanBothRow : OpenClaim := { program := "ytnglpoognlegfaa", sum := "e959eb4f6cf474a38e12a5c3850399cf387199c4c5ad70bd5b12db08b1d2120a", func := "causey/causeylaw19.VlanBoth", spec := "vlanBoth", unfollowed := true, recurses := true, apart := false }
def VlanBothSaid : Prop := vlanBothRow.holds Try.pinned (OpenSpec.ofChange vlanBothSpec)

/-- ITS FALSE NEIGHBOUR: 'it returns false'. Refute it at one input. -/
def vlanBothWrong : ChangeSpec := { name := "vlanBoth", fn := fun _ => fun
  | [d1, d2, d3] => { results := [.lit (.bool false)], args := [d1, d2, d3] }
  | _ => none }
def VlanBothWrongFalsely : Prop := vlanBothRow.holds Try.pinned (OpenSpec.ofChange vlanBothWrong)

/-- 'causeylaw19.VlanCounts': WHATEVER THE INPUT: true; the input reads as it did. -/
def vlanCountsSpec : ChangeSpec := { name := "vlanCounts", fn := fun _ => fun
  | [d] => { results := [.lit (.bool true)], args := [d] }
  | _ => none }
def vlanCountsRow : OpenClaim := { program := "ytnglpoognlegfaa", sum := "e959eb4f6cf474a38e12a5c3850399cf387199c4c5ad70bd5b12db08b1d2120a", func := "causey/causeylaw19.VlanCounts", spec := "vlanCounts", unfollowed := true, recurses := true, apart := false }
def VlanCountsSaid : Prop := vlanCountsRow.holds Try.pinned (OpenSpec.ofChange vlanCountsSpec)

/-- ITS FALSE NEIGHBOUR: 'it returns false'. Refute it at one input. -/
def vlanCountsWrong : ChangeSpec := { name := "vlanCounts", fn := fun _ => fun
  | [d] => { results := [.lit (.bool false)], args := [d] }
  | _ => none }
def VlanCountsWrongFalsely : Prop := vlanCountsRow.holds Try.pinned (OpenSpec.ofChange vlanCountsWrong)

/- THE SECOND FORM. 'bulk': how many values and letters a reading holds, each counted each time it is reached (what is shared counts as often as it is met; a slice's spare places count too). A statement '..UptoSaid' is the law's where the arguments, and the package variables that the reading takes, are together of bulk at most 1048576: NARROWER than '..Said'. Prove '..Said' where nothing that the law and all that it calls make is longer than what came in: it says more and counts as full. Else prove '..UptoSaid'. A law counts once. -/
mutual
def uptoBulk {H : Type} : DataW H → Nat
  | .lit (.string bytes) => bytes.length + 1
  | .lit _ => 1
  | .nil => 1
  | .ptr d => uptoBulk d + 1
  | .slice elems spare => uptoBulkAll elems + uptoBulkAll spare + 1
  | .agg parts => uptoBulkAll parts + 1
  | .iface _ d => uptoBulk d + 1
  | .map entries => uptoBulkEntries entries + 1
  | .held _ => 1
def uptoBulkAll {H : Type} : List (DataW H) → Nat
  | [] => 0
  | d :: r => uptoBulk d + uptoBulkAll r
def uptoBulkEntries {H : Type} : List (Lit × DataW H) → Nat
  | [] => 0
  | x :: r => uptoBulkEntry x + uptoBulkEntries r
def uptoBulkEntry {H : Type} : Lit × DataW H → Nat
  | (.string bytes, d) => bytes.length + uptoBulk d + 1
  | (_, d) => uptoBulk d + 1
 end
def uptoSmall : (H : Type) → List (DataW H) → Bool := fun _ ds => decide (uptoBulkAll ds ≤ 1048576)
def OpenSpec.upto (s : _root_.Go.ChangeSpec) : _root_.Go.OpenSpec := { _root_.Go.OpenSpec.ofChange s with cond := some uptoSmall }

/-- 'causeylaw19.VlanMembers', WHERE WHAT IT READS IS OF BULK AT MOST 1048576: true; the input reads as it did. -/
def vlanMembersUptoRow : OpenClaim := { program := "ytnglpoognlegfaa", sum := "e959eb4f6cf474a38e12a5c3850399cf387199c4c5ad70bd5b12db08b1d2120a", func := "causey/causeylaw19.VlanMembers", spec := "vlanMembers", unfollowed := true, recurses := true, apart := false, narrowed := true }
def VlanMembersUptoSaid : Prop := vlanMembersUptoRow.holds Try.pinned (OpenSpec.upto vlanMembersSpec)

/-- 'causeylaw19.VlanPlays', WHERE WHAT IT READS IS OF BULK AT MOST 1048576: true; the input reads as it did. -/
def vlanPlaysUptoRow : OpenClaim := { program := "ytnglpoognlegfaa", sum := "e959eb4f6cf474a38e12a5c3850399cf387199c4c5ad70bd5b12db08b1d2120a", func := "causey/causeylaw19.VlanPlays", spec := "vlanPlays", unfollowed := true, recurses := true, apart := false, narrowed := true }
def VlanPlaysUptoSaid : Prop := vlanPlaysUptoRow.holds Try.pinned (OpenSpec.upto vlanPlaysSpec)

/-- 'causeylaw19.VlanApart', WHERE WHAT IT READS IS OF BULK AT MOST 1048576: true; the input reads as it did. -/
def vlanApartUptoRow : OpenClaim := { program := "ytnglpoognlegfaa", sum := "e959eb4f6cf474a38e12a5c3850399cf387199c4c5ad70bd5b12db08b1d2120a", func := "causey/causeylaw19.VlanApart", spec := "vlanApart", unfollowed := true, recurses := true, apart := false, narrowed := true }
def VlanApartUptoSaid : Prop := vlanApartUptoRow.holds Try.pinned (OpenSpec.upto vlanApartSpec)

/-- 'causeylaw19.VlanBack', WHERE WHAT IT READS IS OF BULK AT MOST 1048576: true; the input reads as it did. -/
def vlanBackUptoRow : OpenClaim := { program := "ytnglpoognlegfaa", sum := "e959eb4f6cf474a38e12a5c3850399cf387199c4c5ad70bd5b12db08b1d2120a", func := "causey/causeylaw19.VlanBack", spec := "vlanBack", unfollowed := true, recurses := true, apart := false, narrowed := true }
def VlanBackUptoSaid : Prop := vlanBackUptoRow.holds Try.pinned (OpenSpec.upto vlanBackSpec)

/-- 'causeylaw19.VlanBoth', WHERE WHAT IT READS IS OF BULK AT MOST 1048576: true; the input reads as it did. -/
def vlanBothUptoRow : OpenClaim := { program := "ytnglpoognlegfaa", sum := "e959eb4f6cf474a38e12a5c3850399cf387199c4c5ad70bd5b12db08b1d2120a", func := "causey/causeylaw19.VlanBoth", spec := "vlanBoth", unfollowed := true, recurses := true, apart := false, narrowed := true }
def VlanBothUptoSaid : Prop := vlanBothUptoRow.holds Try.pinned (OpenSpec.upto vlanBothSpec)

/-- 'causeylaw19.VlanCounts', WHERE WHAT IT READS IS OF BULK AT MOST 1048576: true; the input reads as it did. -/
def vlanCountsUptoRow : OpenClaim := { program := "ytnglpoognlegfaa", sum := "e959eb4f6cf474a38e12a5c3850399cf387199c4c5ad70bd5b12db08b1d2120a", func := "causey/causeylaw19.VlanCounts", spec := "vlanCounts", unfollowed := true, recurses := true, apart := false, narrowed := true }
def VlanCountsUptoSaid : Prop := vlanCountsUptoRow.holds Try.pinned (OpenSpec.upto vlanCountsSpec)

end Rows
end Go.Proofs.Ytnglpoognlegfaa
