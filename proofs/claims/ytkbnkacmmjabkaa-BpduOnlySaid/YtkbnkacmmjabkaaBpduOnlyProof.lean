/- BpduOnly: for every input the law returns true, and the input reads as it did. No condition. By an AI agent. -/
import Derived.Test.YtkbnkacmmjabkaaRows
import Derived.Test.YtkbnkacmmjabkaaKit
import Derived.Test.YtkbnkacmmjabkaaOpen
import Derived.Test.YtkbnkacmmjabkaaBpduOnly
namespace Go.Proofs.Ytkbnkacmmjabkaa.bpduOnly
open Go.ChangeShapes Go.WideShapes Go.ChangeAt Go.RowKit
open Go.ChangeMaps (open_string shut_string)
theorem own : ownKnob Try.prog.godebug = none := by kernel_rfl
theorem params : Try.f5.params = #[9] := by kernel_rfl
set_option maxRecDepth 100000 in
theorem lifted (os : Os) (started : os.Started) (H : Type) (enc : TypeId × Value → H) :
    ReturnsInHanded {} Try.checked os 5 .any (Rows.bpduOnlySpec.pre6 enc Try.prog Try.f5 [] false) (Rows.bpduOnlySpec.post enc Try.prog Try.f5 false true false false) := by
  refine Kit.lifted (C := Try.checked) (fn := Try.f5) (s := Rows.bpduOnlySpec) (tb := 4) rfl (fun ds h => ?_) (by kernel_rfl) ?_ (by kernel_rfl) Try.underlying4 own started (by kernel_rfl) Try.func5
    (ChangeSpec.witness6 (enc := enc) (C := Try.checked) false ⟨#[], #[.string ByteArray.empty], []⟩ 8 (by kernel_rfl) (by kernel_rfl) (by kernel_rfl) (by kernel_rfl)) ?_
  · rw [params] at h
    match ds, h with
    | [_], _ => rfl
  · rw [params]
    intro t ht
    simp only [List.mem_cons, List.not_mem_nil, or_false] at ht
    subst ht
    exact ⟨by kernel_rfl, of_decide_eq_true (by kernel_rfl)⟩
  · intro W base args ds ps hval hA hsz
    rw [params] at hA hval hsz
    obtain ⟨v0, vs0, d0, ds0, p0, q0, hargs, rfl, rfl, h0, r0⟩ := trodAll_cons hA
    obtain ⟨rfl, rfl, rfl⟩ := trodAll_nil r0
    obtain rfl : args = #[v0] := by cases args; simp_all
    obtain ⟨a0, rfl, rfl, rfl, wa0⟩ := open_string Try.underlying9 (hval 0 9 v0 rfl rfl) h0
    exact bpduOnly_walk a0 W 

theorem holds : Rows.BpduOnlySaid :=
  OpenClaim.holds_of_wide (p := Try.pinned) (s := Rows.bpduOnlySpec) (c := Rows.bpduOnlyRow) 5 Try.f5 rfl rfl rfl rfl rfl rfl rfl ⟨rfl, rfl, rfl, rfl, rfl⟩ rfl rfl rfl rfl rfl (by kernel_rfl) Try.func5 (by kernel_rfl)
    (of_decide_eq_true (by kernel_rfl)) (by unfold Func.isWrapper; rw [if_neg (of_decide_eq_false (by kernel_rfl))]; exact ⟨rfl, rfl⟩)
    (fun os started H enc _ => lifted os started H enc)
end Go.Proofs.Ytkbnkacmmjabkaa.bpduOnly
