/- LeastTree: for every input the law returns true, and the input reads as it did. No condition. By an AI agent. -/
import Derived.Test.YtcmokhpnooldgaaRows
import Derived.Test.YtcmokhpnooldgaaKit
import Derived.Test.YtcmokhpnooldgaaOpen
import Derived.Test.YtcmokhpnooldgaaLeastTree
import Derived.Test.YtcmokhpnooldgaaOpenNet
namespace Go.Proofs.Ytcmokhpnooldgaa.leastTree
open Go.ChangeShapes Go.WideShapes Go.ChangeAt Go.RowKit
open Go.ChangeMaps (open_string shut_string)
theorem own : ownKnob Try.prog.godebug = none := by kernel_rfl
theorem params : Try.f3.params = #[26] := by kernel_rfl
set_option maxRecDepth 100000 in
theorem lifted (os : Os) (started : os.Started) (H : Type) (enc : TypeId × Value → H) :
    ReturnsInHanded {} Try.checked os 3 .any (Rows.leastTreeSpec.pre6 enc Try.prog Try.f3 [] false) (Rows.leastTreeSpec.post enc Try.prog Try.f3 false true false false) := by
  refine Kit.lifted (C := Try.checked) (fn := Try.f3) (s := Rows.leastTreeSpec) (tb := 4) rfl (fun ds h => ?_) (by kernel_rfl) ?_ (by kernel_rfl) Try.underlying4 own started (by kernel_rfl) Try.func3
    (ChangeSpec.witness6 (enc := enc) (C := Try.checked) false ⟨#[], #[.agg #[.slice none 0 0, .slice none 0 0, .slice none 0 0]], []⟩ 8 (by kernel_rfl) (by kernel_rfl) (by kernel_rfl) (by kernel_rfl)) ?_
  · rw [params] at h
    match ds, h with
    | [_], _ => rfl
  · rw [params]
    intro t ht
    simp only [List.mem_cons, List.not_mem_nil, or_false] at ht
    subst ht
    exact ⟨by kernel_rfl, of_decide_eq_true (by kernel_rfl)⟩
  · intro W base args ds ps hval hA hsz
    rw [params] at hA hval hsz
    obtain ⟨v0, vs0, d0, ds0, p0, q0, hargs, rfl, rfl, h0, r0⟩ := trodAll_cons hA
    obtain ⟨rfl, rfl, rfl⟩ := trodAll_nil r0
    obtain rfl : args = #[v0] := by cases args; simp_all
    obtain ⟨nv0, N0, rfl, hA0⟩ := open_net (hval 0 26 v0 rfl rfl) h0
    exact leastTree_walk nv0 N0 W hA0

theorem holds : Rows.LeastTreeSaid :=
  OpenClaim.holds_of_wide (p := Try.pinned) (s := Rows.leastTreeSpec) (c := Rows.leastTreeRow) 3 Try.f3 rfl rfl rfl rfl rfl rfl rfl ⟨rfl, rfl, rfl, rfl, rfl⟩ rfl rfl rfl rfl rfl (by kernel_rfl) Try.func3 (by kernel_rfl)
    (of_decide_eq_true (by kernel_rfl)) (by unfold Func.isWrapper; rw [if_neg (of_decide_eq_false (by kernel_rfl))]; exact ⟨rfl, rfl⟩)
    (fun os started H enc _ => lifted os started H enc)
end Go.Proofs.Ytcmokhpnooldgaa.leastTree
