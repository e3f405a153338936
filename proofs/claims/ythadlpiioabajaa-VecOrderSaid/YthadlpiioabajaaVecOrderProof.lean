/- VecOrder: for every input the law returns true, and the input reads as it did. No condition. By an AI agent. -/
import Derived.Test.YthadlpiioabajaaRows
import Derived.Test.YthadlpiioabajaaKit
import Derived.Test.YthadlpiioabajaaOpen
import Derived.Test.YthadlpiioabajaaVecOrder
import Derived.Test.YthadlpiioabajaaOpenVec
namespace Go.Proofs.Ythadlpiioabajaa.vecOrder
open Go.ChangeShapes Go.WideShapes Go.ChangeAt Go.RowKit
open Go.ChangeMaps (open_string shut_string)
theorem own : ownKnob Try.prog.godebug = none := by kernel_rfl
theorem params : Try.f5.params = #[29, 29, 29] := by kernel_rfl
set_option maxRecDepth 100000 in
theorem lifted (os : Os) (started : os.Started) (H : Type) (enc : TypeId × Value → H) :
    ReturnsInHanded {} Try.checked os 5 .any (Rows.vecOrderSpec.pre6 enc Try.prog Try.f5 [] false) (Rows.vecOrderSpec.post enc Try.prog Try.f5 false true false false) := by
  refine Kit.lifted (C := Try.checked) (fn := Try.f5) (s := Rows.vecOrderSpec) (tb := 4) rfl (fun ds h => ?_) (by kernel_rfl) ?_ (by kernel_rfl) Try.underlying4 own started (by kernel_rfl) Try.func5
    (ChangeSpec.witness6 (enc := enc) (C := Try.checked) false ⟨#[], #[.agg #[.int .u8 0, .int .u8 0, .int .u8 0, .int .u8 0, .int .u8 0, .int .u8 0, .int .u8 0, .int .u8 0, .int .i64 0, .int .u8 0, .int .u8 0, .int .u8 0, .int .u8 0, .int .u8 0, .int .u8 0, .int .u8 0, .int .u8 0, .int .i64 0], .agg #[.int .u8 0, .int .u8 0, .int .u8 0, .int .u8 0, .int .u8 0, .int .u8 0, .int .u8 0, .int .u8 0, .int .i64 0, .int .u8 0, .int .u8 0, .int .u8 0, .int .u8 0, .int .u8 0, .int .u8 0, .int .u8 0, .int .u8 0, .int .i64 0], .agg #[.int .u8 0, .int .u8 0, .int .u8 0, .int .u8 0, .int .u8 0, .int .u8 0, .int .u8 0, .int .u8 0, .int .i64 0, .int .u8 0, .int .u8 0, .int .u8 0, .int .u8 0, .int .u8 0, .int .u8 0, .int .u8 0, .int .u8 0, .int .i64 0]], []⟩ 8 (by kernel_rfl) (by kernel_rfl) (by kernel_rfl) (by kernel_rfl)) ?_
  · rw [params] at h
    match ds, h with
    | [_, _, _], _ => rfl
  · rw [params]
    intro t ht
    simp only [List.mem_cons, List.not_mem_nil, or_false] at ht
    rcases ht with rfl | rfl | rfl
    · exact ⟨by kernel_rfl, of_decide_eq_true (by kernel_rfl)⟩
    · exact ⟨by kernel_rfl, of_decide_eq_true (by kernel_rfl)⟩
    · exact ⟨by kernel_rfl, of_decide_eq_true (by kernel_rfl)⟩
  · intro W base args ds ps hval hA hsz
    rw [params] at hA hval hsz
    obtain ⟨v0, vs0, d0, ds0, p0, q0, hargs, rfl, rfl, h0, r0⟩ := trodAll_cons hA
    obtain ⟨v1, vs1, d1, ds1, p1, q1, rfl, rfl, rfl, h1, r1⟩ := trodAll_cons r0
    obtain ⟨v2, vs2, d2, ds2, p2, q2, rfl, rfl, rfl, h2, r2⟩ := trodAll_cons r1
    obtain ⟨rfl, rfl, rfl⟩ := trodAll_nil r2
    obtain rfl : args = #[v0, v1, v2] := by cases args; simp_all
    obtain ⟨vr_0, vb_0, vc_0, vp_0, rfl, hc0, hp0⟩ := open_rvec (hval 0 29 v0 rfl rfl)
    obtain ⟨vr_1, vb_1, vc_1, vp_1, rfl, hc1, hp1⟩ := open_rvec (hval 1 29 v1 rfl rfl)
    obtain ⟨vr_2, vb_2, vc_2, vp_2, rfl, hc2, hp2⟩ := open_rvec (hval 2 29 v2 rfl rfl)
    exact vecOrder_walk vr_0 vb_0 vc_0 vp_0 vr_1 vb_1 vc_1 vp_1 vr_2 vb_2 vc_2 vp_2 W hc0 hp0 hc1 hp1 hc2 hp2

theorem holds : Rows.VecOrderSaid :=
  OpenClaim.holds_of_wide (p := Try.pinned) (s := Rows.vecOrderSpec) (c := Rows.vecOrderRow) 5 Try.f5 rfl rfl rfl rfl rfl rfl rfl ⟨rfl, rfl, rfl, rfl, rfl⟩ rfl rfl rfl rfl rfl (by kernel_rfl) Try.func5 (by kernel_rfl)
    (of_decide_eq_true (by kernel_rfl)) (by unfold Func.isWrapper; rw [if_neg (of_decide_eq_false (by kernel_rfl))]; exact ⟨rfl, rfl⟩)
    (fun os started H enc _ => lifted os started H enc)
end Go.Proofs.Ythadlpiioabajaa.vecOrder
