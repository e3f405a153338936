/- VecOvers: for every input the law returns true, and the input reads as it did. No condition. By an AI agent. -/
import Derived.Test.YthadlpiioabajaaRows
import Derived.Test.YthadlpiioabajaaKit
import Derived.Test.YthadlpiioabajaaOpen
import Derived.Test.YthadlpiioabajaaVecOvers
import Derived.Test.YthadlpiioabajaaOpenVec
namespace Go.Proofs.Ythadlpiioabajaa.vecOvers
open Go.ChangeShapes Go.WideShapes Go.ChangeAt Go.RowKit
open Go.ChangeMaps (open_string shut_string)
theorem own : ownKnob Try.prog.godebug = none := by kernel_rfl
theorem params : Try.f6.params = #[29, 29, 36, 30, 3] := by kernel_rfl
set_option maxRecDepth 100000 in
theorem lifted (os : Os) (started : os.Started) (H : Type) (enc : TypeId × Value → H) :
    ReturnsInHanded {} Try.checked os 6 .any (Rows.vecOversSpec.pre6 enc Try.prog Try.f6 [] false) (Rows.vecOversSpec.post enc Try.prog Try.f6 false true false false) := by
  refine Kit.lifted (C := Try.checked) (fn := Try.f6) (s := Rows.vecOversSpec) (tb := 4) rfl (fun ds h => ?_) (by kernel_rfl) ?_ (by kernel_rfl) Try.underlying4 own started (by kernel_rfl) Try.func6
    (ChangeSpec.witness6 (enc := enc) (C := Try.checked) false ⟨#[], #[.agg #[.int .u8 0, .int .u8 0, .int .u8 0, .int .u8 0, .int .u8 0, .int .u8 0, .int .u8 0, .int .u8 0, .int .i64 0, .int .u8 0, .int .u8 0, .int .u8 0, .int .u8 0, .int .u8 0, .int .u8 0, .int .u8 0, .int .u8 0, .int .i64 0], .agg #[.int .u8 0, .int .u8 0, .int .u8 0, .int .u8 0, .int .u8 0, .int .u8 0, .int .u8 0, .int .u8 0, .int .i64 0, .int .u8 0, .int .u8 0, .int .u8 0, .int .u8 0, .int .u8 0, .int .u8 0, .int .u8 0, .int .u8 0, .int .i64 0], .int .u16 0, .agg #[.int .u8 0, .int .u8 0, .int .u8 0, .int .u8 0, .int .u8 0, .int .u8 0, .int .u8 0, .int .u8 0], .int .i64 0], []⟩ 8 (by kernel_rfl) (by kernel_rfl) (by kernel_rfl) (by kernel_rfl)) ?_
  · rw [params] at h
    match ds, h with
    | [_, _, _, _, _], _ => rfl
  · rw [params]
    intro t ht
    simp only [List.mem_cons, List.not_mem_nil, or_false] at ht
    rcases ht with rfl | rfl | rfl | rfl | rfl
    · exact ⟨by kernel_rfl, of_decide_eq_true (by kernel_rfl)⟩
    · exact ⟨by kernel_rfl, of_decide_eq_true (by kernel_rfl)⟩
    · exact ⟨by kernel_rfl, of_decide_eq_true (by kernel_rfl)⟩
    · exact ⟨by kernel_rfl, of_decide_eq_true (by kernel_rfl)⟩
    · exact ⟨by kernel_rfl, of_decide_eq_true (by kernel_rfl)⟩
  · intro W base args ds ps hval hA hsz
    rw [params] at hA hval hsz
    obtain ⟨v0, vs0, d0, ds0, p0, q0, hargs, rfl, rfl, h0, r0⟩ := trodAll_cons hA
    obtain ⟨v1, vs1, d1, ds1, p1, q1, rfl, rfl, rfl, h1, r1⟩ := trodAll_cons r0
    obtain ⟨v2, vs2, d2, ds2, p2, q2, rfl, rfl, rfl, h2, r2⟩ := trodAll_cons r1
    obtain ⟨v3, vs3, d3, ds3, p3, q3, rfl, rfl, rfl, h3, r3⟩ := trodAll_cons r2
    obtain ⟨v4, vs4, d4, ds4, p4, q4, rfl, rfl, rfl, h4, r4⟩ := trodAll_cons r3
    obtain ⟨rfl, rfl, rfl⟩ := trodAll_nil r4
    obtain rfl : args = #[v0, v1, v2, v3, v4] := by cases args; simp_all
    obtain ⟨vr_0, vb_0, vc_0, vp_0, rfl, hc0, hp0⟩ := open_rvec (hval 0 29 v0 rfl rfl)
    obtain ⟨vr_1, vb_1, vc_1, vp_1, rfl, hc1, hp1⟩ := open_rvec (hval 1 29 v1 rfl rfl)
    obtain ⟨a2, rfl, rfl, rfl, wa2⟩ := open_int Try.underlying36 (hval 2 36 v2 rfl rfl) h2
    obtain ⟨a3, rfl⟩ := open_id (hval 3 30 v3 rfl rfl)
    obtain ⟨a4, rfl, rfl, rfl, wa4⟩ := open_int Try.underlying3 (hval 4 3 v4 rfl rfl) h4
    exact vecOvers_walk vr_0 vb_0 vc_0 vp_0 vr_1 vb_1 vc_1 vp_1 a2 wa2 a3 a4 wa4 W hc0 hp0 hc1 hp1

theorem holds : Rows.VecOversSaid :=
  OpenClaim.holds_of_wide (p := Try.pinned) (s := Rows.vecOversSpec) (c := Rows.vecOversRow) 6 Try.f6 rfl rfl rfl rfl rfl rfl rfl ⟨rfl, rfl, rfl, rfl, rfl⟩ rfl rfl rfl rfl rfl (by kernel_rfl) Try.func6 (by kernel_rfl)
    (of_decide_eq_true (by kernel_rfl)) (by unfold Func.isWrapper; rw [if_neg (of_decide_eq_false (by kernel_rfl))]; exact ⟨rfl, rfl⟩)
    (fun os started H enc _ => lifted os started H enc)
end Go.Proofs.Ythadlpiioabajaa.vecOvers
