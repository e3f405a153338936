/- LearnAges: for every input the law returns true, and the input reads as it did. No condition. By an AI agent. -/
import Derived.Test.YtcdklbhfcfamnaaRows
import Derived.Test.YtcdklbhfcfamnaaKit
import Derived.Test.YtcdklbhfcfamnaaOpen
import Derived.Test.YtcdklbhfcfamnaaLearnAges
namespace Go.Proofs.Ytcdklbhfcfamnaa.learnAges
open Go.ChangeShapes Go.WideShapes Go.ChangeAt Go.RowKit
open Go.ChangeMaps (open_string shut_string)
theorem own : ownKnob Try.prog.godebug = none := by kernel_rfl
theorem params : Try.f8.params = #[5, 23, 23] := by kernel_rfl
set_option maxRecDepth 100000 in
theorem lifted (os : Os) (started : os.Started) (H : Type) (enc : TypeId × Value → H) :
    ReturnsInHanded {} Try.checked os 8 .any (Rows.learnAgesSpec.pre6 enc Try.prog Try.f8 [] false) (Rows.learnAgesSpec.post enc Try.prog Try.f8 false true false false) := by
  refine Kit.lifted (C := Try.checked) (fn := Try.f8) (s := Rows.learnAgesSpec) (tb := 4) rfl (fun ds h => ?_) (by kernel_rfl) ?_ (by kernel_rfl) Try.underlying4 own started (by kernel_rfl) Try.func8
    (ChangeSpec.witness6 (enc := enc) (C := Try.checked) false ⟨#[], #[.int .u8 0, .agg #[.int .u8 0, .int .u8 0, .int .u8 0, .int .u8 0, .int .u8 0, .int .u8 0], .agg #[.int .u8 0, .int .u8 0, .int .u8 0, .int .u8 0, .int .u8 0, .int .u8 0]], []⟩ 8 (by kernel_rfl) (by kernel_rfl) (by kernel_rfl) (by kernel_rfl)) ?_
  · rw [params] at h
    match ds, h with
    | [_, _, _], _ => rfl
  · rw [params]
    intro t ht
    simp only [List.mem_cons, List.not_mem_nil, or_false] at ht
    rcases ht with rfl | rfl | rfl
    · exact ⟨by kernel_rfl, of_decide_eq_true (by kernel_rfl)⟩
    · exact ⟨by kernel_rfl, of_decide_eq_true (by kernel_rfl)⟩
    · exact ⟨by kernel_rfl, of_decide_eq_true (by kernel_rfl)⟩
  · intro W base args ds ps hval hA hsz
    rw [params] at hA hval hsz
    obtain ⟨v0, vs0, d0, ds0, p0, q0, hargs, rfl, rfl, h0, r0⟩ := trodAll_cons hA
    obtain ⟨v1, vs1, d1, ds1, p1, q1, rfl, rfl, rfl, h1, r1⟩ := trodAll_cons r0
    obtain ⟨v2, vs2, d2, ds2, p2, q2, rfl, rfl, rfl, h2, r2⟩ := trodAll_cons r1
    obtain ⟨rfl, rfl, rfl⟩ := trodAll_nil r2
    obtain rfl : args = #[v0, v1, v2] := by cases args; simp_all
    obtain ⟨a0, rfl, rfl, rfl, wa0⟩ := open_int Try.underlying5 (hval 0 5 v0 rfl rfl) h0
    obtain ⟨a1_0, a1_1, a1_2, a1_3, a1_4, a1_5, rfl⟩ := open_mac (hval 1 23 v1 rfl rfl)
    obtain ⟨a2_0, a2_1, a2_2, a2_3, a2_4, a2_5, rfl⟩ := open_mac (hval 2 23 v2 rfl rfl)
    exact learnAges_walk a0 wa0 a1_0 a1_1 a1_2 a1_3 a1_4 a1_5 a2_0 a2_1 a2_2 a2_3 a2_4 a2_5 W 

theorem holds : Rows.LearnAgesSaid :=
  OpenClaim.holds_of_wide (p := Try.pinned) (s := Rows.learnAgesSpec) (c := Rows.learnAgesRow) 8 Try.f8 rfl rfl rfl rfl rfl rfl rfl ⟨rfl, rfl, rfl, rfl, rfl⟩ rfl rfl rfl rfl rfl (by kernel_rfl) Try.func8 (by kernel_rfl)
    (of_decide_eq_true (by kernel_rfl)) (by unfold Func.isWrapper; rw [if_neg (of_decide_eq_false (by kernel_rfl))]; exact ⟨rfl, rfl⟩)
    (fun os started H enc _ => lifted os started H enc)
end Go.Proofs.Ytcdklbhfcfamnaa.learnAges
