/- LearnFixed: for every input the law returns true, and the input reads as it did. No condition. By an AI agent. -/
import Derived.Test.YtcdklbhfcfamnaaRows
import Derived.Test.YtcdklbhfcfamnaaKit
import Derived.Test.YtcdklbhfcfamnaaOpen
import Derived.Test.YtcdklbhfcfamnaaLearnFixed
namespace Go.Proofs.Ytcdklbhfcfamnaa.learnFixed
open Go.ChangeShapes Go.WideShapes Go.ChangeAt Go.RowKit
open Go.ChangeMaps (open_string shut_string)
theorem own : ownKnob Try.prog.godebug = none := by kernel_rfl
theorem params : Try.f6.params = #[45, 5] := by kernel_rfl
set_option maxRecDepth 100000 in
theorem lifted (os : Os) (started : os.Started) (H : Type) (enc : TypeId × Value → H) :
    ReturnsInHanded {} Try.checked os 6 .any (Rows.learnFixedSpec.pre6 enc Try.prog Try.f6 [] false) (Rows.learnFixedSpec.post enc Try.prog Try.f6 false true false false) := by
  refine Kit.lifted (C := Try.checked) (fn := Try.f6) (s := Rows.learnFixedSpec) (tb := 4) rfl (fun ds h => ?_) (by kernel_rfl) ?_ (by kernel_rfl) Try.underlying4 own started (by kernel_rfl) Try.func6
    (ChangeSpec.witness6 (enc := enc) (C := Try.checked) false ⟨#[], #[.slice none 0 0, .int .u8 0], []⟩ 8 (by kernel_rfl) (by kernel_rfl) (by kernel_rfl) (by kernel_rfl)) ?_
  · rw [params] at h
    match ds, h with
    | [_, _], _ => rfl
  · rw [params]
    intro t ht
    simp only [List.mem_cons, List.not_mem_nil, or_false] at ht
    rcases ht with rfl | rfl
    · exact ⟨by kernel_rfl, of_decide_eq_true (by kernel_rfl)⟩
    · exact ⟨by kernel_rfl, of_decide_eq_true (by kernel_rfl)⟩
  · intro W base args ds ps hval hA hsz
    rw [params] at hA hval hsz
    obtain ⟨v0, vs0, d0, ds0, p0, q0, hargs, rfl, rfl, h0, r0⟩ := trodAll_cons hA
    obtain ⟨v1, vs1, d1, ds1, p1, q1, rfl, rfl, rfl, h1, r1⟩ := trodAll_cons r0
    obtain ⟨rfl, rfl, rfl⟩ := trodAll_nil r1
    obtain rfl : args = #[v0, v1] := by cases args; simp_all
    obtain ⟨ao0, ms0, cap0, rfl, hl0, hA0⟩ := open_macs (hval 0 45 v0 rfl rfl) h0
    obtain ⟨a1, rfl, rfl, rfl, wa1⟩ := open_int Try.underlying5 (hval 1 5 v1 rfl rfl) h1
    exact learnFixed_walk ao0 ms0 cap0 a1 wa1 W hA0 hl0

theorem holds : Rows.LearnFixedSaid :=
  OpenClaim.holds_of_wide (p := Try.pinned) (s := Rows.learnFixedSpec) (c := Rows.learnFixedRow) 6 Try.f6 rfl rfl rfl rfl rfl rfl rfl ⟨rfl, rfl, rfl, rfl, rfl⟩ rfl rfl rfl rfl rfl (by kernel_rfl) Try.func6 (by kernel_rfl)
    (of_decide_eq_true (by kernel_rfl)) (by unfold Func.isWrapper; rw [if_neg (of_decide_eq_false (by kernel_rfl))]; exact ⟨rfl, rfl⟩)
    (fun os started H enc _ => lifted os started H enc)
end Go.Proofs.Ytcdklbhfcfamnaa.learnFixed
