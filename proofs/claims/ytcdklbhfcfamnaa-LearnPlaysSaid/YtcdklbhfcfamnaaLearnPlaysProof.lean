/- LearnPlays: for every input the law returns true, and the input reads as it did. No condition. By an AI agent. -/
import Derived.Test.YtcdklbhfcfamnaaRows
import Derived.Test.YtcdklbhfcfamnaaKit
import Derived.Test.YtcdklbhfcfamnaaOpen
import Derived.Test.YtcdklbhfcfamnaaLearnPlays
import Derived.Test.YtcdklbhfcfamnaaOpenActs
namespace Go.Proofs.Ytcdklbhfcfamnaa.learnPlays
open Go.ChangeShapes Go.WideShapes Go.ChangeAt Go.RowKit
open Go.ChangeMaps (open_string shut_string)
theorem own : ownKnob Try.prog.godebug = none := by kernel_rfl
theorem params : Try.f7.params = #[3, 30, 36] := by kernel_rfl
set_option maxRecDepth 100000 in
theorem lifted (os : Os) (started : os.Started) (H : Type) (enc : TypeId × Value → H) :
    ReturnsInHanded {} Try.checked os 7 .any (Rows.learnPlaysSpec.pre6 enc Try.prog Try.f7 [] false) (Rows.learnPlaysSpec.post enc Try.prog Try.f7 false true false false) := by
  refine Kit.lifted (C := Try.checked) (fn := Try.f7) (s := Rows.learnPlaysSpec) (tb := 4) rfl (fun ds h => ?_) (by kernel_rfl) ?_ (by kernel_rfl) Try.underlying4 own started (by kernel_rfl) Try.func7
    (ChangeSpec.witness6 (enc := enc) (C := Try.checked) false ⟨#[], #[.int .i64 0, .slice none 0 0, .slice none 0 0], []⟩ 8 (by kernel_rfl) (by kernel_rfl) (by kernel_rfl) (by kernel_rfl)) ?_
  · rw [params] at h
    match ds, h with
    | [_, _, _], _ => rfl
  · rw [params]
    intro t ht
    simp only [List.mem_cons, List.not_mem_nil, or_false] at ht
    rcases ht with rfl | rfl | rfl
    · exact ⟨by kernel_rfl, of_decide_eq_true (by kernel_rfl)⟩
    · exact ⟨by kernel_rfl, of_decide_eq_true (by kernel_rfl)⟩
    · exact ⟨by kernel_rfl, of_decide_eq_true (by kernel_rfl)⟩
  · intro W base args ds ps hval hA hsz
    rw [params] at hA hval hsz
    obtain ⟨v0, vs0, d0, ds0, p0, q0, hargs, rfl, rfl, h0, r0⟩ := trodAll_cons hA
    obtain ⟨v1, vs1, d1, ds1, p1, q1, rfl, rfl, rfl, h1, r1⟩ := trodAll_cons r0
    obtain ⟨v2, vs2, d2, ds2, p2, q2, rfl, rfl, rfl, h2, r2⟩ := trodAll_cons r1
    obtain ⟨rfl, rfl, rfl⟩ := trodAll_nil r2
    obtain rfl : args = #[v0, v1, v2] := by cases args; simp_all
    obtain ⟨a0, rfl, rfl, rfl, wa0⟩ := open_int Try.underlying3 (hval 0 3 v0 rfl rfl) h0
    obtain ⟨ao1, ms1, cap1, rfl, hl1, hA1⟩ := open_lims (hval 1 30 v1 rfl rfl) h1
    obtain ⟨ao2, ms2, cap2, rfl, hl2, hA2, hB2⟩ := open_acts (hval 2 36 v2 rfl rfl) h2
    exact learnPlays_walk a0 wa0 ao1 ms1 cap1 ao2 ms2 cap2 W hA1 hl1 hA2 hl2 hB2

theorem holds : Rows.LearnPlaysSaid :=
  OpenClaim.holds_of_wide (p := Try.pinned) (s := Rows.learnPlaysSpec) (c := Rows.learnPlaysRow) 7 Try.f7 rfl rfl rfl rfl rfl rfl rfl ⟨rfl, rfl, rfl, rfl, rfl⟩ rfl rfl rfl rfl rfl (by kernel_rfl) Try.func7 (by kernel_rfl)
    (of_decide_eq_true (by kernel_rfl)) (by unfold Func.isWrapper; rw [if_neg (of_decide_eq_false (by kernel_rfl))]; exact ⟨rfl, rfl⟩)
    (fun os started H enc _ => lifted os started H enc)
end Go.Proofs.Ytcdklbhfcfamnaa.learnPlays
