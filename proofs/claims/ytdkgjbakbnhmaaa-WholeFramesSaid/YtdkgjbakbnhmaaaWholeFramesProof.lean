/- WholeFrames: for every input the law returns true, and the input reads as it did. No condition. By an AI agent. -/
import Derived.Test.YtdkgjbakbnhmaaaRows
import Derived.Test.YtdkgjbakbnhmaaaKit
import Derived.Test.YtdkgjbakbnhmaaaOpen
import Derived.Test.YtdkgjbakbnhmaaaTop6
namespace Go.Proofs.Ytdkgjbakbnhmaaa.wholeFrames
open Go.ChangeShapes Go.WideShapes Go.ChangeAt Go.RowKit
open Go.ChangeMaps (open_string shut_string)
theorem own : ownKnob Try.prog.godebug = none := by kernel_rfl
theorem params : Try.f3.params = #[27, 28, 5] := by kernel_rfl
set_option maxRecDepth 100000 in
theorem lifted (os : Os) (started : os.Started) (H : Type) (enc : TypeId × Value → H) :
    ReturnsInHanded {} Try.checked os 3 .any (Rows.wholeFramesSpec.pre6 enc Try.prog Try.f3 [] false) (Rows.wholeFramesSpec.post enc Try.prog Try.f3 false true false false) := by
  refine Kit.lifted (C := Try.checked) (fn := Try.f3) (s := Rows.wholeFramesSpec) (tb := 4) rfl (fun ds h => ?_) (by kernel_rfl) ?_ (by kernel_rfl) Try.underlying4 own started (by kernel_rfl) Try.func3
    (ChangeSpec.witness6 (enc := enc) (C := Try.checked) false ⟨#[], #[.agg #[.int .u8 0, .int .u8 0, .int .u8 0, .int .u8 0, .int .u8 0, .int .u8 0, .int .u8 0, .int .u8 0, .int .u8 0, .int .u8 0, .int .u8 0, .int .u8 0, .int .i64 0, .string ByteArray.empty, .int .i64 0, .int .i64 0], .int .u32 0, .int .u8 0], []⟩ 8 (by kernel_rfl) (by kernel_rfl) (by kernel_rfl) (by kernel_rfl)) ?_
  · rw [params] at h
    match ds, h with
    | [_, _, _], _ => rfl
  · rw [params]
    intro t ht
    simp only [List.mem_cons, List.not_mem_nil, or_false] at ht
    rcases ht with rfl | rfl | rfl
    · exact ⟨by kernel_rfl, of_decide_eq_true (by kernel_rfl)⟩
    · exact ⟨by kernel_rfl, of_decide_eq_true (by kernel_rfl)⟩
    · exact ⟨by kernel_rfl, of_decide_eq_true (by kernel_rfl)⟩
  · intro W base args ds ps hval hA hsz
    rw [params] at hA hval hsz
    obtain ⟨v0, vs0, d0, ds0, p0, q0, hargs, rfl, rfl, h0, r0⟩ := trodAll_cons hA
    obtain ⟨v1, vs1, d1, ds1, p1, q1, rfl, rfl, rfl, h1, r1⟩ := trodAll_cons r0
    obtain ⟨v2, vs2, d2, ds2, p2, q2, rfl, rfl, rfl, h2, r2⟩ := trodAll_cons r1
    obtain ⟨rfl, rfl, rfl⟩ := trodAll_nil r2
    obtain rfl : args = #[v0, v1, v2] := by cases args; simp_all
    obtain ⟨d0, s0, y0, e0, f0, g0, rfl⟩ := open_eth8 (hval 0 27 v0 rfl rfl)
    obtain ⟨a1, rfl, rfl, rfl, wa1⟩ := open_int Try.underlying28 (hval 1 28 v1 rfl rfl) h1
    obtain ⟨a2, rfl, rfl, rfl, wa2⟩ := open_int Try.underlying5 (hval 2 5 v2 rfl rfl) h2
    exact wholeFrames_walk d0 s0 y0 e0 f0 g0 a1 wa1 a2 wa2 W 

theorem holds : Rows.WholeFramesSaid :=
  OpenClaim.holds_of_wide (p := Try.pinned) (s := Rows.wholeFramesSpec) (c := Rows.wholeFramesRow) 3 Try.f3 rfl rfl rfl rfl rfl rfl rfl ⟨rfl, rfl, rfl, rfl, rfl⟩ rfl rfl rfl rfl rfl (by kernel_rfl) Try.func3 (by kernel_rfl)
    (of_decide_eq_true (by kernel_rfl)) (by unfold Func.isWrapper; rw [if_neg (of_decide_eq_false (by kernel_rfl))]; exact ⟨rfl, rfl⟩)
    (fun os started H enc _ => lifted os started H enc)
end Go.Proofs.Ytdkgjbakbnhmaaa.wholeFrames
