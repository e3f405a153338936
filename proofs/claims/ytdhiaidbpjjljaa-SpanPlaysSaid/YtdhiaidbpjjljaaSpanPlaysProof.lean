/- SpanPlays: for every input the law returns true, and the input reads as it did. No condition. By an AI agent. -/
import Derived.Test.YtdhiaidbpjjljaaRows
import Derived.Test.YtdhiaidbpjjljaaKit
import Derived.Test.YtdhiaidbpjjljaaOpen
import Derived.Test.YtdhiaidbpjjljaaSpanPlays
import Derived.Test.YtdhiaidbpjjljaaOpenSpan
namespace Go.Proofs.Ytdhiaidbpjjljaa.spanPlays
open Go.ChangeShapes Go.WideShapes Go.ChangeAt Go.RowKit
open Go.ChangeMaps (open_string shut_string)
theorem own : ownKnob Try.prog.godebug = none := by kernel_rfl
theorem params : Try.f5.params = #[23, 26, 51, 52] := by kernel_rfl
set_option maxRecDepth 100000 in
theorem lifted (os : Os) (started : os.Started) (H : Type) (enc : TypeId × Value → H) :
    ReturnsInHanded {} Try.checked os 5 .any (Rows.spanPlaysSpec.pre6 enc Try.prog Try.f5 [] false) (Rows.spanPlaysSpec.post enc Try.prog Try.f5 false true false false) := by
  refine Kit.lifted (C := Try.checked) (fn := Try.f5) (s := Rows.spanPlaysSpec) (tb := 4) rfl (fun ds h => ?_) (by kernel_rfl) ?_ (by kernel_rfl) Try.underlying4 own started (by kernel_rfl) Try.func5
    (ChangeSpec.witness6 (enc := enc) (C := Try.checked) false ⟨#[], #[.agg #[.int .u8 0, .int .u8 0, .int .u8 0, .int .u8 0, .int .u8 0, .int .u8 0, .int .u8 0, .int .u8 0], .slice none 0 0, .agg #[.int .i64 0, .int .i64 0, .int .i64 0], .slice none 0 0], []⟩ 8 (by kernel_rfl) (by kernel_rfl) (by kernel_rfl) (by kernel_rfl)) ?_
  · rw [params] at h
    match ds, h with
    | [_, _, _, _], _ => rfl
  · rw [params]
    intro t ht
    simp only [List.mem_cons, List.not_mem_nil, or_false] at ht
    rcases ht with rfl | rfl | rfl | rfl
    · exact ⟨by kernel_rfl, of_decide_eq_true (by kernel_rfl)⟩
    · exact ⟨by kernel_rfl, of_decide_eq_true (by kernel_rfl)⟩
    · exact ⟨by kernel_rfl, of_decide_eq_true (by kernel_rfl)⟩
    · exact ⟨by kernel_rfl, of_decide_eq_true (by kernel_rfl)⟩
  · intro W base args ds ps hval hA hsz
    rw [params] at hA hval hsz
    obtain ⟨v0, vs0, d0, ds0, p0, q0, hargs, rfl, rfl, h0, r0⟩ := trodAll_cons hA
    obtain ⟨v1, vs1, d1, ds1, p1, q1, rfl, rfl, rfl, h1, r1⟩ := trodAll_cons r0
    obtain ⟨v2, vs2, d2, ds2, p2, q2, rfl, rfl, rfl, h2, r2⟩ := trodAll_cons r1
    obtain ⟨v3, vs3, d3, ds3, p3, q3, rfl, rfl, rfl, h3, r3⟩ := trodAll_cons r2
    obtain ⟨rfl, rfl, rfl⟩ := trodAll_nil r3
    obtain rfl : args = #[v0, v1, v2, v3] := by cases args; simp_all
    obtain ⟨a0, rfl⟩ := open_id (hval 0 23 v0 rfl rfl)
    obtain ⟨ao1, ms1, cap1, rfl, hl1, hA1⟩ := open_lims (hval 1 26 v1 rfl rfl) h1
    obtain ⟨t2, u2, x2, rfl, i2⟩ := open_arr3 (hval 2 51 v2 rfl rfl)
    obtain ⟨ao3, ms3, cap3, rfl, hl3, hA3, hB3⟩ := open_acts (hval 3 52 v3 rfl rfl) h3
    exact spanPlays_walk a0 ao1 ms1 cap1 t2 u2 x2 ao3 ms3 cap3 W hA1 hl1 i2 hA3 hl3 hB3

theorem holds : Rows.SpanPlaysSaid :=
  OpenClaim.holds_of_wide (p := Try.pinned) (s := Rows.spanPlaysSpec) (c := Rows.spanPlaysRow) 5 Try.f5 rfl rfl rfl rfl rfl rfl rfl ⟨rfl, rfl, rfl, rfl, rfl⟩ rfl rfl rfl rfl rfl (by kernel_rfl) Try.func5 (by kernel_rfl)
    (of_decide_eq_true (by kernel_rfl)) (by unfold Func.isWrapper; rw [if_neg (of_decide_eq_false (by kernel_rfl))]; exact ⟨rfl, rfl⟩)
    (fun os started H enc _ => lifted os started H enc)
end Go.Proofs.Ytdhiaidbpjjljaa.spanPlays
