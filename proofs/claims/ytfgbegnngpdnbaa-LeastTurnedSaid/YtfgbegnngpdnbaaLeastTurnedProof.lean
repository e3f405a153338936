/- LeastTurned: for every input the law returns true, and the input reads as it did. No condition. By an AI agent. -/
import Derived.Test.YtfgbegnngpdnbaaRows
import Derived.Test.YtfgbegnngpdnbaaKit
import Derived.Test.YtfgbegnngpdnbaaOpen
import Derived.Test.YtfgbegnngpdnbaaLeastTurned
import Derived.Test.YtfgbegnngpdnbaaOpenTurn
namespace Go.Proofs.Ytfgbegnngpdnbaa.leastTurned
open Go.ChangeShapes Go.WideShapes Go.ChangeAt Go.RowKit
open Go.ChangeMaps (open_string shut_string)
theorem own : ownKnob Try.prog.godebug = none := by kernel_rfl
theorem params : Try.f5.params = #[26, 41] := by kernel_rfl
set_option maxRecDepth 100000 in
theorem lifted (os : Os) (started : os.Started) (H : Type) (enc : TypeId × Value → H) :
    ReturnsInHanded {} Try.checked os 5 .any (Rows.leastTurnedSpec.pre6 enc Try.prog Try.f5 [] false) (Rows.leastTurnedSpec.post enc Try.prog Try.f5 false true false false) := by
  refine Kit.lifted (C := Try.checked) (fn := Try.f5) (s := Rows.leastTurnedSpec) (tb := 4) rfl (fun ds h => ?_) (by kernel_rfl) ?_ (by kernel_rfl) Try.underlying4 own started (by kernel_rfl) Try.func5
    (ChangeSpec.witness6 (enc := enc) (C := Try.checked) false ⟨#[], #[.agg #[.slice none 0 0, .slice none 0 0, .slice none 0 0], .slice none 0 0], []⟩ 8 (by kernel_rfl) (by kernel_rfl) (by kernel_rfl) (by kernel_rfl)) ?_
  · rw [params] at h
    match ds, h with
    | [_, _], _ => rfl
  · rw [params]
    intro t ht
    simp only [List.mem_cons, List.not_mem_nil, or_false] at ht
    rcases ht with rfl | rfl
    · exact ⟨by kernel_rfl, of_decide_eq_true (by kernel_rfl)⟩
    · exact ⟨by kernel_rfl, of_decide_eq_true (by kernel_rfl)⟩
  · intro W base args ds ps hval hA hsz
    rw [params] at hA hval hsz
    obtain ⟨v0, vs0, d0, ds0, p0, q0, hargs, rfl, rfl, h0, r0⟩ := trodAll_cons hA
    obtain ⟨v1, vs1, d1, ds1, p1, q1, rfl, rfl, rfl, h1, r1⟩ := trodAll_cons r0
    obtain ⟨rfl, rfl, rfl⟩ := trodAll_nil r1
    obtain rfl : args = #[v0, v1] := by cases args; simp_all
    obtain ⟨nv0, N0, rfl, hA0⟩ := open_net (hval 0 26 v0 rfl rfl) h0
    obtain ⟨ao1, bs1, cap1, rfl, hB1⟩ := open_bools18 (hval 1 41 v1 rfl rfl) h1
    exact leastTurned_walk nv0 N0 ao1 bs1 cap1 W hA0 hB1

theorem holds : Rows.LeastTurnedSaid :=
  OpenClaim.holds_of_wide (p := Try.pinned) (s := Rows.leastTurnedSpec) (c := Rows.leastTurnedRow) 5 Try.f5 rfl rfl rfl rfl rfl rfl rfl ⟨rfl, rfl, rfl, rfl, rfl⟩ rfl rfl rfl rfl rfl (by kernel_rfl) Try.func5 (by kernel_rfl)
    (of_decide_eq_true (by kernel_rfl)) (by unfold Func.isWrapper; rw [if_neg (of_decide_eq_false (by kernel_rfl))]; exact ⟨rfl, rfl⟩)
    (fun os started H enc _ => lifted os started H enc)
end Go.Proofs.Ytfgbegnngpdnbaa.leastTurned
