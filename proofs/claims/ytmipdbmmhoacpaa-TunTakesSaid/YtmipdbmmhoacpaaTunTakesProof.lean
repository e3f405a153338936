/- TunTakes: for every input the law returns true, and the input reads as it did. No condition. By an AI agent. -/
import Derived.Test.YtmipdbmmhoacpaaRows
import Derived.Test.YtmipdbmmhoacpaaKit
import Derived.Test.YtmipdbmmhoacpaaOpen
import Derived.Test.YtmipdbmmhoacpaaTt5
import Derived.Test.YtmipdbmmhoacpaaOpenOnes
namespace Go.Proofs.Ytmipdbmmhoacpaa.tunTakes
open Go.ChangeShapes Go.WideShapes Go.ChangeAt Go.RowKit
open Go.ChangeMaps (open_string shut_string)
theorem own : ownKnob Try.prog.godebug = none := by kernel_rfl
theorem params : Try.f8.params = #[38] := by kernel_rfl
set_option maxRecDepth 100000 in
theorem lifted (os : Os) (started : os.Started) (H : Type) (enc : TypeId × Value → H) :
    ReturnsInHanded {} Try.checked os 8 .any (Rows.tunTakesSpec.pre6 enc Try.prog Try.f8 [] false) (Rows.tunTakesSpec.post enc Try.prog Try.f8 false true false false) := by
  refine Kit.lifted (C := Try.checked) (fn := Try.f8) (s := Rows.tunTakesSpec) (tb := 4) rfl (fun ds h => ?_) (by kernel_rfl) ?_ (by kernel_rfl) Try.underlying4 own started (by kernel_rfl) Try.func8
    (ChangeSpec.witness6 (enc := enc) (C := Try.checked) false ⟨#[], #[.slice none 0 0], []⟩ 8 (by kernel_rfl) (by kernel_rfl) (by kernel_rfl) (by kernel_rfl)) ?_
  · rw [params] at h
    match ds, h with
    | [_], _ => rfl
  · rw [params]
    intro t ht
    simp only [List.mem_cons, List.not_mem_nil, or_false] at ht
    subst ht
    exact ⟨by kernel_rfl, of_decide_eq_true (by kernel_rfl)⟩
  · intro W base args ds ps hval hA hsz
    rw [params] at hA hval hsz
    obtain ⟨v0, vs0, d0, ds0, p0, q0, hargs, rfl, rfl, h0, r0⟩ := trodAll_cons hA
    obtain ⟨rfl, rfl, rfl⟩ := trodAll_nil r0
    obtain rfl : args = #[v0] := by cases args; simp_all
    obtain ⟨ao0, ss0, cap0, rfl, hl0, hA0, hB0⟩ := open_strs (hval 0 38 v0 rfl rfl) h0
    exact tunTakes_walk ao0 ss0 cap0 W hl0 hA0 hB0

theorem holds : Rows.TunTakesSaid :=
  OpenClaim.holds_of_wide (p := Try.pinned) (s := Rows.tunTakesSpec) (c := Rows.tunTakesRow) 8 Try.f8 rfl rfl rfl rfl rfl rfl rfl ⟨rfl, rfl, rfl, rfl, rfl⟩ rfl rfl rfl rfl rfl (by kernel_rfl) Try.func8 (by kernel_rfl)
    (of_decide_eq_true (by kernel_rfl)) (by unfold Func.isWrapper; rw [if_neg (of_decide_eq_false (by kernel_rfl))]; exact ⟨rfl, rfl⟩)
    (fun os started H enc _ => lifted os started H enc)
end Go.Proofs.Ytmipdbmmhoacpaa.tunTakes
