/- VlanBoth: for every input the law returns true, and the input reads as it did. No condition. By an AI agent. -/
import Derived.Test.YtnglpoognlegfaaRows
import Derived.Test.YtnglpoognlegfaaKit
import Derived.Test.YtnglpoognlegfaaOpen
import Derived.Test.YtnglpoognlegfaaVlanBoth
import Derived.Test.YtnglpoognlegfaaOpenPort
namespace Go.Proofs.Ytnglpoognlegfaa.vlanBoth
open Go.ChangeShapes Go.WideShapes Go.ChangeAt Go.RowKit
open Go.ChangeMaps (open_string shut_string)
theorem own : ownKnob Try.prog.godebug = none := by kernel_rfl
theorem params : Try.f7.params = #[24, 24, 3] := by kernel_rfl
set_option maxRecDepth 100000 in
theorem lifted (os : Os) (started : os.Started) (H : Type) (enc : TypeId × Value → H) :
    ReturnsInHanded {} Try.checked os 7 .any (Rows.vlanBothSpec.pre6 enc Try.prog Try.f7 [] false) (Rows.vlanBothSpec.post enc Try.prog Try.f7 false true false false) := by
  refine Kit.lifted (C := Try.checked) (fn := Try.f7) (s := Rows.vlanBothSpec) (tb := 4) rfl (fun ds h => ?_) (by kernel_rfl) ?_ (by kernel_rfl) Try.underlying4 own started (by kernel_rfl) Try.func7
    (ChangeSpec.witness6 (enc := enc) (C := Try.checked) false ⟨#[], #[.agg #[.int .i64 0, .slice none 0 0], .agg #[.int .i64 0, .slice none 0 0], .int .i64 0], []⟩ 8 (by kernel_rfl) (by kernel_rfl) (by kernel_rfl) (by kernel_rfl)) ?_
  · rw [params] at h
    match ds, h with
    | [_, _, _], _ => rfl
  · rw [params]
    intro t ht
    simp only [List.mem_cons, List.not_mem_nil, or_false] at ht
    rcases ht with rfl | rfl | rfl
    · exact ⟨by kernel_rfl, of_decide_eq_true (by kernel_rfl)⟩
    · exact ⟨by kernel_rfl, of_decide_eq_true (by kernel_rfl)⟩
    · exact ⟨by kernel_rfl, of_decide_eq_true (by kernel_rfl)⟩
  · intro W base args ds ps hval hA hsz
    rw [params] at hA hval hsz
    obtain ⟨v0, vs0, d0, ds0, p0, q0, hargs, rfl, rfl, h0, r0⟩ := trodAll_cons hA
    obtain ⟨v1, vs1, d1, ds1, p1, q1, rfl, rfl, rfl, h1, r1⟩ := trodAll_cons r0
    obtain ⟨v2, vs2, d2, ds2, p2, q2, rfl, rfl, rfl, h2, r2⟩ := trodAll_cons r1
    obtain ⟨rfl, rfl, rfl⟩ := trodAll_nil r2
    obtain rfl : args = #[v0, v1, v2] := by cases args; simp_all
    obtain ⟨a0, b0, zs0, c0, rfl, hz0, hI0, hk0⟩ := open_port_cap (hval 0 24 v0 rfl rfl) h0
    obtain ⟨a1, b1, zs1, c1, rfl, hz1, hI1, hk1⟩ := open_port_cap (hval 1 24 v1 rfl rfl) h1
    obtain ⟨a2, rfl, rfl, rfl, wa2⟩ := open_int Try.underlying3 (hval 2 3 v2 rfl rfl) h2
    exact vlanBoth_walk a0 b0 zs0 c0 a1 b1 zs1 c1 a2 wa2 W hI0 hz0 hk0 hI1 hz1 hk1

theorem holds : Rows.VlanBothSaid :=
  OpenClaim.holds_of_wide (p := Try.pinned) (s := Rows.vlanBothSpec) (c := Rows.vlanBothRow) 7 Try.f7 rfl rfl rfl rfl rfl rfl rfl ⟨rfl, rfl, rfl, rfl, rfl⟩ rfl rfl rfl rfl rfl (by kernel_rfl) Try.func7 (by kernel_rfl)
    (of_decide_eq_true (by kernel_rfl)) (by unfold Func.isWrapper; rw [if_neg (of_decide_eq_false (by kernel_rfl))]; exact ⟨rfl, rfl⟩)
    (fun os started H enc _ => lifted os started H enc)
end Go.Proofs.Ytnglpoognlegfaa.vlanBoth
