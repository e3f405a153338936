/- The walk of VecCosts. By an AI agent. -/
import Derived.Test.YthadlpiioabajaaCostLaws
namespace Go.Proofs.Ythadlpiioabajaa
open Go.RowKit

theorem Fl.cost_1000 : Fl.cost 4652007308841189376 = 20 := by decide +kernel
theorem Fl.cost_0 : Fl.cost 0 = 65535 := by decide

theorem awake_any (w : World) : Calls Try.prog 9 #[] w fun e w' => e = .returned (.bool true) ∧ w = w' := by
  have h1 := cost_any 4652007308841189376 (by decide) w
  have h2 := cost_any 0 (by decide) w
  rw [Fl.cost_1000] at h1
  rw [Fl.cost_0] at h2
  have H1 := Lib.hid h1
  have H2 := Lib.hid h2
  clear h1 h2
  go_enter Try.func9, Try.ntmps9
  go_wp2_with fail
  refine H1.out.mono ?_
  rintro e w1 ⟨rfl, rfl⟩
  go_wp2_with fail
  refine H2.out.mono ?_
  rintro e w1 ⟨rfl, rfl⟩
  go_wp2_with fail
  go_ret
  exact ⟨rfl, rfl⟩

theorem cut_nan (x y t : Nat) : Fl.inf < Question.cut (.nanBits .f64 x y) t % 9223372036854775808 ∧ Question.cut (.nanBits .f64 x y) t < 18446744073709551616 := by
  have e : Question.cut (.nanBits .f64 x y) t = (t % 2) * 9223372036854775808 + 9218868437227405312 + 1 + (t / 2) % 4503599627370495 := rfl
  rw [e]
  unfold Fl.inf
  rcases Nat.mod_two_eq_zero_or_one t with h | h <;> rw [h] <;> omega

/-- an operation with no number: some NaN, off the tape -/
theorem run_nan (op : BinOp) (hop : op = .add ∨ op = .sub ∨ op = .mul ∨ op = .quo) (x y : Nat) (h : floatBits op .f64 x y = none) (w : World) : ∃ m, Fl.inf < m % 9223372036854775808 ∧ m < 18446744073709551616 ∧
    (binOp op 22 (.float .f64 x) (.float .f64 y)).run Try.prog w = .ok (.float .f64 m) w.drew := by
  have hc := cut_nan x y (w.tape w.drawn (.nanBits .f64 x y))
  refine ⟨_, hc.1, hc.2, ?_⟩
  unfold floatBits at h
  rcases hop with rfl | rfl | rfl | rfl
  all_goals
    simp only at h
    simp [binOp, Op.floatArith, h, choose, Sem.run, Question.forced]

theorem Fl.mul_nan (a : Nat) (h : Fl.inf < a % 9223372036854775808) : floatBits .mul .f64 4611686018427387904 a = none := by
  obtain ⟨s, t, e⟩ := Fl.read_nan a h
  show Ieee.double.mul 4611686018427387904 a = none
  unfold Ieee.Format.mul
  rw [Fl.read_two, e]
  rfl

set_option maxRecDepth 100000 in
set_option maxHeartbeats 4000000 in
theorem vecCosts_walk (a b : Nat) (wa : (Lit.float .f64 a).wf = true) (wb : (Lit.float .f64 b).wf = true) (w : World) :
    Calls Try.prog 3 #[.float .f64 a, .float .f64 b] w fun e w' => e = .returned (.bool true) ∧ Below w.heap.size w w' := by
  have ha : a < 18446744073709551616 := by simpa [Lit.wf] using wa
  have hb : b < 18446744073709551616 := by simpa [Lit.wf] using wb
  -- the double of a
  have hM : ∃ m w1, m < 18446744073709551616 ∧ (binOp .mul 22 (.float .f64 4611686018427387904) (.float .f64 a)).run Try.prog w = .ok (.float .f64 m) w1 ∧ Below w.heap.size w w1 ∧
      ((FloatKind.f64.format.order a 4607182418800017408 == some .gt) = true → (FloatKind.f64.format.order a 9094988921128908188 == some .gt) = false → 2 * Fl.cost m ≤ Fl.cost a + 2 ∧ Fl.cost a - 2 ≤ 2 * Fl.cost m) := by
    rcases Fl.nan_or_mul a with h | ⟨m, h, hm⟩
    · obtain ⟨m, _, hm, hrun⟩ := run_nan .mul (Or.inr (Or.inr (Or.inl rfl))) _ a (Fl.mul_nan a h) w
      refine ⟨m, w.drew, hm, hrun, ⟨rfl, rfl, rfl, Nat.le_refl _, fun _ _ => rfl⟩, fun h1 _ => ?_⟩
      rw [show FloatKind.f64.format = Ieee.double from rfl, Fl.order_nan a _ h] at h1
      cases h1
    · refine ⟨m, w, hm, run_float_arith w .mul 22 .f64 _ a m h, Below.refl _ _, fun h1 h2 => ?_⟩
      obtain ⟨k1, k2, k3⟩ := Fl.cost_twice a ha h1 h2
      rw [h] at k1
      obtain rfl := Option.some.inj k1
      omega
  obtain ⟨m, w1, hm, hrun, hbel, hq⟩ := hM
  have hxy := Fl.cost_anti a b ha hb
  rw [show Ieee.double = FloatKind.f64.format from rfl] at hxy
  have ca := cost_any a ha
  have cb := cost_any b hb
  have cm := cost_any m hm
  have ba := Fl.cost_bd a
  have bb := Fl.cost_bd b
  have bm := Fl.cost_bd m
  generalize Fl.cost a = x at *
  generalize Fl.cost b = y at *
  generalize Fl.cost m = z at *
  obtain ⟨ba1, ba2⟩ := ba
  obtain ⟨bb1, bb2⟩ := bb
  obtain ⟨bm1, bm2⟩ := bm
  have CA := Lib.hid ca
  have CB := Lib.hid cb
  have CM := Lib.hid cm
  have HRUN := Lib.hid hrun
  clear ca cb cm hrun wa wb ha hb hm
  have key1 : (FloatKind.f64.format.order a 0 == some .gt) = false ∨ (FloatKind.f64.format.order a 0 == some .gt) = true ∧ (FloatKind.f64.format.order b a == some .gt || FloatKind.f64.format.order b a == some .eq) = false ∨
      (FloatKind.f64.format.order a 0 == some .gt) = true ∧ (FloatKind.f64.format.order b a == some .gt || FloatKind.f64.format.order b a == some .eq) = true ∧ y ≤ x := by
    cases h1 : (FloatKind.f64.format.order a 0 == some .gt)
    · exact Or.inl rfl
    · cases h2 : (FloatKind.f64.format.order b a == some .gt || FloatKind.f64.format.order b a == some .eq)
      · exact Or.inr (Or.inl ⟨rfl, rfl⟩)
      · exact Or.inr (Or.inr ⟨rfl, rfl, hxy h1 h2⟩)
  have key2 : (FloatKind.f64.format.order a 4607182418800017408 == some .gt) = false ∨ (FloatKind.f64.format.order a 4607182418800017408 == some .gt) = true ∧ (FloatKind.f64.format.order a 9094988921128908188 == some .gt) = true ∨
      (FloatKind.f64.format.order a 4607182418800017408 == some .gt) = true ∧ (FloatKind.f64.format.order a 9094988921128908188 == some .gt) = false ∧ 2 * z ≤ x + 2 ∧ x - 2 ≤ 2 * z := by
    cases h1 : (FloatKind.f64.format.order a 4607182418800017408 == some .gt)
    · exact Or.inl rfl
    · cases h2 : (FloatKind.f64.format.order a 9094988921128908188 == some .gt)
      · exact Or.inr (Or.inr ⟨rfl, rfl, hq h1 h2⟩)
      · exact Or.inr (Or.inl ⟨rfl, rfl⟩)
  clear hxy hq
  rcases key1 with k1 | ⟨k1, k2⟩ | ⟨k1, k2, k3⟩ <;> rcases key2 with l1 | ⟨l1, l2⟩ | ⟨l1, l2, l3, l4⟩
  all_goals
    go_enter Try.func3, Try.ntmps3
    go_wp2_with fail
    refine (awake_any _).mono ?_
    rintro e w2 ⟨rfl, rfl⟩
    go_wp2_with fail
    refine (CA.out _).mono ?_
    rintro e w2 ⟨rfl, rfl⟩
    go_wp2_with fail
    refine (CB.out _).mono ?_
    rintro e w2 ⟨rfl, rfl⟩
    have hrun := HRUN.out
    go_wp2_with fail
    refine (CM.out _).mono ?_
    rintro e w2 ⟨rfl, rfl⟩
    clear hrun
    go_wp2_with fail
    go_ret
    exact ⟨rfl, hbel⟩
end Go.Proofs.Ythadlpiioabajaa
