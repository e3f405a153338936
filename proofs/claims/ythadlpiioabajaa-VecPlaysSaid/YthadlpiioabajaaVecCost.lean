/- vec.Cost. By an AI agent. -/
import Derived.Test.YthadlpiioabajaaFloatCost
namespace Go.Proofs.Ythadlpiioabajaa
open Go.RowKit

theorem isNaN_any (b : Nat) (w : World) : Calls Try.prog 17 #[.float .f64 b] w fun e w' => e = .returned (.bool (FloatKind.f64.format.order b b != some .eq)) ∧ w = w' := by
  go_enter Try.func17, Try.ntmps17
  go_wp2_with fail
  go_ret
  exact ⟨rfl, rfl⟩

theorem isInf_any (b : Nat) (w : World) : Calls Try.prog 19 #[.float .f64 b, .int .i64 1] w fun e w' => e = .returned (.bool (FloatKind.f64.format.order b 9218868437227405311 == some .gt)) ∧ w = w' := by
  go_enter Try.func19, Try.ntmps19
  go_wp2_with fail
  go_ret
  exact ⟨rfl, rfl⟩

namespace Fl
open Ieee
/-- the quotient of 20000 by a rung above 0 -/
def qr (a : Nat) : Nat := qrung (mg a) (-1074 + (pl a : Int))

/-- the cost of a double -/
def cost (a : Nat) : Int := if inf < a % 9223372036854775808 ∨ 9223372036854775808 ≤ a ∨ a = 0 then 65535 else if a = inf then 1 else (costR (qr a) : Nat)

theorem cost_bd (a : Nat) : 1 ≤ cost a ∧ cost a ≤ 65535 := by
  unfold cost
  have := costR_bd (qr a)
  split
  · omega
  · split <;> omega

theorem order_self (a : Nat) (h : a % 9223372036854775808 ≤ inf) : double.order a a = some .eq := by
  unfold Format.order
  have : ∀ s t, double.read a ≠ .nan s t := by
    intro s t e
    unfold Format.read at e
    simp only [double_weight, double_binade, double_inf, double_least] at e
    split at e
    · cases e
    · split at e
      · cases e
      · split at e
        · cases e
        · unfold inf at *; omega
  cases hr : double.read a with
  | nan s t => exact absurd hr (this s t)
  | infinity s => simp [Datum.order]
  | number s m i => simp [Datum.order]

theorem order_nan (a b : Nat) (h : inf < a % 9223372036854775808) : double.order a b = none := by
  obtain ⟨s, t, e⟩ := read_nan a h
  unfold Format.order
  rw [e]
  rfl

theorem pl_le (a : Nat) (h : a < inf) : pl a ≤ 2045 := by unfold pl inf at *; omega

theorem mg_log (a : Nat) (h : a < inf) : (-1074 + (pl a : Int)) + ((mg a).log2 : Int) ≤ 1023 := by
  have h1 := mg_lt a
  have h2 := pl_le a h
  have : (mg a).log2 ≤ 52 := by
    rcases Nat.eq_zero_or_pos (mg a) with h0 | h0
    · rw [h0]; simp
    · have := (Nat.log2_lt (n := mg a) (k := 53) (by omega)).2 (by simpa using h1)
      omega
  omega

theorem qr_div (a : Nat) (h0 : 0 < a) (h : a < inf) : double.div 4671226772094713856 a = some (qr a) :=
  div_unit a (mg a) _ (read_pos a h) (Nat.pos_of_ne_zero fun e => by have := mg_zero e; omega) (mg_log a h)

theorem qr_le (a : Nat) : qr a ≤ inf := by unfold qr qrung rung; exact Nat.min_le_right _ _

theorem rnd_le (q : Nat) (h : q ≤ inf) : rnd q ≤ inf := by
  have := rnd_mono h
  have e : rnd inf = inf := by unfold rnd inf; rfl
  rw [e] at this
  exact this

theorem div_inf : double.div 4671226772094713856 inf = some 0 := by decide +kernel
end Fl

/-- 20000 by a number above 0 -/
theorem run_quo (a : Nat) (h0 : 0 < a) (h : a < Fl.inf) (w : World) : (binOp .quo 22 (.float .f64 4671226772094713856) (.float .f64 a)).run Try.prog w = .ok (.float .f64 (Fl.qr a)) w :=
  run_float_arith w .quo 22 .f64 4671226772094713856 a (Fl.qr a) (Fl.qr_div a h0 h)

set_option maxRecDepth 100000 in
theorem cost_odd (a : Nat) (w : World) (h : (FloatKind.f64.format.order a a != some .eq) = true ∨ (FloatKind.f64.format.order a a != some .eq) = false ∧ (FloatKind.f64.format.order a 0 == some .lt || FloatKind.f64.format.order a 0 == some .eq) = true) :
    Calls Try.prog 10 #[.float .f64 a] w fun e w' => e = .returned (.int .i64 65535) ∧ w = w' := by
  rcases h with h | ⟨h, h2⟩
  · go_enter Try.func10, Try.ntmps10
    go_wp2_with fail
    refine (isNaN_any _ _).mono ?_
    rintro e w1 ⟨rfl, rfl⟩
    rw [h]
    clear h
    go_wp2_with fail
    go_ret
    exact ⟨rfl, rfl⟩
  · go_enter Try.func10, Try.ntmps10
    go_wp2_with fail
    refine (isNaN_any _ _).mono ?_
    rintro e w1 ⟨rfl, rfl⟩
    rw [h]
    clear h
    go_wp2_with fail
    go_ret
    exact ⟨rfl, rfl⟩

set_option maxRecDepth 100000 in
theorem cost_even (a q : Nat) (w : World) (h : (FloatKind.f64.format.order a a != some .eq) = false) (h2 : (FloatKind.f64.format.order a 0 == some .lt || FloatKind.f64.format.order a 0 == some .eq) = false)
    (hq : ∀ w, (binOp .quo 22 (.float .f64 4671226772094713856) (.float .f64 a)).run Try.prog w = .ok (.float .f64 q) w) (hqi : q ≤ Fl.inf) :
    Calls Try.prog 10 #[.float .f64 a] w fun e w' => e = .returned (.int .i64 (Fl.costR q : Nat)) ∧ w = w' := by
  have HR := fun w => round_any q w hqi
  have hx : (FloatKind.f64.format.order (Fl.rnd q) 9218868437227405311 == some .gt) = true ∧ Fl.costR q = 65535 ∨ (FloatKind.f64.format.order (Fl.rnd q) 9218868437227405311 == some .gt) = false ∧ (FloatKind.f64.format.order (Fl.rnd q) 4679239875398991872 == some .gt) = true ∧ Fl.costR q = 65535 ∨
      (FloatKind.f64.format.order (Fl.rnd q) 9218868437227405311 == some .gt) = false ∧ (FloatKind.f64.format.order (Fl.rnd q) 4679239875398991872 == some .gt) = false ∧ Fl.rnd q ≤ 4679239875398991872 ∧ Fl.costR q = max (Fl.iv (Fl.rnd q)) 1 := by
    have hl := Fl.rnd_le q hqi
    unfold Fl.costR
    generalize Fl.rnd q = x at hl
    rw [show FloatKind.f64.format = Ieee.double from rfl]
    rcases Nat.lt_or_eq_of_le hl with hlt | rfl
    · rw [Fl.order_pos x _ hlt (by decide), Fl.order_pos x _ hlt (by decide)]
      have h1 : compare x 9218868437227405311 ≠ .gt := by rw [Ne, Nat.compare_eq_gt]; unfold Fl.inf at hlt; omega
      by_cases hc : 4679239875398991872 < x
      · rw [if_pos hc, Nat.compare_eq_gt.2 hc]
        exact Or.inr (Or.inl ⟨by simpa using h1, rfl, rfl⟩)
      · rw [if_neg hc]
        have h2 : compare x 4679239875398991872 ≠ .gt := by rw [Ne, Nat.compare_eq_gt]; omega
        exact Or.inr (Or.inr ⟨by simpa using h1, by simpa using h2, by omega, rfl⟩)
    · exact Or.inl ⟨by decide +kernel, by rw [if_pos (by decide)]⟩
  have HR := Lib.hid HR
  rcases hx with ⟨x1, x2⟩ | ⟨x1, x2, x3⟩ | ⟨x1, x2, x3, x4⟩
  · rw [x2]
    clear x2
    go_enter Try.func10, Try.ntmps10
    go_wp2_with fail
    refine (isNaN_any _ _).mono ?_
    rintro e w1 ⟨rfl, rfl⟩
    rw [h]
    go_wp2_with fail
    refine (HR.out _).mono ?_
    rintro e w1 ⟨rfl, rfl⟩
    go_wp2_with fail
    refine (isInf_any _ _).mono ?_
    rintro e w1 ⟨rfl, rfl⟩
    rw [x1]
    go_wp2_with fail
    go_ret
    exact ⟨rfl, rfl⟩
  · rw [x3]
    clear x3
    go_enter Try.func10, Try.ntmps10
    go_wp2_with fail
    refine (isNaN_any _ _).mono ?_
    rintro e w1 ⟨rfl, rfl⟩
    rw [h]
    go_wp2_with fail
    refine (HR.out _).mono ?_
    rintro e w1 ⟨rfl, rfl⟩
    go_wp2_with fail
    refine (isInf_any _ _).mono ?_
    rintro e w1 ⟨rfl, rfl⟩
    rw [x1]
    go_wp2_with fail
    go_ret
    exact ⟨rfl, rfl⟩
  · rw [x4]
    have hc := fun w => run_convert_float_int (P := Try.prog) w 22 3 .f64 .i64 (Fl.rnd q) _ (by kernel_rfl) Try.underlying3 (Fl.toInt_eq _ x3)
    have hle := Fl.iv_le _ x3
    generalize Fl.rnd q = x at *
    generalize Fl.iv x = n at *
    clear x3 x4
    go_enter Try.func10, Try.ntmps10
    go_wp2_with fail
    refine (isNaN_any _ _).mono ?_
    rintro e w1 ⟨rfl, rfl⟩
    rw [h]
    go_wp2_with fail
    refine (HR.out _).mono ?_
    rintro e w1 ⟨rfl, rfl⟩
    go_wp2_with fail
    refine (isInf_any _ _).mono ?_
    rintro e w1 ⟨rfl, rfl⟩
    rw [x1]
    go_wp2_with fail
    all_goals
      go_ret
      exact ⟨ret_int (by omega), rfl⟩

/-- vec.Cost of any double -/
theorem cost_any (a : Nat) (ha : a < 18446744073709551616) (w : World) : Calls Try.prog 10 #[.float .f64 a] w fun e w' => e = .returned (.int .i64 (Fl.cost a)) ∧ w = w' := by
  rw [show Fl.cost a = if Fl.inf < a % 9223372036854775808 ∨ 9223372036854775808 ≤ a ∨ a = 0 then 65535 else if a = Fl.inf then 1 else ((Fl.costR (Fl.qr a) : Nat) : Int) from rfl]
  have hf : FloatKind.f64.format = Ieee.double := rfl
  by_cases h1 : Fl.inf < a % 9223372036854775808
  · rw [if_pos (Or.inl h1)]
    refine cost_odd a w (Or.inl ?_)
    rw [hf, Fl.order_nan a a h1]
    rfl
  · have hself := Fl.order_self a (by omega)
    have hn : (FloatKind.f64.format.order a a != some .eq) = false := by rw [hf, hself]; rfl
    by_cases h2 : 9223372036854775808 ≤ a
    · rw [if_pos (Or.inr (Or.inl h2))]
      refine cost_odd a w (Or.inr ⟨hn, ?_⟩)
      obtain ⟨r, rfl⟩ : ∃ r, a = 9223372036854775808 + r := ⟨a - 9223372036854775808, by omega⟩
      have e : (9223372036854775808 + r) % 9223372036854775808 = r := by omega
      rw [e] at h1
      rw [hf]
      rcases Nat.lt_or_eq_of_le (show r ≤ Fl.inf by omega) with hlt | rfl
      · rw [Fl.order_neg_zero r hlt]
        by_cases h0 : r = 0 <;> simp [h0]
      · decide +kernel
    · by_cases h3 : a = 0
      · subst h3
        rw [if_pos (Or.inr (Or.inr rfl))]
        exact cost_odd 0 w (Or.inr ⟨hn, by decide +kernel⟩)
      · rw [if_neg (by omega)]
        have e : a % 9223372036854775808 = a := by omega
        rw [e] at h1
        by_cases h4 : a = Fl.inf
        · subst h4
          rw [if_pos rfl]
          have h := cost_even Fl.inf 0 w hn (by decide +kernel) (fun w => run_float_arith w .quo 22 .f64 4671226772094713856 Fl.inf 0 Fl.div_inf) (by decide)
          rw [Fl.costR_small 0 (by decide)] at h
          exact h
        · rw [if_neg h4]
          have hlt : a < Fl.inf := by omega
          refine cost_even a (Fl.qr a) w hn ?_ (run_quo a (by omega) hlt) (Fl.qr_le a)
          rw [hf, Fl.order_pos a 0 hlt (by decide), Nat.compare_eq_gt.2 (by omega)]
          rfl
end Go.Proofs.Ythadlpiioabajaa
