/- The walk of VecEdges. By an AI agent. -/
import Derived.Test.YthadlpiioabajaaVecCosts
namespace Go.Proofs.Ythadlpiioabajaa
open Go.RowKit

namespace Fl
open Ieee
theorem negW_pos (r : Nat) (h : r < 9223372036854775808) : Op.negFloat .f64 r = 9223372036854775808 + r := by
  have e : Op.negFloat .f64 r = r ^^^ 2 ^ 63 := rfl
  rw [e]
  have := Nat.two_pow_add_eq_or_of_lt (i := 63) (b := r) (by simpa using h) 1
  have h2 : r ^^^ 2 ^ 63 = 2 ^ 63 * 1 ||| r := by
    apply Nat.eq_of_testBit_eq
    intro i
    rw [Nat.testBit_xor, Nat.testBit_or, Nat.mul_one, Nat.testBit_two_pow]
    by_cases h63 : 63 = i
    · subst h63
      rw [Nat.testBit_lt_two_pow (show r < 2 ^ 63 by simpa using h)]
      simp
    · simp [h63]
  rw [h2, ← this]

theorem cost_neg (r : Nat) : cost (9223372036854775808 + r) = 65535 := by
  unfold cost
  rw [if_pos (Or.inr (Or.inl (by omega)))]
theorem cost_nan (m : Nat) (h : inf < m % 9223372036854775808) : cost m = 65535 := by
  unfold cost
  rw [if_pos (Or.inl h)]

/-- a finite number less itself is 0 -/
theorem sub_self (a : Nat) (h : a % 9223372036854775808 < inf) : double.sub a a = some 0 := by
  unfold Format.sub
  obtain ⟨s, m, i, e⟩ : ∃ s m i, double.read a = .number s m i := by
    unfold Format.read
    simp only [double_weight, double_binade, double_inf, double_least]
    split
    · exact ⟨_, _, _, rfl⟩
    · exact ⟨_, _, _, rfl⟩
  rw [e]
  simp only [Datum.opposite, Datum.sum, Int.min_self, Int.sub_self, Int.toNat_zero]
  have hz : signed s m 0 + signed (!s) m 0 = 0 := by cases s <;> simp [signed] <;> omega
  rw [hz]
  cases s <;> rfl

/-- of an infinity, or of none: no number -/
theorem sub_none (a : Nat) (h : inf ≤ a % 9223372036854775808) (ha : a < 18446744073709551616) : floatBits .sub .f64 a a = none := by
  show double.sub a a = none
  unfold Format.sub
  rcases Nat.lt_or_eq_of_le h with h | h
  · obtain ⟨s, t, e⟩ := read_nan a h
    rw [e]
    rfl
  · rcases Nat.lt_or_ge a 9223372036854775808 with d | d
    · have : a = inf := by omega
      rw [this, read_inf]
      rfl
    · have : a = 9223372036854775808 + inf := by omega
      rw [this, read_ninf]
      rfl

theorem inf_sub : floatBits .sub .f64 inf inf = none := sub_none inf (by decide) (by decide)
theorem big_mul : floatBits .mul .f64 9214871658872686752 4621819117588971520 = some inf := by decide +kernel
theorem inf_quo : floatBits .quo .f64 4607182418800017408 inf = some 0 := by decide +kernel

def one (n : Nat) : Option Nat := double.add 4607182418800017408 (floatOfInt .f64 (n : Int))
theorem one_all : ∀ n : Nat, n < 256 → ((one n).bind fun y => double.mul inf y) = some inf := by decide +kernel
theorem one_some (n : Nat) (h : n < 256) : ∃ y, floatBits .add .f64 4607182418800017408 (floatOfInt .f64 (n : Int)) = some y ∧ floatBits .mul .f64 inf y = some inf := by
  obtain ⟨y, h1, h2⟩ := Option.bind_eq_some_iff.1 (one_all n h)
  exact ⟨y, h1, h2⟩
end Fl

set_option maxRecDepth 100000 in
set_option maxHeartbeats 4000000 in
theorem vecEdges_odd (a : Nat) (n : Int) (ha : a < 18446744073709551616) (hi : Fl.inf ≤ a % 9223372036854775808) (w : World) :
    Calls Try.prog 4 #[.float .f64 a, .int .u8 n] w fun e w' => e = .returned (.bool true) ∧ Below w.heap.size w w' := by
  obtain ⟨m, hm, _, hrun⟩ := run_nan .sub (Or.inr (Or.inl rfl)) a a (Fl.sub_none a hi ha) w
  have hbel : Below w.heap.size w w.drew := ⟨rfl, rfl, rfl, Nat.le_refl _, fun _ _ => rfl⟩
  have hne : (FloatKind.f64.format.order m m != some .eq) = true := by
    rw [show FloatKind.f64.format = Ieee.double from rfl, Fl.order_nan m m hm]; rfl
  have ca := cost_any a ha
  have key : (FloatKind.f64.format.order a 0 == some .gt) = true ∧ Fl.cost a = 1 ∨ (FloatKind.f64.format.order a 0 == some .gt) = false ∧ Fl.cost a = 65535 := by
    cases h : (FloatKind.f64.format.order a 0 == some .gt)
    · right
      refine ⟨rfl, ?_⟩
      rcases Nat.lt_or_eq_of_le hi with h2 | h2
      · exact Fl.cost_nan a h2
      · rcases Nat.lt_or_ge a 9223372036854775808 with d | d
        · have : a = Fl.inf := by omega
          rw [this] at h
          have : (Ieee.double.order Fl.inf 0 == some .gt) = true := by decide +kernel
          rw [show FloatKind.f64.format = Ieee.double from rfl, this] at h
          cases h
        · obtain ⟨r, rfl⟩ : ∃ r, a = 9223372036854775808 + r := ⟨a - 9223372036854775808, by omega⟩
          exact Fl.cost_neg r
    · left
      refine ⟨rfl, ?_⟩
      obtain ⟨h0, hle⟩ := Fl.above_zero a ha h
      have : a = Fl.inf := by unfold Fl.inf at *; omega
      rw [this]
      exact Fl.cost_inf
  generalize Fl.cost a = x at *
  have CA := Lib.hid ca
  have HRUN := Lib.hid hrun
  clear ca hrun hm ha hi
  rcases key with ⟨k1, rfl⟩ | ⟨k1, rfl⟩
  all_goals
    go_enter Try.func4, Try.ntmps4
    go_wp2_with fail
    refine (awake_any _).mono ?_
    rintro e w2 ⟨rfl, rfl⟩
    have hrun := HRUN.out
    go_wp2_with fail
    refine (CA.out _).mono ?_
    rintro e w2 ⟨rfl, rfl⟩
    clear hrun
    go_wp2_with fail
    go_ret
    exact ⟨rfl, hbel⟩

set_option maxRecDepth 100000 in
set_option maxHeartbeats 4000000 in
theorem vecEdges_even (a : Nat) (n : Nat) (hn : n < 256) (ha : a < 18446744073709551616) (hi : a % 9223372036854775808 < Fl.inf) (w : World) :
    Calls Try.prog 4 #[.float .f64 a, .int .u8 (n : Int)] w fun e w' => e = .returned (.bool true) ∧ Below w.heap.size w w' := by
  obtain ⟨m, hm, hm2, hrun⟩ := run_nan .sub (Or.inr (Or.inl rfl)) Fl.inf Fl.inf Fl.inf_sub w
  have hbel : Below w.heap.size w w.drew := ⟨rfl, rfl, rfl, Nat.le_refl _, fun _ _ => rfl⟩
  obtain ⟨y, hy1, hy2⟩ := Fl.one_some n hn
  have s0 := fun w => run_float_arith (P := Try.prog) w .sub 22 .f64 a a 0 (Fl.sub_self a hi)
  have s1 := fun w => run_float_arith (P := Try.prog) w .mul 22 .f64 _ _ _ Fl.big_mul
  have s2 := fun w => run_float_arith (P := Try.prog) w .add 22 .f64 _ _ _ hy1
  have s3 := fun w => run_float_arith (P := Try.prog) w .mul 22 .f64 _ _ _ hy2
  have s4 := fun w => run_float_arith (P := Try.prog) w .quo 22 .f64 _ _ _ Fl.inf_quo
  have un : ∀ (b : Nat) (w : World), (Op.unary UnOp.neg (.float .f64 b)).run Try.prog w = .ok (.float .f64 (Op.negFloat .f64 b)) w := fun _ _ => rfl
  have z1 : (FloatKind.f64.format.order 0 0 != some .eq) = false := by decide +kernel
  have c0 := cost_any 0 (by decide)
  have c1 := cost_any m hm2
  have c2 := cost_any Fl.inf (by decide)
  have c3 := cost_any (Op.negFloat .f64 Fl.inf) (by decide +kernel)
  have c4 := cost_any (Op.negFloat .f64 0) (by decide +kernel)
  have c5 := cost_any a ha
  rw [Fl.cost_0] at c0
  rw [Fl.cost_nan m hm] at c1
  rw [Fl.cost_inf] at c2
  rw [show Fl.cost (Op.negFloat .f64 Fl.inf) = 65535 by rw [Fl.negW_pos _ (by decide), Fl.cost_neg]] at c3
  rw [show Fl.cost (Op.negFloat .f64 0) = 65535 by rw [Fl.negW_pos _ (by decide), Fl.cost_neg]] at c4
  have key : (FloatKind.f64.format.order a 0 == some .lt || FloatKind.f64.format.order a 0 == some .eq) = true ∧ (∀ w, Calls Try.prog 10 #[.float .f64 a] w fun e w' => e = .returned (.int .i64 65535) ∧ w = w') ∨
      (FloatKind.f64.format.order a 0 == some .lt || FloatKind.f64.format.order a 0 == some .eq) = false ∧ (∀ w, Calls Try.prog 10 #[.float .f64 (Op.negFloat .f64 a)] w fun e w' => e = .returned (.int .i64 65535) ∧ w = w') := by
    rw [show FloatKind.f64.format = Ieee.double from rfl]
    rcases Nat.lt_or_ge a 9223372036854775808 with d | d
    · have e : a % 9223372036854775808 = a := by omega
      rw [e] at hi
      by_cases h0 : a = 0
      · left
        subst h0
        rw [Fl.cost_0] at c5
        exact ⟨by decide +kernel, c5⟩
      · right
        rw [Fl.order_pos a 0 hi (by decide), Nat.compare_eq_gt.2 (by omega)]
        refine ⟨rfl, fun w => ?_⟩
        have h := cost_any (9223372036854775808 + a) (by omega) w
        rw [Fl.cost_neg] at h
        rw [Fl.negW_pos a d]
        exact h
    · left
      obtain ⟨r, rfl⟩ : ∃ r, a = 9223372036854775808 + r := ⟨a - 9223372036854775808, by omega⟩
      have e : (9223372036854775808 + r) % 9223372036854775808 = r := by omega
      rw [e] at hi
      rw [Fl.cost_neg] at c5
      refine ⟨?_, c5⟩
      rw [Fl.order_neg_zero r hi]
      by_cases h0 : r = 0 <;> simp [h0]
  generalize Fl.inf = I at *
  have C0 := Lib.hid c0
  have C1 := Lib.hid c1
  have C2 := Lib.hid c2
  have C3 := Lib.hid c3
  have C4 := Lib.hid c4
  have HRUN := Lib.hid hrun
  clear c0 c1 c2 c3 c4 c5 hrun hm ha hi hm2 hy1 hy2
  rcases key with ⟨k1, K⟩ | ⟨k1, K⟩
  all_goals
    have K := Lib.hid K
    go_enter Try.func4, Try.ntmps4
    go_wp2_with fail
    refine (awake_any _).mono ?_
    rintro e w2 ⟨rfl, rfl⟩
    have hrun := HRUN.out
    go_wp2_with fail
    clear hrun
    refine (C1.out _).mono ?_
    rintro e w2 ⟨rfl, rfl⟩
    go_wp2_with fail
    refine (C2.out _).mono ?_
    rintro e w2 ⟨rfl, rfl⟩
    go_wp2_with fail
    refine (C3.out _).mono ?_
    rintro e w2 ⟨rfl, rfl⟩
    go_wp2_with fail
    refine (C0.out _).mono ?_
    rintro e w2 ⟨rfl, rfl⟩
    go_wp2_with fail
    refine (C4.out _).mono ?_
    rintro e w2 ⟨rfl, rfl⟩
    go_wp2_with fail
    refine (C0.out _).mono ?_
    rintro e w2 ⟨rfl, rfl⟩
    go_wp2_with fail
    refine (K.out _).mono ?_
    rintro e w2 ⟨rfl, rfl⟩
    go_wp2_with fail
    go_ret
    exact ⟨rfl, hbel⟩

theorem vecEdges_walk (a : Nat) (n : Int) (wn : (Lit.int .u8 n).wf = true) (wa : (Lit.float .f64 a).wf = true) (w : World) :
    Calls Try.prog 4 #[.float .f64 a, .int .u8 n] w fun e w' => e = .returned (.bool true) ∧ Below w.heap.size w w' := by
  have ha : a < 18446744073709551616 := by simpa [Lit.wf] using wa
  rcases Nat.lt_or_ge (a % 9223372036854775808) Fl.inf with h | h
  · have hn : 0 ≤ n ∧ n ≤ 255 := by
      simp [Lit.wf, IntKind.min, IntKind.max, IntKind.signed, IntKind.bits] at wn
      exact wn
    obtain ⟨k, rfl⟩ := Int.eq_ofNat_of_zero_le hn.1
    exact vecEdges_even a k (by omega) ha h w
  · exact vecEdges_odd a n ha h w
end Go.Proofs.Ythadlpiioabajaa
