/- What the law of costs leans on: plain laws of doubles. By an AI agent. -/
import Derived.Test.YthadlpiioabajaaVecCost
namespace Go.Proofs.Ythadlpiioabajaa.Fl
open Ieee Go

theorem read_sub (a : Nat) (h0 : 0 < a) (h : a < 4503599627370496) : qr a = inf := by
  have hm : mg a = a := by unfold mg; rw [if_pos h]
  have hp : pl a = 0 := by unfold pl; omega
  unfold qr qrung rung
  rw [hm, hp]
  have hl := quo_log a h0
  have h2 : a.log2 < 52 := (Nat.log2_lt (by omega)).2 (by simpa using h)
  apply Nat.min_eq_right
  unfold inf
  have : 2058 ≤ ((quo a).log2 - 41 - (-1074 + ((0 : Nat) : Int)) - a.log2 + 1022 : Int).toNat := by omega
  have := Nat.mul_le_mul_right 4503599627370496 this
  omega

theorem qr_anti {a b : Nat} (h0 : 0 < a) (h : a ≤ b) (hb : b < inf) : qr b ≤ qr a := by
  rcases Nat.lt_or_ge a 4503599627370496 with c | c
  · rw [read_sub a h0 c]; exact qr_le b
  · have ha : a < inf := by omega
    refine qrung_anti (mg a) (mg b) _ _ (mg_ge a c) (mg_lt a) (mg_ge b (by omega)) (mg_lt b) (by have := pl_le a ha; omega) (by have := pl_le b hb; omega) ?_
    rcases Nat.lt_or_ge (pl a) (pl b) with h1 | h1
    · left; omega
    · right
      have hp : pl a = pl b := by unfold pl at *; omega
      refine ⟨by rw [hp], ?_⟩
      unfold pl at hp
      unfold mg
      rw [if_neg (by omega), if_neg (by omega)]
      omega

/-- a word below 0 is less than one above 0 -/
theorem order_neg_pos (r a : Nat) (hr : r ≤ inf) (h0 : 0 < a) (ha : a ≤ inf) : double.order (9223372036854775808 + r) a = some .lt := by
  have hmg : 0 < mg a := Nat.pos_of_ne_zero fun e => by have := mg_zero e; omega
  unfold Format.order
  rcases Nat.lt_or_eq_of_le hr with hlt | rfl
  · have hn := read_neg true r hlt
    have e : double.word true r = 9223372036854775808 + r := by unfold Format.word; rw [double_weight]; rfl
    rw [e] at hn
    rw [hn]
    rcases Nat.lt_or_eq_of_le ha with hla | rfl
    · rw [read_pos a hla]
      simp only [Datum.order, signed, if_true, Bool.false_eq_true, if_false]
      congr 1
      rw [Int.compare_eq_lt]
      have : 0 < mg a <<< (-1074 + (pl a : Int) - min (-1074 + (pl r : Int)) (-1074 + (pl a : Int))).toNat := by
        rw [Nat.shiftLeft_eq]; exact Nat.mul_pos hmg (Nat.two_pow_pos _)
      generalize mg a <<< _ = y at this ⊢
      generalize mg r <<< _ = z
      omega
    · rw [read_inf]
      rfl
  · rw [read_ninf]
    rcases Nat.lt_or_eq_of_le ha with hla | rfl
    · rw [read_pos a hla]; rfl
    · rw [read_inf]; rfl

/-- above 0 -/
theorem above_zero (a : Nat) (ha : a < 18446744073709551616) (h : (double.order a 0 == some .gt) = true) : 0 < a ∧ a ≤ inf := by
  rcases Nat.lt_or_ge inf (a % 9223372036854775808) with c | c
  · rw [order_nan a 0 c] at h; cases h
  · rcases Nat.lt_or_ge a 9223372036854775808 with d | d
    · have e : a % 9223372036854775808 = a := by omega
      rw [e] at c
      refine ⟨Nat.pos_of_ne_zero fun e => ?_, c⟩
      subst e
      have : (double.order 0 0 == some .gt) = false := by decide +kernel
      rw [this] at h
      cases h
    · obtain ⟨r, rfl⟩ : ∃ r, a = 9223372036854775808 + r := ⟨a - 9223372036854775808, by omega⟩
      have e : (9223372036854775808 + r) % 9223372036854775808 = r := by omega
      rw [e] at c
      rcases Nat.lt_or_eq_of_le c with hlt | rfl
      · rw [order_neg_zero r hlt] at h
        by_cases h0 : r = 0 <;> simp [h0] at h
      · have : (double.order (9223372036854775808 + inf) 0 == some .gt) = false := by decide +kernel
        rw [this] at h
        cases h

theorem cost_pos (a : Nat) (h0 : 0 < a) (h : a < inf) : cost a = (costR (qr a) : Nat) := by
  unfold cost
  have e : a % 9223372036854775808 = a := by unfold inf at h; omega
  rw [e, if_neg (by unfold inf at *; omega), if_neg (by omega)]

theorem cost_inf : cost inf = 1 := by decide

/-- a faster link costs no more -/
theorem cost_anti (a b : Nat) (ha : a < 18446744073709551616) (hb : b < 18446744073709551616) (h1 : (double.order a 0 == some .gt) = true) (h2 : (double.order b a == some .gt || double.order b a == some .eq) = true) : cost b ≤ cost a := by
  obtain ⟨h0, hi⟩ := above_zero a ha h1
  have bd := cost_bd a
  rcases Nat.lt_or_ge inf (b % 9223372036854775808) with c | c
  · rw [order_nan b a c] at h2; cases h2
  · rcases Nat.lt_or_ge b 9223372036854775808 with d | d
    · have e : b % 9223372036854775808 = b := by omega
      rw [e] at c
      rcases Nat.lt_or_eq_of_le c with hlt | rfl
      · rcases Nat.lt_or_eq_of_le hi with hla | rfl
        · rw [order_pos b a hlt hla] at h2
          have hab : a ≤ b := by
            rcases Nat.lt_or_ge b a with x | x
            · rw [Nat.compare_eq_lt.2 x] at h2; cases h2
            · exact x
          rw [cost_pos a h0 hla, cost_pos b (by omega) hlt]
          exact Int.ofNat_le.2 (costR_mono (qr_anti h0 hab hlt))
        · exfalso
          have hr := read_pos b hlt
          unfold Format.order at h2
          rw [hr, read_inf] at h2
          cases h2
      · rw [cost_inf]; exact bd.1
    · obtain ⟨r, rfl⟩ : ∃ r, b = 9223372036854775808 + r := ⟨b - 9223372036854775808, by omega⟩
      have e : (9223372036854775808 + r) % 9223372036854775808 = r := by omega
      rw [e] at c
      rw [order_neg_pos r a c h0 hi] at h2
      cases h2

theorem read_two : double.read 4611686018427387904 = .number false 4503599627370496 (-51) := by decide

theorem log_full (n : Nat) (m1 : 4503599627370496 ≤ n) (m2 : n < 9007199254740992) : n.log2 = 52 := by
  have x := (Nat.le_log2 (n := n) (k := 52) (by omega)).2 (by simpa using m1)
  have y := (Nat.log2_lt (n := n) (k := 53) (by omega)).2 (by simpa using m2)
  omega

theorem log_prod (n : Nat) (m1 : 4503599627370496 ≤ n) (m2 : n < 9007199254740992) : (4503599627370496 * n).log2 = 104 := by
  have e : 4503599627370496 * n = 2 ^ 52 * n := rfl
  rw [e, Nat.mul_comm, ← Nat.shiftLeft_eq]
  have x := (Nat.le_log2 (n := n <<< 52) (k := 104) (by rw [Nat.shiftLeft_eq]; omega)).2 (by
    rw [Nat.shiftLeft_eq, show 104 = 52 + 52 from rfl, Nat.pow_add]; exact Nat.mul_le_mul_right _ (by simpa using m1))
  have y := (Nat.log2_lt (n := n <<< 52) (k := 105) (by rw [Nat.shiftLeft_eq]; omega)).2 (by
    rw [Nat.shiftLeft_eq, show 105 = 53 + 52 from rfl, Nat.pow_add]; exact Nat.mul_lt_mul_of_pos_right (by simpa using m2) (by decide))
  omega

theorem sig_prod (n : Nat) (m1 : 4503599627370496 ≤ n) (m2 : n < 9007199254740992) : sig (4503599627370496 * n) = n := by
  unfold sig
  rw [log_prod n m1 m2]
  have e1 : 2 ^ (104 - 52) = 4503599627370496 := by decide
  have e2 : 2 ^ (52 - 104) = 1 := by decide
  rw [e1, e2, Nat.mul_one]
  unfold ev
  rw [Nat.mul_div_cancel_left _ (by decide), Nat.mul_mod_right, if_neg (by omega), Nat.add_zero]

theorem prod_two (n : Nat) (j : Int) : (Datum.number false 4503599627370496 (-51)).product (.number false n j) = some (.number false (4503599627370496 * n) (-51 + j)) := by
  simp only [Datum.product, Bool.xor_self]

theorem twice_rung (a n p : Nat) (h1 : 4503599627370496 ≤ a) (h2 : a ≤ 9094988921128908188) (hm : n = 4503599627370496 + a % 4503599627370496) (hp : p = a / 4503599627370496 - 1) :
    min ((p + 1) * 4503599627370496 + n) inf = a + 4503599627370496 := by
  have e : (p + 1) * 4503599627370496 + n = a + 4503599627370496 := by omega
  have l : a + 4503599627370496 ≤ inf := by unfold inf; omega
  rw [e]
  exact Nat.min_eq_left l

theorem mul_two (a : Nat) (h1 : 4503599627370496 ≤ a) (h2 : a ≤ 9094988921128908188) : double.mul 4611686018427387904 a = some (a + 4503599627370496) := by
  have ha : a < inf := by unfold inf; omega
  have m1 := mg_ge a h1
  have m2 := mg_lt a
  have hs := sig_prod (mg a) m1 m2
  have hl2 := log_prod (mg a) m1 m2
  have hm : mg a = 4503599627370496 + a % 4503599627370496 := by unfold mg; rw [if_neg (by omega)]
  have hp : pl a = a / 4503599627370496 - 1 := rfl
  have hr := read_pos a ha
  obtain ⟨n, hn⟩ : ∃ n, n = mg a := ⟨_, rfl⟩
  obtain ⟨p, hpp⟩ : ∃ p, p = pl a := ⟨_, rfl⟩
  rw [← hn] at m1 m2 hs hl2 hm hr
  rw [← hpp] at hp hr
  unfold Format.mul
  rw [read_two, hr, prod_two, Option.map_some]
  have hk := nearest_normal false (4503599627370496 * n) (-51 + (-1074 + (p : Int))) ((p : Int) - 1021) (by omega) (by omega) (by omega)
  rw [show double.write (.number false (4503599627370496 * n) (-51 + (-1074 + (p : Int)))) = double.nearest false (4503599627370496 * n) (-51 + (-1074 + (p : Int))) from rfl, hk]
  unfold rung Format.word
  rw [hs, show ((p : Int) - 1021 + 1022).toNat = p + 1 by omega]
  simp only [Bool.false_eq_true, if_false]
  rw [twice_rung a n p h1 h2 hm hp]

/-- twice the rate costs half, but for one -/
theorem cost_twice (a : Nat) (ha : a < 18446744073709551616) (h1 : (double.order a 4607182418800017408 == some .gt) = true) (h2 : (double.order a 9094988921128908188 == some .gt) = false) :
    double.mul 4611686018427387904 a = some (a + 4503599627370496) ∧ 2 * cost (a + 4503599627370496) ≤ cost a + 2 ∧ cost a ≤ 2 * cost (a + 4503599627370496) + 2 := by
  have hlt : 4607182418800017408 < a ∧ a ≤ 9094988921128908188 := by
    rcases Nat.lt_or_ge inf (a % 9223372036854775808) with c | c
    · rw [order_nan a _ c] at h1; cases h1
    · rcases Nat.lt_or_ge a 9223372036854775808 with d | d
      · have e : a % 9223372036854775808 = a := by omega
        rw [e] at c
        rcases Nat.lt_or_eq_of_le c with hlt | rfl
        · rw [order_pos a _ hlt (by decide)] at h1 h2
          refine ⟨?_, ?_⟩
          · rcases Nat.lt_or_ge 4607182418800017408 a with x | x
            · exact x
            · have : compare a 4607182418800017408 ≠ .gt := by rw [Ne, Nat.compare_eq_gt]; omega
              simp [this] at h1
          · rcases Nat.lt_or_ge 9094988921128908188 a with x | x
            · rw [Nat.compare_eq_gt.2 x] at h2; cases h2
            · exact x
        · have : (double.order inf 9094988921128908188 == some .gt) = true := by decide +kernel
          rw [this] at h2
          cases h2
      · obtain ⟨r, rfl⟩ : ∃ r, a = 9223372036854775808 + r := ⟨a - 9223372036854775808, by omega⟩
        have e : (9223372036854775808 + r) % 9223372036854775808 = r := by omega
        rw [e] at c
        rw [order_neg_pos r _ c (by decide) (by decide)] at h1
        cases h1
  obtain ⟨l1, l2⟩ := hlt
  refine ⟨mul_two a (by omega) l2, ?_⟩
  rw [cost_pos a (by omega) (by unfold inf; omega), cost_pos (a + 4503599627370496) (by omega) (by unfold inf; omega)]
  have hm : mg (a + 4503599627370496) = mg a := by
    unfold mg; rw [if_neg (by omega), if_neg (by omega)]; omega
  have hp : pl (a + 4503599627370496) = pl a + 1 := by unfold pl; omega
  have g1 := mg_ge a (by omega)
  have g2 := mg_lt a
  have hl : (mg a).log2 = 52 := by
    have x := (Nat.le_log2 (n := mg a) (k := 52) (by omega)).2 (by simpa using g1)
    have y := (Nat.log2_lt (n := mg a) (k := 53) (by omega)).2 (by simpa using g2)
    omega
  have hpl : 1022 ≤ pl a ∧ pl a ≤ 2018 := by unfold pl; omega
  have hsig : (quo (mg a)).log2 = 55 ∧ sig (quo (mg a)) ≤ m0 ∨ (quo (mg a)).log2 = 54 := by
    rcases sig_quo (mg a) g1 g2 with ⟨_, x, y⟩ | ⟨_, x, _⟩
    · left
      refine ⟨x, ?_⟩
      rw [y]
      have : ev (m0 * 18014398509481984) (mg a * 4) ≤ ev (m0 * 18014398509481984) (4503599627370496 * 4) := ev_mono (by omega) (by omega) (Nat.mul_le_mul_left _ (by omega))
      have e : ev (m0 * 18014398509481984) (4503599627370496 * 4) = m0 := by decide
      omega
    · exact Or.inr x
  have hb := sig_bd (quo (mg a)) (quo_pos _ (by omega))
  have q1 : qr a = (((quo (mg a)).log2 : Int) - 41 - (-1074 + (pl a : Int)) - 52 + 1022).toNat * 4503599627370496 + sig (quo (mg a)) := by
    unfold qr qrung rung
    rw [hl]
    apply Nat.min_eq_left
    unfold inf
    unfold m0 at hsig
    omega
  have q2 : qr (a + 4503599627370496) = qr a - 4503599627370496 := by
    rw [q1]
    unfold qr qrung rung
    rw [hm, hp, hl]
    unfold m0 at hsig
    rw [Nat.min_eq_left (by unfold inf; omega)]
    omega
  have hh := costR_half (qr a) (by rw [q1]; unfold m0 at hsig; omega) (by rw [q1]; unfold m0 at hsig; omega)
  rw [q2]
  omega

theorem nan_or_mul (a : Nat) : inf < a % 9223372036854775808 ∨ ∃ m, double.mul 4611686018427387904 a = some m ∧ m < 18446744073709551616 := by
  rcases Nat.lt_or_ge inf (a % 9223372036854775808) with c | c
  · exact Or.inl c
  · right
    have hr : ∀ s t, double.read a ≠ .nan s t := by
      intro s t e
      have := order_self a c
      unfold Format.order at this
      rw [e] at this
      cases this
    cases hm : double.mul 4611686018427387904 a with
    | some m => exact ⟨m, rfl, double.mul_lt hm⟩
    | none =>
      exfalso
      unfold Format.mul at hm
      rw [read_two] at hm
      cases hd : double.read a with
      | nan s t => exact hr s t hd
      | infinity s => rw [hd] at hm; simp [Datum.product] at hm
      | number s m i => rw [hd] at hm; simp [Datum.product] at hm
end Go.Proofs.Ythadlpiioabajaa.Fl
