/- Quotients of 20000 by a double, rounded: plain laws. By an AI agent. -/
import Ieee.Arith
namespace Go.Proofs.Ythadlpiioabajaa.Fl
open Ieee

/-- n / g to the nearest, between two the even one -/
def ev (n g : Nat) : Nat := n / g + (if g < 2 * (n % g) ∨ (g = 2 * (n % g) ∧ n / g % 2 = 1) then 1 else 0)

theorem ev_le (n g : Nat) : ev n g ≤ n / g + 1 := by unfold ev; split <;> omega
theorem le_ev (n g : Nat) : n / g ≤ ev n g := by unfold ev; split <;> omega

theorem cut_eq (neg : Bool) (n drop : Nat) : Toward.even.cut neg n drop = ev n (2 ^ drop) := by
  unfold Toward.cut ev
  simp only [Nat.one_shiftLeft]
  rcases Nat.le_total drop (n.log2 + 2) with h | h
  · rw [Nat.min_eq_left h]
    congr 1
    by_cases h1 : 2 ^ drop < 2 * (n % 2 ^ drop)
    · simp [h1]
    · by_cases h2 : 2 ^ drop = 2 * (n % 2 ^ drop)
      · by_cases h3 : n / 2 ^ drop % 2 = 1
        · rw [if_pos (Or.inr ⟨h2, h3⟩)]
          simp [← h2, h3]
        · rw [if_neg (by rintro (h | ⟨_, h⟩); exact h1 h; exact h3 h)]
          simp [h1, h3]
      · rw [if_neg (by rintro (h | ⟨h, _⟩); exact h1 h; exact h2 h)]
        simp [h1, h2]
  · rw [Nat.min_eq_right h]
    have h0 : n < 2 ^ (n.log2 + 1) := Nat.lt_log2_self
    have h1 : 2 ^ (n.log2 + 2) = 2 * 2 ^ (n.log2 + 1) := by rw [Nat.pow_succ, Nat.mul_comm]
    have h2 : 2 ^ (n.log2 + 2) ≤ 2 ^ drop := Nat.pow_le_pow_right (by decide) h
    generalize 2 ^ (n.log2 + 2) = x at *
    generalize 2 ^ (n.log2 + 1) = y at *
    generalize 2 ^ drop = z at *
    have e1 : n / x = 0 := Nat.div_eq_of_lt (by omega)
    have e2 : n % x = n := Nat.mod_eq_of_lt (by omega)
    have e3 : n / z = 0 := Nat.div_eq_of_lt (by omega)
    have e4 : n % z = n := Nat.mod_eq_of_lt (by omega)
    rw [e1, e2, e3, e4, if_neg (by omega)]
    have e5 : decide (x < 2 * n) = false := decide_eq_false (by omega)
    simp [e5]

theorem ev_mono {n1 g1 n2 g2 : Nat} (p1 : 0 < g1) (p2 : 0 < g2) (h : n1 * g2 ≤ n2 * g1) : ev n1 g1 ≤ ev n2 g2 := by
  have d1 := Nat.div_add_mod n1 g1
  have d2 := Nat.div_add_mod n2 g2
  have l1 := Nat.mod_lt n1 p1
  have l2 := Nat.mod_lt n2 p2
  have u1 := ev_le n1 g1
  have u2 := le_ev n2 g2
  unfold ev at u1 u2 ⊢
  generalize n1 / g1 = a at *
  generalize n2 / g2 = b at *
  generalize n1 % g1 = r at *
  generalize n2 % g2 = s at *
  subst d1 d2
  have e1 : (g1 * a + r) * g2 = g1 * g2 * a + r * g2 := by rw [Nat.add_mul]; congr 1; ac_rfl
  have e2 : (g2 * b + s) * g1 = g1 * g2 * b + s * g1 := by rw [Nat.add_mul]; congr 1; ac_rfl
  rw [e1, e2] at h
  have m1 : r * g2 < g1 * g2 := Nat.mul_lt_mul_of_pos_right l1 p2
  have m2 : s * g1 < g1 * g2 := by rw [Nat.mul_comm g1 g2]; exact Nat.mul_lt_mul_of_pos_right l2 p1
  have c1 : g1 * g2 = g2 * g1 := Nat.mul_comm _ _
  have hab : a ≤ b := by
    apply Nat.le_of_not_lt
    intro hlt
    have : g1 * g2 * (b + 1) ≤ g1 * g2 * a := Nat.mul_le_mul_left _ hlt
    rw [Nat.mul_add, Nat.mul_one] at this
    omega
  rcases Nat.lt_or_eq_of_le hab with hlt | rfl
  · omega
  · have hrs : r * g2 ≤ s * g1 := by omega
    have k1 : g1 < 2 * r → g2 < 2 * s := by
      intro hr
      have : g1 * g2 < 2 * r * g2 := Nat.mul_lt_mul_of_pos_right hr p2
      rw [Nat.mul_assoc] at this
      have t : g2 * g1 < 2 * s * g1 := by rw [Nat.mul_assoc]; omega
      exact Nat.lt_of_mul_lt_mul_right t
    have k2 : g1 = 2 * r → g2 ≤ 2 * s := by
      intro hr
      have : g1 * g2 = 2 * r * g2 := by rw [← hr]
      rw [Nat.mul_assoc] at this
      have t : g2 * g1 ≤ 2 * s * g1 := by rw [Nat.mul_assoc]; omega
      exact Nat.le_of_mul_le_mul_right t p1
    by_cases c : g1 < 2 * r ∨ (g1 = 2 * r ∧ a % 2 = 1)
    · rw [if_pos c, if_pos]
      · exact Nat.le_refl _
      · rcases c with c | ⟨c, o⟩
        · exact Or.inl (k1 c)
        · rcases Nat.lt_or_eq_of_le (k2 c) with x | x
          · exact Or.inl x
          · exact Or.inr ⟨x, o⟩
    · rw [if_neg c]
      omega

/-- a quotient kept with two digits more, and a last one that is 1 where anything is left over, is rounded as the quotient itself -/
theorem ev_sticky (D n h : Nat) (hn : 0 < n) (hh : 0 < h) : ev (2 * (D / n) + (D % n != 0).toNat) (2 * (2 * h)) = ev D (n * (2 * h)) := by
  have d := Nat.div_add_mod D n
  have l := Nat.mod_lt D hn
  have hs : (D % n != 0).toNat = if D % n = 0 then 0 else 1 := by by_cases h : D % n = 0 <;> simp [h]
  rw [hs]
  generalize D / n = q at *
  generalize D % n = r at *
  subst d
  have dq := Nat.div_add_mod q (2 * h)
  have lq := Nat.mod_lt q (show 0 < 2 * h by omega)
  have x1 : (n * q + r) / (n * (2 * h)) = q / (2 * h) := by
    rw [← Nat.div_div_eq_div_mul, Nat.mul_add_div hn, Nat.div_eq_of_lt l, Nat.add_zero]
  have x2 : (n * q + r) % (n * (2 * h)) = n * (q % (2 * h)) + r := by
    rw [Nat.mod_mul, Nat.mul_add_mod, Nat.mod_eq_of_lt l, Nat.mul_add_div hn, Nat.div_eq_of_lt l, Nat.add_zero, Nat.add_comm]
  unfold ev
  rw [x1, x2]
  have y0 : (if r = 0 then 0 else 1) < 2 := by split <;> omega
  generalize hst : (if r = 0 then 0 else 1) = st at *
  have y1 : (2 * q + st) / (2 * (2 * h)) = q / (2 * h) := by
    rw [← Nat.div_div_eq_div_mul]
    congr 1
    omega
  have y2 : (2 * q + st) % (2 * (2 * h)) = 2 * (q % (2 * h)) + st := by
    rw [Nat.mod_mul]
    have : (2 * q + st) / 2 = q := by omega
    rw [this]
    omega
  rw [y1, y2]
  generalize q / (2 * h) = a at *
  generalize q % (2 * h) = b at *
  congr 1
  have z1 : n * (2 * h) = 2 * (n * h) := by rw [← Nat.mul_assoc, Nat.mul_comm n 2, Nat.mul_assoc]
  rw [z1]
  rcases Nat.lt_trichotomy b h with c | c | c
  · have m : n * (b + 1) ≤ n * h := Nat.mul_le_mul_left n c
    rw [Nat.mul_add, Nat.mul_one] at m
    rw [if_neg (by omega), if_neg (by omega)]
  · subst c
    by_cases hr : r = 0
    · subst hr
      simp at hst
      subst hst
      by_cases o : a % 2 = 1
      · rw [if_pos (Or.inr ⟨by omega, o⟩), if_pos (Or.inr ⟨by omega, o⟩)]
      · rw [if_neg (by rintro (x | ⟨_, x⟩); omega; exact o x), if_neg (by rintro (x | ⟨_, x⟩); omega; exact o x)]
    · rw [if_neg hr] at hst
      subst hst
      rw [if_pos (Or.inl (by omega)), if_pos (Or.inl (by omega))]
  · have m : n * (h + 1) ≤ n * b := Nat.mul_le_mul_left n c
    rw [Nat.mul_add, Nat.mul_one] at m
    rw [if_pos (Or.inl (by omega)), if_pos (Or.inl (by omega))]
end Go.Proofs.Ythadlpiioabajaa.Fl
