/- The quotient of 20000 by a double: its rung; a greater divisor has no greater quotient: plain laws. By an AI agent. -/
import Derived.Test.YthadlpiioabajaaFloatLaw
namespace Go.Proofs.Ythadlpiioabajaa.Fl
open Ieee

/-- the 53 digits that are kept of a number -/
def sig (mag : Nat) : Nat := ev (mag * 2 ^ (52 - mag.log2)) (2 ^ (mag.log2 - 52))

theorem sig_bd (mag : Nat) (hm : 0 < mag) : 2 ^ 52 ≤ sig mag ∧ sig mag ≤ 2 ^ 53 := by
  have h1 : 2 ^ mag.log2 ≤ mag := Nat.log2_self_le (by omega)
  have h2 : mag < 2 ^ (mag.log2 + 1) := Nat.lt_log2_self
  unfold sig
  rcases Nat.le_total mag.log2 52 with h | h
  · rw [Nat.sub_eq_zero_of_le h, Nat.pow_zero]
    have e : ev (mag * 2 ^ (52 - mag.log2)) 1 = mag * 2 ^ (52 - mag.log2) := by
      unfold ev; simp [Nat.mod_one]
    rw [e]
    have a1 : 2 ^ mag.log2 * 2 ^ (52 - mag.log2) ≤ mag * 2 ^ (52 - mag.log2) := Nat.mul_le_mul_right _ h1
    have a2 : mag * 2 ^ (52 - mag.log2) < 2 ^ (mag.log2 + 1) * 2 ^ (52 - mag.log2) := Nat.mul_lt_mul_of_pos_right h2 (Nat.two_pow_pos _)
    rw [← Nat.pow_add] at a1 a2
    rw [show mag.log2 + (52 - mag.log2) = 52 by omega] at a1
    rw [show mag.log2 + 1 + (52 - mag.log2) = 53 by omega] at a2
    omega
  · rw [Nat.sub_eq_zero_of_le h, Nat.pow_zero, Nat.mul_one]
    have u := ev_le mag (2 ^ (mag.log2 - 52))
    have l := le_ev mag (2 ^ (mag.log2 - 52))
    have a1 : 2 ^ 52 ≤ mag / 2 ^ (mag.log2 - 52) := by
      rw [Nat.le_div_iff_mul_le (Nat.two_pow_pos _), ← Nat.pow_add, show 52 + (mag.log2 - 52) = mag.log2 by omega]
      exact h1
    have a2 : mag / 2 ^ (mag.log2 - 52) < 2 ^ 53 := by
      rw [Nat.div_lt_iff_lt_mul (Nat.two_pow_pos _), ← Nat.pow_add, show 53 + (mag.log2 - 52) = mag.log2 + 1 by omega]
      exact h2
    omega

def inf : Nat := 9218868437227405312

theorem double_inf : double.infRung = inf := by decide
theorem double_least : double.leastPlace = -1074 := by decide
theorem double_binade : double.binade = 4503599627370496 := by decide
theorem double_weight : double.signWeight = 9223372036854775808 := by decide

/-- the rung of a number that is no less than 2 ^ -1022 -/
def rung (k : Int) (mag : Nat) : Nat := min ((k + 1022).toNat * 4503599627370496 + sig mag) inf

theorem nearest_normal (neg : Bool) (mag : Nat) (place k : Int) (hm : 0 < mag) (hk : k = place + (mag.log2 : Int)) (h : -1022 ≤ k) :
    double.nearest neg mag place = double.word neg (rung k mag) := by
  unfold Format.nearest rung sig
  rw [if_neg (by omega)]
  simp only [double_least, double_inf, double_binade, cut_eq, Nat.shiftLeft_eq]
  have hf : (double.fractionBits : Int) = 52 := rfl
  rw [hf]
  have e0 : max (place + (mag.log2 : Int) - 52) (-1074) = k - 52 := by omega
  rw [e0, show (k - 52 - -1074).toNat = (k + 1022).toNat by omega, show (place - (k - 52)).toNat = 52 - mag.log2 by omega, show (k - 52 - place).toNat = mag.log2 - 52 by omega]

/-- 20000 as a double: 53 digits, and the place of the last -/
def m0 : Nat := 5497558138880000

theorem read_unit : double.read 4671226772094713856 = .number false m0 (-38) := by decide

/-- what is laid of the quotient -/
def quo (n : Nat) : Nat := 2 * (m0 <<< (2 + n.log2) / n) + (m0 <<< (2 + n.log2) % n != 0).toNat

theorem quo_log (n : Nat) (hn : 0 < n) : (quo n).log2 = 54 ∨ (quo n).log2 = 55 := by
  have h1 : 2 ^ n.log2 ≤ n := Nat.log2_self_le (by omega)
  have h2 : n < 2 ^ (n.log2 + 1) := Nat.lt_log2_self
  have e : m0 <<< (2 + n.log2) = m0 * 4 * 2 ^ n.log2 := by rw [Nat.shiftLeft_eq, Nat.pow_add, ← Nat.mul_assoc]
  have b1 : m0 <<< (2 + n.log2) / n ≤ m0 * 4 := by
    rw [e]
    apply Nat.div_le_of_le_mul
    rw [Nat.mul_comm n]
    exact Nat.mul_le_mul_left _ h1
  have b2 : m0 * 2 ≤ m0 <<< (2 + n.log2) / n := by
    rw [e, Nat.le_div_iff_mul_le hn]
    have : m0 * 2 * n ≤ m0 * 2 * 2 ^ (n.log2 + 1) := Nat.mul_le_mul_left _ (Nat.le_of_lt h2)
    rw [Nat.pow_succ] at this
    have r : m0 * 2 * (2 ^ n.log2 * 2) = m0 * 4 * 2 ^ n.log2 := by
      generalize 2 ^ n.log2 = x
      rw [Nat.mul_comm x 2, ← Nat.mul_assoc, Nat.mul_assoc m0 2 2]
    omega
  have b3 : (m0 <<< (2 + n.log2) % n != 0).toNat ≤ 1 := Bool.toNat_le _
  have hm0 : m0 = 5497558138880000 := rfl
  have q1 : 2 ^ 54 ≤ quo n := by unfold quo; omega
  have q2 : quo n < 2 ^ 56 := by unfold quo; omega
  have l1 : 54 ≤ (quo n).log2 := (Nat.le_log2 (by omega)).2 q1
  have l2 : (quo n).log2 < 56 := (Nat.log2_lt (by omega)).2 q2
  omega

theorem quo_pos (n : Nat) (hn : 0 < n) : 0 < quo n := by
  rcases Nat.eq_zero_or_pos (quo n) with h | h
  · have := quo_log n hn
    rw [h] at this
    simp [Nat.log2] at this
  · exact h

/-- the quotient of 20000 by a number above 0 -/
def qrung (n : Nat) (j : Int) : Nat := rung ((quo n).log2 - 41 - j - n.log2) (quo n)

theorem div_unit (a : Nat) (n : Nat) (j : Int) (hr : double.read a = .number false n j) (hn : 0 < n) (hj : j + (n.log2 : Int) ≤ 1023) :
    double.div 4671226772094713856 a = some (qrung n j) := by
  unfold Format.div
  rw [read_unit, hr]
  have hl := quo_log n hn
  have hm : double.fractionBits + 2 + n.log2 - m0.log2 = 2 + n.log2 := by
    have : m0.log2 = 52 := by decide
    rw [this, show double.fractionBits = 52 from rfl]
    omega
  simp only [Datum.quotient]
  rw [if_neg (by omega), hm]
  simp only [Option.map_some, Format.write]
  have hk := nearest_normal (false ^^ false) (quo n) (-38 - j - ((2 + n.log2 : Nat) : Int) - 1) ((quo n).log2 - 41 - j - n.log2) (quo_pos n hn) (by omega) (by omega)
  have e : 2 * (m0 <<< (2 + n.log2) / n) + (m0 <<< (2 + n.log2) % n != 0).toNat = quo n := rfl
  rw [e, hk]
  simp [Format.word, qrung]

/-- a number that is full: 53 digits -/
theorem sig_quo (n : Nat) (h1 : 4503599627370496 ≤ n) (h2 : n < 9007199254740992) :
    (n ≤ m0 ∧ (quo n).log2 = 55 ∧ sig (quo n) = ev (m0 * 18014398509481984) (n * 4)) ∨ (m0 < n ∧ (quo n).log2 = 54 ∧ sig (quo n) = ev (m0 * 18014398509481984) (n * 2)) := by
  have hl : n.log2 = 52 := by
    have a := (Nat.le_log2 (n := n) (k := 52) (by omega)).2 (by simpa using h1)
    have b := (Nat.log2_lt (n := n) (k := 53) (by omega)).2 (by simpa using h2)
    omega
  have e : quo n = 2 * (m0 * 18014398509481984 / n) + (m0 * 18014398509481984 % n != 0).toNat := by
    unfold quo; rw [hl, Nat.shiftLeft_eq]
  have b3 : (m0 * 18014398509481984 % n != 0).toNat ≤ 1 := Bool.toNat_le _
  have s0 : m0 * 18014398509481984 % n = 0 → (m0 * 18014398509481984 % n != 0).toNat = 0 := by intro h; simp [h]
  have dm := Nat.div_add_mod (m0 * 18014398509481984) n
  have lm := Nat.mod_lt (m0 * 18014398509481984) (show 0 < n by omega)
  rcases Nat.lt_or_ge m0 n with hlt | hge
  · right
    have q1 : 2 ^ 54 ≤ quo n := by
      have : m0 * 2 ≤ m0 * 18014398509481984 / n := by
        rw [Nat.le_div_iff_mul_le (by omega)]
        have : m0 * 2 * n ≤ m0 * 2 * 9007199254740992 := Nat.mul_le_mul_left _ (by omega)
        unfold m0 at *; omega
      rw [e]; unfold m0 at *; omega
    have q2 : quo n < 2 ^ 55 := by
      have : m0 * 18014398509481984 / n < 18014398509481984 := by
        rw [Nat.div_lt_iff_lt_mul (by omega), Nat.mul_comm]
        exact Nat.mul_lt_mul_of_pos_left hlt (by decide)
      rw [e]; omega
    have l1 : 54 ≤ (quo n).log2 := (Nat.le_log2 (by omega)).2 q1
    have l2 : (quo n).log2 < 55 := (Nat.log2_lt (by omega)).2 q2
    have l : (quo n).log2 = 54 := Nat.le_antisymm (Nat.lt_succ_iff.1 l2) l1
    refine ⟨hlt, l, ?_⟩
    unfold sig
    rw [l]
    simp only [show 52 - 54 = 0 from rfl, Nat.pow_zero, Nat.mul_one, show 54 - 52 = 2 from rfl]
    rw [e, show (2 : Nat) ^ 2 = 2 * (2 * 1) from rfl, ev_sticky (m0 * 18014398509481984) n 1 (by omega) (by omega)]
  · left
    have q1 : 2 ^ 55 ≤ quo n := by
      have : 18014398509481984 ≤ m0 * 18014398509481984 / n := by
        rw [Nat.le_div_iff_mul_le (by omega), Nat.mul_comm]
        exact Nat.mul_le_mul_right _ hge
      rw [e]; omega
    have q2 : quo n < 2 ^ 56 := by
      have : m0 * 18014398509481984 / n ≤ m0 * 4 := by
        apply Nat.div_le_of_le_mul
        have : n * (m0 * 4) ≥ 4503599627370496 * (m0 * 4) := Nat.mul_le_mul_right _ h1
        unfold m0 at *; omega
      rw [e]; unfold m0 at *; omega
    have l1 : 55 ≤ (quo n).log2 := (Nat.le_log2 (by omega)).2 q1
    have l2 : (quo n).log2 < 56 := (Nat.log2_lt (by omega)).2 q2
    have l : (quo n).log2 = 55 := Nat.le_antisymm (Nat.lt_succ_iff.1 l2) l1
    refine ⟨hge, l, ?_⟩
    unfold sig
    rw [l]
    simp only [show 52 - 55 = 0 from rfl, Nat.pow_zero, Nat.mul_one, show 55 - 52 = 3 from rfl]
    rw [e, show (2 : Nat) ^ 3 = 2 * (2 * 2) from rfl, ev_sticky (m0 * 18014398509481984) n 2 (by omega) (by omega)]

theorem rung_mono_k {k1 k2 : Int} {a b : Nat} (ha : 0 < a) (hb : 0 < b) (h : k1 < k2) (h1 : -1022 ≤ k1) : rung k1 a ≤ rung k2 b := by
  have x := sig_bd a ha
  have y := sig_bd b hb
  unfold rung
  generalize sig a = u at *
  generalize sig b = v at *
  obtain ⟨p, hp⟩ := Int.eq_ofNat_of_zero_le (show 0 ≤ k1 + 1022 by omega)
  obtain ⟨q, hq⟩ := Int.eq_ofNat_of_zero_le (show 0 ≤ k2 + 1022 by omega)
  rw [hp, hq, Int.toNat_natCast, Int.toNat_natCast]
  omega

theorem rung_mono_sig {k1 k2 : Int} {a b : Nat} (h : k1 = k2) (hs : sig a ≤ sig b) : rung k1 a ≤ rung k2 b := by
  subst h
  unfold rung
  omega

/-- of two full numbers the greater has no greater quotient -/
theorem qrung_anti (n m : Nat) (i j : Int) (n1 : 4503599627370496 ≤ n) (n2 : n < 9007199254740992) (m1 : 4503599627370496 ≤ m) (m2 : m < 9007199254740992) (hi : i ≤ 971) (hj : j ≤ 971)
    (h : i < j ∨ (i = j ∧ n ≤ m)) : qrung m j ≤ qrung n i := by
  have hl : ∀ x : Nat, 4503599627370496 ≤ x → x < 9007199254740992 → x.log2 = 52 := by
    intro x h1 h2
    have a := (Nat.le_log2 (n := x) (k := 52) (by omega)).2 (by simpa using h1)
    have b := (Nat.log2_lt (n := x) (k := 53) (by omega)).2 (by simpa using h2)
    omega
  have pn := quo_pos n (by omega)
  have pm := quo_pos m (by omega)
  have sn := sig_quo n n1 n2
  have sm := sig_quo m m1 m2
  unfold qrung
  rw [hl n n1 n2, hl m m1 m2]
  rcases sn with ⟨a1, a2, a3⟩ | ⟨a1, a2, a3⟩ <;> rcases sm with ⟨b1, b2, b3⟩ | ⟨b1, b2, b3⟩ <;> rw [a2, b2]
  · rcases h with h | ⟨rfl, h⟩
    · exact rung_mono_k pm pn (by omega) (by omega)
    · refine rung_mono_sig rfl ?_
      rw [a3, b3]
      exact ev_mono (by omega) (by omega) (Nat.mul_le_mul_left _ (by omega))
  · exact rung_mono_k pm pn (by omega) (by omega)
  · rcases h with h | ⟨rfl, h⟩
    · rcases Int.lt_or_eq_of_le (show i + 1 ≤ j by omega) with h | h
      · exact rung_mono_k pm pn (by omega) (by omega)
      · refine rung_mono_sig (by omega) ?_
        rw [a3, b3]
        exact ev_mono (by omega) (by omega) (Nat.mul_le_mul_left _ (by omega))
    · omega
  · rcases h with h | ⟨rfl, h⟩
    · exact rung_mono_k pm pn (by omega) (by omega)
    · refine rung_mono_sig rfl ?_
      rw [a3, b3]
      exact ev_mono (by omega) (by omega) (Nat.mul_le_mul_left _ (by omega))
end Go.Proofs.Ythadlpiioabajaa.Fl
