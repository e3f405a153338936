/- The cost of a rate, as a whole number: plain laws. By an AI agent. -/
import Derived.Test.YthadlpiioabajaaFloatRound
namespace Go.Proofs.Ythadlpiioabajaa.Fl
open Ieee Go

theorem cutz_eq (n drop : Nat) : Toward.zero.cut false n drop = n / 2 ^ drop := by
  unfold Toward.cut
  simp only [Nat.one_shiftLeft, Bool.toNat_false, Nat.add_zero]
  rcases Nat.le_total drop (n.log2 + 2) with h | h
  · rw [Nat.min_eq_left h]
  · rw [Nat.min_eq_right h]
    have h0 : n < 2 ^ (n.log2 + 1) := Nat.lt_log2_self
    have h1 : 2 ^ (n.log2 + 1) ≤ 2 ^ (n.log2 + 2) := Nat.pow_le_pow_right (by decide) (by omega)
    have h2 : 2 ^ (n.log2 + 2) ≤ 2 ^ drop := Nat.pow_le_pow_right (by decide) h
    rw [Nat.div_eq_of_lt (by omega), Nat.div_eq_of_lt (by omega)]

/-- the whole part of a rung, for rungs of no great exponent -/
def iv (x : Nat) : Nat := mg x / 2 ^ (1074 - pl x)

theorem toInt_eq (x : Nat) (h : x ≤ 4679239875398991872) : floatToIntVal .f64 x .i64 = some ((iv x : Nat) : Int) := by
  have hp : pl x ≤ 1038 := by unfold pl; omega
  have hx : x < inf := by unfold inf; omega
  have hm := mg_lt x
  have hle : iv x ≤ mg x := Nat.div_le_self _ _
  unfold floatToIntVal FloatKind.decode
  rw [show FloatKind.f64.format = double from rfl, read_pos x hx]
  simp only [Datum.toInt, Datum.integral]
  have e1 : (-1074 + (pl x : Int)).toNat = 0 := by omega
  have e2 : (-(-1074 + (pl x : Int))).toNat = 1074 - pl x := by omega
  rw [e1, e2, Nat.shiftLeft_zero, cutz_eq]
  have e3 : signed false (mg x / 2 ^ (1074 - pl x)) 0 = ((iv x : Nat) : Int) := by
    unfold signed iv
    simp
  rw [e3]
  have b1 : IntKind.i64.min ≤ ((iv x : Nat) : Int) := by show (-9223372036854775808 : Int) ≤ _; omega
  have b2 : ((iv x : Nat) : Int) ≤ IntKind.i64.max := by show _ ≤ (9223372036854775807 : Int); omega
  rw [if_pos ⟨b1, b2⟩]

theorem iv_eq (x : Nat) (h : pl x ≤ 1074) : iv x = mg x * 2 ^ pl x / 2 ^ 1074 := by
  unfold iv
  have : 2 ^ 1074 = 2 ^ pl x * 2 ^ (1074 - pl x) := by rw [← Nat.pow_add]; congr 1; omega
  rw [this, Nat.mul_comm (mg x), Nat.mul_div_mul_left _ _ (Nat.two_pow_pos _)]

theorem iv_mono {x y : Nat} (h : x ≤ y) (hy : pl y ≤ 1074) : iv x ≤ iv y := by
  have hx : pl x ≤ 1074 := by unfold pl at *; omega
  rw [iv_eq x hx, iv_eq y hy]
  apply Nat.div_le_div_right
  rcases Nat.lt_or_eq_of_le h with h | rfl
  · exact Nat.le_of_lt (val_lt h)
  · exact Nat.le_refl _

theorem iv_le (x : Nat) (h : x ≤ 4679239875398991872) : iv x ≤ 65535 := by
  have := iv_mono h (by decide)
  have e : iv 4679239875398991872 = 65535 := by decide +kernel
  omega

/-- the cost of a quotient -/
def costR (q : Nat) : Nat := if 4679239875398991872 < rnd q then 65535 else max (iv (rnd q)) 1

theorem costR_bd (q : Nat) : 1 ≤ costR q ∧ costR q ≤ 65535 := by
  unfold costR
  split
  · omega
  · rename_i h
    have := iv_le (rnd q) (by omega)
    omega

theorem pow_split (k : Nat) (hk : k < 52) : 2 ^ (52 - k) * 2 ^ k = 4503599627370496 ∧ 2 * 2 ^ (51 - k) = 2 ^ (52 - k) ∧ 2251799813685248 / 2 ^ k = 2 ^ (51 - k) := by
  refine ⟨?_, ?_, ?_⟩
  · rw [← Nat.pow_add, Nat.sub_add_cancel (by omega)]
  · rw [← Nat.pow_succ']; congr 1; omega
  · rw [show 2251799813685248 = 2 ^ (51 - k) * 2 ^ k by rw [← Nat.pow_add, Nat.sub_add_cancel (by omega)]]
    exact Nat.mul_div_cancel _ (Nat.two_pow_pos _)

theorem rnd_mid (r k : Nat) (h : r / 4503599627370496 = 1023 + k) (hk : k < 52) : rnd r = (r + 2 ^ (51 - k)) / 2 ^ (52 - k) * 2 ^ (52 - k) := by
  unfold rnd
  rw [h, if_neg (by omega), if_neg (by omega), if_pos (by omega), show 1023 + k - 1023 = k by omega, show 1075 - (1023 + k) = 52 - k by omega, (pow_split k hk).2.2]

/-- where a rung is rounded to -/
theorem rnd_bd (r : Nat) : (r / 4503599627370496 < 1022 → rnd r = 0) ∧ (1022 ≤ r / 4503599627370496 → r / 4503599627370496 * 4503599627370496 ≤ rnd r ∧ (r / 4503599627370496 < 1075 → rnd r ≤ (r / 4503599627370496 + 1) * 4503599627370496)) ∧ (1075 ≤ r / 4503599627370496 → rnd r = r) := by
  refine ⟨fun h => ?_, fun h => ?_, fun h => ?_⟩
  · unfold rnd; rw [if_pos h]
  · rcases Nat.lt_or_ge (r / 4503599627370496) 1075 with h2 | h2
    · rcases Nat.lt_or_eq_of_le h with h1 | h1
      · obtain ⟨k, hk⟩ : ∃ k, r / 4503599627370496 = 1023 + k := ⟨r / 4503599627370496 - 1023, by omega⟩
        have hk52 : k < 52 := by omega
        rw [rnd_mid r k hk hk52]
        obtain ⟨p1, p2, _⟩ := pow_split k hk52
        have gp : 0 < 2 ^ (52 - k) := Nat.two_pow_pos _
        generalize 2 ^ (52 - k) = g at *
        generalize 2 ^ (51 - k) = hh at *
        generalize 2 ^ k = c at *
        have lo : (1023 + k) * c ≤ (r + hh) / g := by
          rw [Nat.le_div_iff_mul_le gp]
          have : (1023 + k) * c * g = (1023 + k) * 4503599627370496 := by rw [Nat.mul_assoc, Nat.mul_comm c g, p1]
          omega
        have hi : (r + hh) / g ≤ (1023 + k + 1) * c := by
          apply Nat.le_of_lt_succ
          rw [Nat.div_lt_iff_lt_mul gp]
          have : ((1023 + k + 1) * c).succ * g = (1023 + k + 1) * 4503599627370496 + g := by rw [Nat.succ_mul, Nat.mul_assoc, Nat.mul_comm c g, p1]
          omega
        have lo' := Nat.mul_le_mul_right g lo
        have hi' := Nat.mul_le_mul_right g hi
        rw [Nat.mul_assoc, Nat.mul_comm c g, p1] at lo' hi'
        rw [hk]
        exact ⟨lo', fun _ => hi'⟩
      · have : rnd r = 4607182418800017408 := by unfold rnd; rw [← h1, if_neg (by omega), if_pos rfl]
        rw [this, ← h1]
        omega
    · have : rnd r = r := by unfold rnd; rw [if_neg (by omega), if_neg (by omega), if_neg (by omega)]
      rw [this]
      exact ⟨by omega, fun h => by omega⟩
  · unfold rnd; rw [if_neg (by omega), if_neg (by omega), if_neg (by omega)]

theorem rnd_mono {r s : Nat} (h : r ≤ s) : rnd r ≤ rnd s := by
  have hd : r / 4503599627370496 ≤ s / 4503599627370496 := Nat.div_le_div_right h
  obtain ⟨a1, a2, a3⟩ := rnd_bd r
  obtain ⟨b1, b2, b3⟩ := rnd_bd s
  rcases Nat.lt_or_ge (r / 4503599627370496) 1022 with c | c
  · rw [a1 c]; exact Nat.zero_le _
  · rcases Nat.lt_or_eq_of_le hd with hlt | heq
    · rcases Nat.lt_or_ge (r / 4503599627370496) 1075 with c2 | c2
      · have h1 := (a2 c).2 c2
        have h2 := (b2 (by omega)).1
        have h3 : (r / 4503599627370496 + 1) * 4503599627370496 ≤ s / 4503599627370496 * 4503599627370496 := Nat.mul_le_mul_right _ hlt
        omega
      · rw [a3 c2, b3 (by omega)]; exact h
    · rcases Nat.lt_or_ge (r / 4503599627370496) 1075 with c2 | c2
      · rcases Nat.lt_or_eq_of_le c with c1 | c1
        · obtain ⟨k, hk⟩ : ∃ k, r / 4503599627370496 = 1023 + k := ⟨r / 4503599627370496 - 1023, by omega⟩
          rw [rnd_mid r k hk (by omega), rnd_mid s k (by omega) (by omega)]
          exact Nat.mul_le_mul_right _ (Nat.div_le_div_right (by omega))
        · unfold rnd
          rw [← heq, ← c1]
          simp
      · rw [a3 c2, b3 (by omega)]; exact h

theorem costR_mono {q p : Nat} (h : q ≤ p) : costR q ≤ costR p := by
  have hr := rnd_mono h
  have b := costR_bd q
  unfold costR at *
  by_cases h2 : 4679239875398991872 < rnd p
  · rw [if_pos h2]; exact b.2
  · rw [if_neg h2, if_neg (by omega)]
    have := iv_mono hr (by unfold pl; omega)
    omega

/-- the whole number that a rung of exponent k is rounded to -/
theorem iv_rnd (r k : Nat) (h : r / 4503599627370496 = 1023 + k) (hk : k < 51) : iv (rnd r) = (4503599627370496 + r % 4503599627370496 + 2 ^ (51 - k)) / 2 ^ (52 - k) := by
  rw [rnd_mid r k h (by omega)]
  obtain ⟨p1, p2, _⟩ := pow_split k (by omega)
  have p3 : 2 * 2 ^ (51 - k) = 2 ^ (52 - k) := p2
  have p4 : 2 ^ (51 - k) * 2 ^ (k + 1) = 4503599627370496 := by rw [← Nat.pow_add, show 51 - k + (k + 1) = 52 by omega]
  have gp : 0 < 2 ^ (52 - k) := Nat.two_pow_pos _
  have hp : 0 < 2 ^ (51 - k) := Nat.two_pow_pos _
  obtain ⟨f, hf⟩ : ∃ f, f = r % 4503599627370496 := ⟨_, rfl⟩
  have hr : r = (1023 + k) * 4503599627370496 + f := by omega
  have hfl : f < 4503599627370496 := by omega
  rw [← hf]
  have e1 : (r + 2 ^ (51 - k)) / 2 ^ (52 - k) * 2 ^ (52 - k) = (1023 + k) * 4503599627370496 + (f + 2 ^ (51 - k)) / 2 ^ (52 - k) * 2 ^ (52 - k) := by
    have : r + 2 ^ (51 - k) = f + 2 ^ (51 - k) + 2 ^ (52 - k) * ((1023 + k) * 2 ^ k) := by
      have : 2 ^ (52 - k) * ((1023 + k) * 2 ^ k) = (1023 + k) * 4503599627370496 := by rw [Nat.mul_left_comm, p1]
      omega
    rw [this, Nat.add_mul_div_left _ _ gp, Nat.add_mul]
    have : (1023 + k) * 2 ^ k * 2 ^ (52 - k) = (1023 + k) * 4503599627370496 := by rw [Nat.mul_assoc, Nat.mul_comm (2 ^ k), p1]
    omega
  have e2 : (4503599627370496 + f + 2 ^ (51 - k)) / 2 ^ (52 - k) = 2 ^ k + (f + 2 ^ (51 - k)) / 2 ^ (52 - k) := by
    have : 4503599627370496 + f + 2 ^ (51 - k) = f + 2 ^ (51 - k) + 2 ^ (52 - k) * 2 ^ k := by omega
    rw [this, Nat.add_mul_div_left _ _ gp]
    omega
  rw [e1, e2]
  obtain ⟨m, hm⟩ : ∃ m, m = (f + 2 ^ (51 - k)) / 2 ^ (52 - k) := ⟨_, rfl⟩
  rw [← hm]
  have hle : m ≤ 2 ^ k := by
    rw [hm]
    apply Nat.le_of_lt_succ
    rw [Nat.div_lt_iff_lt_mul gp, Nat.succ_mul, Nat.mul_comm, p1]
    omega
  have hmg : m * 2 ^ (52 - k) ≤ 4503599627370496 := by
    have := Nat.mul_le_mul_right (2 ^ (52 - k)) hle
    rw [Nat.mul_comm (2 ^ k), p1] at this
    exact this
  unfold iv
  rcases Nat.lt_or_eq_of_le hmg with c | c
  · have q1 : ((1023 + k) * 4503599627370496 + m * 2 ^ (52 - k)) / 4503599627370496 = 1023 + k := by omega
    have q2 : ((1023 + k) * 4503599627370496 + m * 2 ^ (52 - k)) % 4503599627370496 = m * 2 ^ (52 - k) := by omega
    have a1 : mg ((1023 + k) * 4503599627370496 + m * 2 ^ (52 - k)) = 4503599627370496 + m * 2 ^ (52 - k) := by unfold mg; rw [if_neg (by omega), q2]
    have a2 : pl ((1023 + k) * 4503599627370496 + m * 2 ^ (52 - k)) = 1022 + k := by unfold pl; rw [q1]; omega
    rw [a1, a2, show 1074 - (1022 + k) = 52 - k by omega, ← p1, Nat.mul_comm (2 ^ (52 - k)) (2 ^ k), ← Nat.add_mul, Nat.mul_div_cancel _ gp]
  · have hmk : m = 2 ^ k := by
      have : m * 2 ^ (52 - k) = 2 ^ k * 2 ^ (52 - k) := by rw [c, Nat.mul_comm (2 ^ k), p1]
      exact Nat.eq_of_mul_eq_mul_right gp this
    rw [c]
    have q1 : ((1023 + k) * 4503599627370496 + 4503599627370496) / 4503599627370496 = 1024 + k := by omega
    have q2 : ((1023 + k) * 4503599627370496 + 4503599627370496) % 4503599627370496 = 0 := by omega
    have a1 : mg ((1023 + k) * 4503599627370496 + 4503599627370496) = 4503599627370496 := by unfold mg; rw [if_neg (by omega), q2]
    have a2 : pl ((1023 + k) * 4503599627370496 + 4503599627370496) = 1023 + k := by unfold pl; rw [q1]; omega
    rw [a1, a2, show 1074 - (1023 + k) = 51 - k by omega, hmk, ← p4, Nat.mul_comm, Nat.mul_div_cancel _ hp, Nat.pow_succ]
    omega

theorem costR_small (q : Nat) (h : q / 4503599627370496 ≤ 1022) : costR q = 1 := by
  unfold costR
  rcases Nat.lt_or_eq_of_le h with h | h
  · rw [(rnd_bd q).1 (by omega), if_neg (by omega)]
    have : iv 0 = 0 := by unfold iv; rw [show mg 0 = 0 from rfl, Nat.zero_div]
    rw [this]
    rfl
  · have : rnd q = 4607182418800017408 := by unfold rnd; rw [h, if_neg (by omega), if_pos rfl]
    rw [this]
    decide +kernel

theorem costR_mid (q k : Nat) (h : q / 4503599627370496 = 1023 + k) (hk : k < 15) : costR q = (4503599627370496 + q % 4503599627370496 + 2 ^ (51 - k)) / 2 ^ (52 - k) := by
  have e := iv_rnd q k h (by omega)
  have hb := ((rnd_bd q).2.1 (by omega)).2 (by omega)
  unfold costR
  rw [if_neg (by omega), e]
  obtain ⟨p1, p2, _⟩ := pow_split k (by omega)
  have gp : 0 < 2 ^ (52 - k) := Nat.two_pow_pos _
  have cp : 0 < 2 ^ k := Nat.two_pow_pos _
  have : 1 ≤ (4503599627370496 + q % 4503599627370496 + 2 ^ (51 - k)) / 2 ^ (52 - k) := by
    rw [Nat.le_div_iff_mul_le gp]
    have : 2 ^ (52 - k) ≤ 2 ^ (52 - k) * 2 ^ k := Nat.le_mul_of_pos_right _ cp
    omega
  omega

/-- half the quotient costs half, but for one -/
theorem costR_half (q : Nat) (h1 : 4503599627370496 ≤ q) (h2 : q / 4503599627370496 < 1038) : 2 * costR (q - 4503599627370496) ≤ costR q + 2 ∧ costR q ≤ 2 * costR (q - 4503599627370496) + 2 := by
  rcases Nat.lt_or_ge (q / 4503599627370496) 1024 with c | c
  · rw [costR_small (q - 4503599627370496) (by omega)]
    rcases Nat.lt_or_ge (q / 4503599627370496) 1023 with c1 | c1
    · rw [costR_small q (by omega)]; omega
    · rw [costR_mid q 0 (by omega) (by omega)]
      simp only [Nat.sub_zero]
      omega
  · obtain ⟨k, hk⟩ : ∃ k, q / 4503599627370496 = 1023 + (k + 1) := ⟨q / 4503599627370496 - 1024, by omega⟩
    rw [costR_mid q (k + 1) hk (by omega), costR_mid (q - 4503599627370496) k (by omega) (by omega)]
    rw [show (q - 4503599627370496) % 4503599627370496 = q % 4503599627370496 by omega, show 51 - k = 52 - (k + 1) by omega, show 51 - (k + 1) = 50 - k by omega]
    have p3 : 2 * 2 ^ (50 - k) = 2 ^ (52 - (k + 1)) := by rw [← Nat.pow_succ']; congr 1; omega
    have p4 : 2 * 2 ^ (52 - (k + 1)) = 2 ^ (52 - k) := by rw [← Nat.pow_succ']; congr 1; omega
    have gp : 0 < 2 ^ (52 - (k + 1)) := Nat.two_pow_pos _
    rw [← p4]
    generalize 2 ^ (52 - (k + 1)) = g at *
    generalize 2 ^ (50 - k) = hh at *
    generalize q % 4503599627370496 = f at *
    have d1 := Nat.div_add_mod (4503599627370496 + f + hh) g
    have l1 := Nat.mod_lt (4503599627370496 + f + hh) gp
    have d2 := Nat.div_add_mod (4503599627370496 + f + g) (2 * g)
    have l2 := Nat.mod_lt (4503599627370496 + f + g) (show 0 < 2 * g by omega)
    generalize (4503599627370496 + f + hh) / g = X at *
    generalize (4503599627370496 + f + g) / (2 * g) = Z at *
    generalize (4503599627370496 + f + hh) % g = u at *
    generalize (4503599627370496 + f + g) % (2 * g) = v at *
    have e : 2 * g * Z = g * (2 * Z) := by rw [Nat.mul_comm 2 g, Nat.mul_assoc]
    rw [e] at d2
    have k1 : g * (2 * Z) < g * (X + 2) := by rw [Nat.mul_add]; omega
    have k2 : g * X < g * (2 * Z + 2) := by rw [Nat.mul_add]; omega
    have := Nat.lt_of_mul_lt_mul_left k1
    have := Nat.lt_of_mul_lt_mul_left k2
    omega
end Go.Proofs.Ythadlpiioabajaa.Fl
