/- math.Round of a double that is not below 0. By an AI agent. -/
import Derived.Test.YthadlpiioabajaaBytes
import Derived.Test.YthadlpiioabajaaFloatOrd
import Derived.Laws.FloatArith
import Derived.Outline
namespace Go.Proofs.Ythadlpiioabajaa
open Go.RowKit

namespace Fl
/-- the rung of the nearest whole number, a half upward -/
def rnd (r : Nat) : Nat :=
  if r / 4503599627370496 < 1022 then 0
  else if r / 4503599627370496 = 1022 then 4607182418800017408
  else if r / 4503599627370496 < 1075 then (r + 2251799813685248 / 2 ^ (r / 4503599627370496 - 1023)) / 2 ^ (1075 - r / 4503599627370496) * 2 ^ (1075 - r / 4503599627370496)
  else r

theorem u64_and (x y : Nat) (hx : x < 18446744073709551616) (hy : y < 18446744073709551616) : bits .and .u64 (x : Int) (y : Int) = ((x &&& y : Nat) : Int) := by
  have ex : (BitVec.ofInt 64 (x : Int)).toNat = x := by rw [BitVec.ofInt_natCast, BitVec.toNat_ofNat]; omega
  have ey : (BitVec.ofInt 64 (y : Int)).toNat = y := by rw [BitVec.ofInt_natCast, BitVec.toNat_ofNat]; omega
  show IntKind.u64.wrap ((BitVec.ofInt 64 (x : Int) &&& BitVec.ofInt 64 (y : Int)).toNat : Int) = _
  rw [BitVec.toNat_and, ex, ey]
  have h : x &&& y ≤ x := Nat.and_le_left
  show (((x &&& y : Nat) : Int)) % 18446744073709551616 = _
  omega

theorem u64_andNot_mask (x j : Nat) (hx : x < 18446744073709551616) (hj : j ≤ 63) : bits .andNot .u64 (x : Int) ((2 ^ j - 1 : Nat) : Int) = ((x / 2 ^ j * 2 ^ j : Nat) : Int) := by
  have hp : 2 ^ j ≤ 2 ^ 63 := Nat.pow_le_pow_right (by decide) hj
  have hpos : 0 < 2 ^ j := Nat.two_pow_pos j
  have ex : (BitVec.ofInt 64 (x : Int)).toNat = x := by rw [BitVec.ofInt_natCast, BitVec.toNat_ofNat]; omega
  have ey : (BitVec.ofInt 64 ((2 ^ j - 1 : Nat) : Int)).toNat = 2 ^ j - 1 := by rw [BitVec.ofInt_natCast, BitVec.toNat_ofNat]; omega
  show IntKind.u64.wrap ((BitVec.ofInt 64 (x : Int) &&& ~~~ BitVec.ofInt 64 ((2 ^ j - 1 : Nat) : Int)).toNat : Int) = _
  rw [BitVec.toNat_and, BitVec.toNat_not, ex, ey]
  have key : x &&& (2 ^ 64 - 1 - (2 ^ j - 1)) = x / 2 ^ j * 2 ^ j := by
    rw [show 2 ^ 64 - 1 - (2 ^ j - 1) = 2 ^ 64 - ((2 ^ j - 1) + 1) by omega, ← Nat.shiftRight_eq_div_pow, ← Nat.shiftLeft_eq]
    apply Nat.eq_of_testBit_eq
    intro i
    rw [Nat.testBit_and, Nat.testBit_two_pow_sub_succ (by omega), Nat.testBit_two_pow_sub_one, Nat.testBit_shiftLeft, Nat.testBit_shiftRight]
    by_cases hij : i < j
    · simp [hij]; omega
    · by_cases hi : i < 64
      · have : j + (i - j) = i := by omega
        simp [hij, hi, this]
        omega
      · have : x.testBit i = false := Nat.testBit_lt_two_pow (Nat.lt_of_lt_of_le (show x < 2 ^ 64 by omega) (Nat.pow_le_pow_right (by decide) (by omega)))
        have h2 : j + (i - j) = i := by omega
        simp [this, h2]
  rw [key]
  have : x / 2 ^ j * 2 ^ j ≤ x := Nat.div_mul_le_self _ _
  show (((x / 2 ^ j * 2 ^ j : Nat) : Int)) % 18446744073709551616 = _
  omega

theorem e_eq (r : Nat) (h : r ≤ inf) : bits .and .u64 ((r : Int) / 4503599627370496) 2047 = ((r / 4503599627370496 : Nat) : Int) := by
  unfold inf at h
  have e : ((r : Int) / 4503599627370496) = ((r / 4503599627370496 : Nat) : Int) := by omega
  rw [e]
  have := u64_and (r / 4503599627370496) 2047 (by omega) (by omega)
  rw [show ((2047 : Nat) : Int) = 2047 from rfl] at this
  rw [this, show 2047 = 2 ^ 11 - 1 from rfl, Nat.and_two_pow_sub_one_eq_mod]
  omega

theorem s_eq (r : Nat) (h : r ≤ inf) : bits .and .u64 (r : Int) 9223372036854775808 = 0 := by
  unfold inf at h
  have := u64_and r 9223372036854775808 (by omega) (by omega)
  rw [show ((9223372036854775808 : Nat) : Int) = 9223372036854775808 from rfl] at this
  rw [this, show 9223372036854775808 = 2 ^ 63 from rfl]
  have : r &&& 2 ^ 63 = 0 := by
    apply Nat.eq_of_testBit_eq
    intro i
    rw [Nat.testBit_and, Nat.testBit_two_pow, Nat.zero_testBit]
    by_cases h63 : 63 = i
    · subst h63
      rw [Nat.testBit_lt_two_pow (show r < 2 ^ 63 by omega)]
      rfl
    · simp [h63]
  rw [this]
  rfl

theorem cut_eq' (r k : Nat) (h : r ≤ inf) (hk : k < 52) : bits .andNot .u64 (IntKind.u64.wrap ((r : Int) + 2251799813685248 / 2 ^ k)) (4503599627370495 / 2 ^ k) = (((r + 2251799813685248 / 2 ^ k) / 2 ^ (52 - k) * 2 ^ (52 - k) : Nat) : Int) := by
  unfold inf at h
  have hp : 0 < 2 ^ k := Nat.two_pow_pos k
  have e1 : (2251799813685248 : Int) / 2 ^ k = ((2251799813685248 / 2 ^ k : Nat) : Int) := by rw [Int.natCast_ediv, Int.natCast_pow]; rfl
  have e2 : (4503599627370495 : Int) / 2 ^ k = ((2 ^ (52 - k) - 1 : Nat) : Int) := by
    have : (4503599627370495 : Nat) / 2 ^ k = 2 ^ (52 - k) - 1 := by
      have e : (4503599627370496 : Nat) = 2 ^ (52 - k) * 2 ^ k := by rw [← Nat.pow_add, Nat.sub_add_cancel (by omega)]
      have h1 : 4503599627370495 / 2 ^ k < 2 ^ (52 - k) := by rw [Nat.div_lt_iff_lt_mul hp]; omega
      have h2 : 2 ^ (52 - k) - 1 ≤ 4503599627370495 / 2 ^ k := by
        rw [Nat.le_div_iff_mul_le hp, Nat.sub_mul]
        omega
      omega
    rw [← this, Int.natCast_ediv, Int.natCast_pow]
    rfl
  have e3 : 2251799813685248 / 2 ^ k ≤ 2251799813685248 := Nat.div_le_self _ _
  rw [e1, e2]
  clear e1 e2
  generalize 2251799813685248 / 2 ^ k = d at *
  have e4 : IntKind.u64.wrap ((r : Int) + (d : Int)) = ((r + d : Nat) : Int) := by
    show ((r : Int) + (d : Int)) % 18446744073709551616 = _
    omega
  rw [e4]
  exact u64_andNot_mask _ _ (by omega) (by omega)
end Fl

theorem run_bits (b : Nat) (w : World) : (callFunc 25 #[.float .f64 b]).run Try.prog w = .ok (.value (.int .u64 (b : Int))) w := by
  rw [run_callFunc_extern Try.func25 (by kernel_rfl) (by kernel_rfl) (by kernel_rfl) (e := Extern.MathFloatBits.float64bits) (by kernel_rfl)]
  rfl
theorem run_frombits (n : Int) (w : World) : (callFunc 26 #[.int .u64 n]).run Try.prog w = .ok (.value (.float .f64 n.toNat)) w := by
  rw [run_callFunc_extern Try.func26 (by kernel_rfl) (by kernel_rfl) (by kernel_rfl) (e := Extern.MathFloatBits.float64frombits) (by kernel_rfl)]
  rfl

theorem ret_float {a b : Nat} (h : a = b) : Ending.returned (.float .f64 a) = .returned (.float .f64 b) := by rw [h]

theorem Fl.or_one : bits .or .u64 0 4607182418800017408 = 4607182418800017408 := by decide +kernel

set_option maxRecDepth 100000 in
theorem round_lo (r E : Nat) (w : World) (he : bits .and .u64 ((r : Int) / 4503599627370496) 2047 = (E : Int)) (h : E < 1022) : Calls Try.prog 18 #[.float .f64 r] w fun e w' => e = .returned (.float .f64 (bits .and .u64 (r : Int) 9223372036854775808).toNat) ∧ w = w' := by
  have rb := run_bits
  have rf := run_frombits
  have q : ((E : Int) == 1022) = false := by simp; omega
  go_enter Try.func18, Try.ntmps18
  go_wp2_with fail
  go_ret
  exact ⟨rfl, rfl⟩

set_option maxRecDepth 100000 in
theorem round_half (r : Nat) (w : World) (he : bits .and .u64 ((r : Int) / 4503599627370496) 2047 = 1022) : Calls Try.prog 18 #[.float .f64 r] w fun e w' => e = .returned (.float .f64 (bits .or .u64 (bits .and .u64 (r : Int) 9223372036854775808) 4607182418800017408).toNat) ∧ w = w' := by
  have rb := run_bits
  have rf := run_frombits
  go_enter Try.func18, Try.ntmps18
  go_wp2_with fail
  go_ret
  exact ⟨rfl, rfl⟩

set_option maxRecDepth 100000 in
theorem round_mid (r k : Nat) (w : World) (he : bits .and .u64 ((r : Int) / 4503599627370496) 2047 = 1023 + (k : Int)) (hk : k < 52) : Calls Try.prog 18 #[.float .f64 r] w
    fun e w' => e = .returned (.float .f64 (bits BinOp.andNot IntKind.u64 (IntKind.u64.wrap ((r : Int) + 2251799813685248 / 2 ^ k)) (4503599627370495 / 2 ^ k)).toNat) ∧ w = w' := by
  have rb := run_bits
  have rf := run_frombits
  go_enter Try.func18, Try.ntmps18
  go_wp2_with fail
  go_ret
  exact ⟨rfl, rfl⟩

set_option maxRecDepth 100000 in
theorem round_hi (r E : Nat) (w : World) (he : bits .and .u64 ((r : Int) / 4503599627370496) 2047 = (E : Int)) (h : 1075 ≤ E) : Calls Try.prog 18 #[.float .f64 r] w fun e w' => e = .returned (.float .f64 r) ∧ w = w' := by
  have rb := run_bits
  have rf := run_frombits
  go_enter Try.func18, Try.ntmps18
  go_wp2_with fail
  go_ret
  exact ⟨rfl, rfl⟩

theorem round_any (r : Nat) (w : World) (hr : r ≤ Fl.inf) : Calls Try.prog 18 #[.float .f64 r] w fun e w' => e = .returned (.float .f64 (Fl.rnd r)) ∧ w = w' := by
  have he := Fl.e_eq r hr
  have hE : ∃ E, E = r / 4503599627370496 := ⟨_, rfl⟩
  obtain ⟨E, hE⟩ := hE
  have hd : Fl.rnd r = if E < 1022 then 0 else if E = 1022 then 4607182418800017408 else if E < 1075 then (r + 2251799813685248 / 2 ^ (E - 1023)) / 2 ^ (1075 - E) * 2 ^ (1075 - E) else r := by rw [hE]; rfl
  rw [hd]
  rw [← hE] at he
  rcases (show E < 1022 ∨ E = 1022 ∨ (∃ k, k < 52 ∧ E = 1023 + k) ∨ 1075 ≤ E from by
    rcases Nat.lt_or_ge E 1023 with h | h
    · omega
    · rcases Nat.lt_or_ge E 1075 with h2 | h2
      · exact Or.inr (Or.inr (Or.inl ⟨E - 1023, by omega, by omega⟩))
      · omega) with h | h | ⟨k, hk, h⟩ | h
  · have := round_lo r E w he h
    rw [Fl.s_eq r hr] at this
    rw [if_pos h]
    exact this
  · rw [h] at he
    have := round_half r w he
    rw [Fl.s_eq r hr, Fl.or_one] at this
    rw [if_neg (by omega), if_pos h]
    exact this
  · have he' : bits .and .u64 ((r : Int) / 4503599627370496) 2047 = 1023 + (k : Int) := by rw [he, h]; omega
    have := round_mid r k w he' hk
    rw [Fl.cut_eq' r k hr hk, Int.toNat_natCast] at this
    rw [if_neg (by omega), if_neg (by omega), if_pos (by omega), h, show 1023 + k - 1023 = k by omega, show 1075 - (1023 + k) = 52 - k by omega]
    exact this
  · have := round_hi r E w he h
    rw [if_neg (by omega), if_neg (by omega), if_neg (by omega)]
    exact this
end Go.Proofs.Ythadlpiioabajaa
