/- Small laws on bits of an int, of no function. By an AI agent. -/
import Derived.Laws.BitsLemmas
import Derived.Laws.BitsAllLaws
import Derived.RowKit
import Derived.IntWalk
namespace Go.Proofs.Ytdkgjbakbnhmaaa.Bits
open Go.RowKit

theorem i64_and_mask (n : Int) (k : Nat) (hk : k < 63) : bits .and .i64 n ((2 ^ k - 1 : Nat) : Int) = n % ((2 ^ k : Nat) : Int) := by
  have hpow : (2 : Nat) ^ k * 2 ^ (64 - k) = 2 ^ 64 := by rw [← Nat.pow_add]; congr 1; omega
  have hlt : (2 : Nat) ^ k ≤ 2 ^ 62 := Nat.pow_le_pow_right (by decide) (by omega)
  have hpos : 0 < (2 : Nat) ^ k := Nat.two_pow_pos k
  have hm : (BitVec.ofInt 64 ((2 ^ k - 1 : Nat) : Int)).toNat = 2 ^ k - 1 := by
    rw [BitVec.toNat_ofInt]
    have : (2 : Nat) ^ k - 1 < 2 ^ 64 := by omega
    omega
  have key : (BitVec.ofInt 64 n &&& BitVec.ofInt 64 ((2 ^ k - 1 : Nat) : Int)).toNat = (n % ((2 ^ 64 : Nat) : Int)).toNat % 2 ^ k := by
    rw [BitVec.toNat_and, BitVec.toNat_ofInt, hm, Nat.and_two_pow_sub_one_eq_mod]
  show IntKind.i64.wrap ((BitVec.ofInt 64 n &&& BitVec.ofInt 64 ((2 ^ k - 1 : Nat) : Int)).toNat : Nat) = _
  rw [key, IntKind.wrap_i64]
  have e1 : (((n % ((2 ^ 64 : Nat) : Int)).toNat % 2 ^ k : Nat) : Int) = n % ((2 ^ k : Nat) : Int) := by
    rw [Int.natCast_emod, Int.toNat_of_nonneg (Int.emod_nonneg _ (by decide))]
    exact Int.emod_emod_of_dvd _ ⟨((2 ^ (64 - k) : Nat) : Int), by rw [← Int.natCast_mul, hpow]⟩
  rw [e1]
  have h0 := Int.emod_nonneg n (show ((2 ^ k : Nat) : Int) ≠ 0 by omega)
  have h1 := Int.emod_lt_of_pos n (show (0 : Int) < ((2 ^ k : Nat) : Int) by omega)
  generalize n % ((2 ^ k : Nat) : Int) = z at *
  generalize (2 : Nat) ^ k = p at *
  omega

theorem i64_and65535 (n : Int) : bits .and .i64 n 65535 = n % 65536 := i64_and_mask n 16 (by decide)
theorem i64_and255 (n : Int) : bits .and .i64 n 255 = n % 256 := i64_and_mask n 8 (by decide)

theorem wrap64_id (n : Int) (h0 : -9223372036854775808 ≤ n) (h1 : n ≤ 9223372036854775807) : wrap64 n = n := by
  unfold wrap64; omega
end Go.Proofs.Ytdkgjbakbnhmaaa.Bits
