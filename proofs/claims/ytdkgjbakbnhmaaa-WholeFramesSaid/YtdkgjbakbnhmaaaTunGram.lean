/- tun.eight, tun.of; causeyref12.Eight: a number's eight bytes. By an AI agent. -/
import Derived.Test.YtdkgjbakbnhmaaaRefOct
import Derived.Lib.QuietBelow
namespace Go.Proofs.Ytdkgjbakbnhmaaa
open Go.RowKit

theorem Oct.four_of (n : Nat) (h : n < 4294967296) : Oct.four (n : Int) = Oct.be 4 n := by
  unfold Oct.four
  rw [if_pos (by omega)]
  rfl

theorem Oct.be_low (n : Nat) : Oct.be 4 (n % 4294967296) = Oct.be 4 n := by
  simp only [Oct.be]
  congr 1
  · exact UInt8.toNat_inj.1 (by rw [UInt8.toNat_ofNat', UInt8.toNat_ofNat']; omega)
  · congr 1
    · exact UInt8.toNat_inj.1 (by rw [UInt8.toNat_ofNat', UInt8.toNat_ofNat']; omega)
    · congr 1
      · exact UInt8.toNat_inj.1 (by rw [UInt8.toNat_ofNat', UInt8.toNat_ofNat']; omega)
      · congr 1
        exact UInt8.toNat_inj.1 (by rw [UInt8.toNat_ofNat', UInt8.toNat_ofNat']; omega)

theorem Oct.be_eight (n : Nat) : Oct.be 8 n = Oct.be 4 (n / 4294967296) ++ Oct.be 4 (n % 4294967296) := by
  rw [Oct.be_low]
  simp only [Oct.be, List.cons_append, List.nil_append, Nat.div_div_eq_div_mul]

theorem u64_low (n : Nat) (h : n < 18446744073709551616) : bits .and .u64 (n : Int) 4294967295 = ((n % 4294967296 : Nat) : Int) := by
  have key : (BitVec.ofInt 64 (n : Int) &&& BitVec.ofInt 64 4294967295).toNat = n % 4294967296 := by
    rw [BitVec.toNat_and, BitVec.toNat_ofInt, BitVec.toNat_ofInt]
    rw [show ((n : Int) % ((2 ^ 64 : Nat) : Int)).toNat = n by omega, show ((4294967295 : Int) % ((2 ^ 64 : Nat) : Int)).toNat = 2 ^ 32 - 1 by decide, Nat.and_two_pow_sub_one_eq_mod]
  show IntKind.u64.wrap ((BitVec.ofInt 64 (n : Int) &&& BitVec.ofInt 64 4294967295).toNat : Nat) = _
  rw [key, IntKind.wrap_u64]
  omega

theorem u64_or (a b : Nat) (ha : a < 4294967296) (hb : b < 4294967296) : bits .or .u64 ((a : Int) * 4294967296) (b : Int) = ((a * 4294967296 + b : Nat) : Int) := by
  have key : (BitVec.ofInt 64 ((a : Int) * 4294967296) ||| BitVec.ofInt 64 (b : Int)).toNat = a * 4294967296 + b := by
    rw [BitVec.toNat_or, BitVec.toNat_ofInt, BitVec.toNat_ofInt]
    rw [show ((((a : Int) * 4294967296)) % ((2 ^ 64 : Nat) : Int)).toNat = a * 2 ^ 32 by omega, show (((b : Int)) % ((2 ^ 64 : Nat) : Int)).toNat = b by omega]
    rw [Nat.mul_comm, ← Nat.two_pow_add_eq_or_of_lt (show b < 2 ^ 32 by omega)]
  show IntKind.u64.wrap ((BitVec.ofInt 64 ((a : Int) * 4294967296) ||| BitVec.ofInt 64 (b : Int)).toNat : Nat) = _
  rw [key, IntKind.wrap_u64]
  omega

end Go.Proofs.Ytdkgjbakbnhmaaa
