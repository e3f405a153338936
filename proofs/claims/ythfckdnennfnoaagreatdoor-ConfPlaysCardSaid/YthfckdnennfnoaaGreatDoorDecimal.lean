/- oct.decimal and IpText: bytes in decimal. By an AI agent. -/
import Derived.Test.YthfckdnennfnoaaGreatDoorBytes
import Derived.Deep.RegionHeld3
import Derived.Deep.QuietTactic
import Derived.BigQuiet
namespace Go.Proofs.YthfckdnennfnoaaGreatDoor
open Go.RowKit
namespace Oct
/-- decimal, with fuel -/
def decF : Nat → Nat → List UInt8
  | 0, n => [UInt8.ofNat (48 + n % 10)]
  | f + 1, n => if n < 10 then [UInt8.ofNat (48 + n % 10)] else decF f (n / 10) ++ [UInt8.ofNat (48 + n % 10)]

/-- a byte in decimal -/
def dec8 (n : Nat) : List UInt8 := decF 2 n

theorem decF_fuel : ∀ (f n : Nat), n < 10 ^ (f + 1) → ∀ g, f ≤ g → decF g n = decF f n
  | 0, n, h, 0, _ => rfl
  | 0, n, h, g + 1, _ => by
    have : n < 10 := by simpa using h
    simp [decF, this]
  | f + 1, n, h, 0, hg => by omega
  | f + 1, n, h, g + 1, hg => by
    unfold decF
    have h2 : n / 10 < 10 ^ (f + 1) := by
      rw [Nat.div_lt_iff_lt_mul (by decide)]
      rw [Nat.pow_succ] at h
      exact h
    rw [decF_fuel f (n / 10) h2 g (by omega)]
def ipText (a b c d : UInt8) : List UInt8 := dec8 a.toNat ++ 46 :: (dec8 b.toNat ++ 46 :: (dec8 c.toNat ++ 46 :: dec8 d.toNat))

theorem decF_length : ∀ (f n : Nat), (decF f n).length ≤ f + 1
  | 0, n => by simp [decF]
  | f + 1, n => by
    unfold decF
    split
    · simp
    · have := decF_length f (n / 10)
      rw [List.length_append]; simp; omega

theorem mk_append_list (x : List UInt8) (y : Array UInt8) : (ByteArray.mk x.toArray ++ ByteArray.mk y) = ByteArray.mk (x ++ y.toList).toArray := by
  have := ByteArray.mk_append_mk x y.toList
  rw [Array.toArray_toList] at this
  exact this
end Oct

end Go.Proofs.YthfckdnennfnoaaGreatDoor
