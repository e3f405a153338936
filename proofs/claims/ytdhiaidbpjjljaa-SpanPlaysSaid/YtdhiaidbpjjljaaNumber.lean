/- oct.Number: the number of bytes, the highest first. By an AI agent. -/
import Derived.Test.YtdhiaidbpjjljaaBytes
import Derived.Test.YtdhiaidbpjjljaaBits
namespace Go.Proofs.Ytdhiaidbpjjljaa
open Go.RowKit
namespace Oct
/-- the number of bytes -/
def num (l : List UInt8) : Nat := l.foldl (fun n b => 256 * n + b.toNat) 0

theorem num_snoc (l : List UInt8) (b : UInt8) : num (l ++ [b]) = 256 * num l + b.toNat := by simp [num]

theorem num_lt : ∀ (k : Nat) (l : List UInt8), l.length = k → num l < 256 ^ k
  | 0, l, h => by
    rw [List.eq_nil_of_length_eq_zero h]; simp [num]
  | k + 1, l, h => by
    obtain ⟨l', b, rfl⟩ : ∃ l' b, l = l' ++ [b] := ⟨l.dropLast, l.getLast (by intro e; simp [e] at h), (List.dropLast_concat_getLast _).symm⟩
    rw [num_snoc]
    have := num_lt k l' (by simpa using h)
    have := b.toNat_lt
    rw [Nat.pow_succ]
    omega

theorem num_take (s : ByteArray) (k : Nat) (h : k < s.size) : num (s.data.toList.take (k + 1)) = 256 * num (s.data.toList.take k) + s[k].toNat := by
  have : s.data.toList.take (k + 1) = s.data.toList.take k ++ [s[k]] := by
    rw [List.take_succ_eq_append_getElem (by simpa using h)]; rfl
  rw [this, num_snoc]

theorem num_take_lt (s : ByteArray) (k : Nat) (h : k ≤ s.size) (h7 : k ≤ 7) : num (s.data.toList.take k) < 72057594037927936 := by
  have h1 := num_lt k (s.data.toList.take k) (by rw [List.length_take]; simp; omega)
  have h2 : 256 ^ k ≤ 256 ^ 7 := Nat.pow_le_pow_right (by decide) h7
  have h3 : 256 ^ 7 = 72057594037927936 := by decide
  omega

theorem or_byte (n b : Nat) (hn : n < 281474976710656) (hb : b < 256) : bits .or .i64 ((n : Int) * 256) (b : Int) = ((256 * n + b : Nat) : Int) := by
  have e1 : (BitVec.ofInt 64 ((n : Int) * 256)).toNat = n * 256 := by
    rw [BitVec.toNat_ofInt]; omega
  have e2 : (BitVec.ofInt 64 (b : Int)).toNat = b := by
    rw [BitVec.toNat_ofInt]; omega
  have key : (BitVec.ofInt 64 ((n : Int) * 256) ||| BitVec.ofInt 64 (b : Int)).toNat = 256 * n + b := by
    rw [BitVec.toNat_or, e1, e2]
    have := Nat.two_pow_add_eq_or_of_lt (i := 8) (b := b) (by simpa using hb) n
    rw [Nat.mul_comm n 256]
    simpa using this.symm
  show IntKind.i64.wrap ((BitVec.ofInt 64 ((n : Int) * 256) ||| BitVec.ofInt 64 (b : Int)).toNat : Nat) = _
  rw [key, IntKind.wrap_i64]
  omega
end Oct


end Go.Proofs.Ytdhiaidbpjjljaa
