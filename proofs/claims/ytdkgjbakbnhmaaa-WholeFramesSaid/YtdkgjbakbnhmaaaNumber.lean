/- oct.Number: the number of bytes, the highest first. By an AI agent. -/
import Derived.Test.YtdkgjbakbnhmaaaBytes
import Derived.Test.YtdkgjbakbnhmaaaBits
namespace Go.Proofs.Ytdkgjbakbnhmaaa
open Go.RowKit
namespace Oct
/-- the number of bytes -/
def num (l : List UInt8) : Nat := l.foldl (fun n b => 256 * n + b.toNat) 0

theorem num_snoc (l : List UInt8) (b : UInt8) : num (l ++ [b]) = 256 * num l + b.toNat := by simp [num]

theorem num_lt : ∀ (k : Nat) (l : List UInt8), l.length = k → num l < 256 ^ k
  | 0, l, h => by
    rw [List.eq_nil_of_length_eq_zero h]; simp [num]
  | k + 1, l, h => by
    obtain ⟨l', b, rfl⟩ : ∃ l' b, l = l' ++ [b] := ⟨l.dropLast, l.getLast (by intro e; simp [e] at h), (List.dropLast_concat_getLast _).symm⟩
    rw [num_snoc]
    have := num_lt k l' (by simpa using h)
    have := b.toNat_lt
    rw [Nat.pow_succ]
    omega

theorem num_take (s : ByteArray) (k : Nat) (h : k < s.size) : num (s.data.toList.take (k + 1)) = 256 * num (s.data.toList.take k) + s[k].toNat := by
  have : s.data.toList.take (k + 1) = s.data.toList.take k ++ [s[k]] := by
    rw [List.take_succ_eq_append_getElem (by simpa using h)]; rfl
  rw [this, num_snoc]

theorem num_take_lt (s : ByteArray) (k : Nat) (h : k ≤ s.size) (h7 : k ≤ 7) : num (s.data.toList.take k) < 72057594037927936 := by
  have h1 := num_lt k (s.data.toList.take k) (by rw [List.length_take]; simp; omega)
  have h2 : 256 ^ k ≤ 256 ^ 7 := Nat.pow_le_pow_right (by decide) h7
  have h3 : 256 ^ 7 = 72057594037927936 := by decide
  omega

theorem or_byte (n b : Nat) (hn : n < 281474976710656) (hb : b < 256) : bits .or .i64 ((n : Int) * 256) (b : Int) = ((256 * n + b : Nat) : Int) := by
  have e1 : (BitVec.ofInt 64 ((n : Int) * 256)).toNat = n * 256 := by
    rw [BitVec.toNat_ofInt]; omega
  have e2 : (BitVec.ofInt 64 (b : Int)).toNat = b := by
    rw [BitVec.toNat_ofInt]; omega
  have key : (BitVec.ofInt 64 ((n : Int) * 256) ||| BitVec.ofInt 64 (b : Int)).toNat = 256 * n + b := by
    rw [BitVec.toNat_or, e1, e2]
    have := Nat.two_pow_add_eq_or_of_lt (i := 8) (b := b) (by simpa using hb) n
    rw [Nat.mul_comm n 256]
    simpa using this.symm
  show IntKind.i64.wrap ((BitVec.ofInt 64 ((n : Int) * 256) ||| BitVec.ofInt 64 (b : Int)).toNat : Nat) = _
  rw [key, IntKind.wrap_i64]
  omega
end Oct

set_option maxHeartbeats 400000 in
theorem number_any (s : ByteArray) (w : World) (hs : s.size ≤ 7) :
    Calls Try.prog 27 #[.string s] w fun e w' => e = .returned (.tuple #[.int .i64 (Oct.num s.data.toList), .int .i64 0]) ∧ w = w' := by
  go_enter Try.func27, Try.ntmps27
  go_wp2
  go_loop [4, 11] (fun n i => ∃ k : Nat, ∃ m : Nat, k ≤ s.size ∧ i = .int .i64 k ∧ n = .int .i64 m ∧ Hid (m = Oct.num (s.data.toList.take k))) (fun _ i => s.size - (intOf i).toNat)
  case atStart => exact ⟨0, 0, Nat.zero_le _, rfl, rfl, rfl⟩
  case round =>
    obtain ⟨k, m, hk, rfl, rfl, hm⟩ := hrel
    by_cases hlt : k < s.size
    · have hb := s[k].toNat_lt
      have HT := Lib.hid (Oct.num_take s k hlt)
      have hm6 : m < 281474976710656 := by
        have h1 := Oct.num_lt k (s.data.toList.take k) (by rw [List.length_take]; simp; omega)
        have h2 : 256 ^ k ≤ 256 ^ 6 := Nat.pow_le_pow_right (by decide) (by omega)
        have h3 : 256 ^ 6 = 281474976710656 := by decide
        have := hm.out
        omega
      have ho := Oct.or_byte m s[k].toNat hm6 hb
      go_wp2
      refine ⟨⟨k + 1, 256 * m + s[k].toNat, by omega, by go_num, by go_num, ?_⟩, by simp [intOf]; omega⟩
      show _ = _
      rw [HT.out, hm.out]
    · go_wp2
      go_ret2
      refine ⟨?_, rfl⟩
      have := hm.out
      rw [List.take_of_length_le (by simp; omega)] at this
      rw [← this]
      rfl

theorem number_long (s : ByteArray) (w : World) (hs : 7 < s.size) :
    Calls Try.prog 27 #[.string s] w fun e w' => e = .returned (.tuple #[.int .i64 0, .int .i64 1]) ∧ w = w' := by
  go_enter Try.func27, Try.ntmps27
  go_wp2
  go_ret2
  exact ⟨rfl, rfl⟩

end Go.Proofs.Ytdkgjbakbnhmaaa
