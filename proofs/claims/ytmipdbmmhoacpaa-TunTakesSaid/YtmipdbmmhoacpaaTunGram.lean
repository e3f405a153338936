/- tun.eight, tun.of; causeyref12.Eight: a number's eight bytes. By an AI agent. -/
import Derived.Test.YtmipdbmmhoacpaaRefOct
import Derived.Lib.QuietBelow
namespace Go.Proofs.Ytmipdbmmhoacpaa
open Go.RowKit

theorem Oct.four_of (n : Nat) (h : n < 4294967296) : Oct.four (n : Int) = Oct.be 4 n := by
  unfold Oct.four
  rw [if_pos (by omega)]
  rfl

theorem Oct.be_low (n : Nat) : Oct.be 4 (n % 4294967296) = Oct.be 4 n := by
  simp only [Oct.be]
  congr 1
  · exact UInt8.toNat_inj.1 (by rw [UInt8.toNat_ofNat', UInt8.toNat_ofNat']; omega)
  · congr 1
    · exact UInt8.toNat_inj.1 (by rw [UInt8.toNat_ofNat', UInt8.toNat_ofNat']; omega)
    · congr 1
      · exact UInt8.toNat_inj.1 (by rw [UInt8.toNat_ofNat', UInt8.toNat_ofNat']; omega)
      · congr 1
        exact UInt8.toNat_inj.1 (by rw [UInt8.toNat_ofNat', UInt8.toNat_ofNat']; omega)

theorem Oct.be_eight (n : Nat) : Oct.be 8 n = Oct.be 4 (n / 4294967296) ++ Oct.be 4 (n % 4294967296) := by
  rw [Oct.be_low]
  simp only [Oct.be, List.cons_append, List.nil_append, Nat.div_div_eq_div_mul]

theorem u64_low (n : Nat) (h : n < 18446744073709551616) : bits .and .u64 (n : Int) 4294967295 = ((n % 4294967296 : Nat) : Int) := by
  have key : (BitVec.ofInt 64 (n : Int) &&& BitVec.ofInt 64 4294967295).toNat = n % 4294967296 := by
    rw [BitVec.toNat_and, BitVec.toNat_ofInt, BitVec.toNat_ofInt]
    rw [show ((n : Int) % ((2 ^ 64 : Nat) : Int)).toNat = n by omega, show ((4294967295 : Int) % ((2 ^ 64 : Nat) : Int)).toNat = 2 ^ 32 - 1 by decide, Nat.and_two_pow_sub_one_eq_mod]
  show IntKind.u64.wrap ((BitVec.ofInt 64 (n : Int) &&& BitVec.ofInt 64 4294967295).toNat : Nat) = _
  rw [key, IntKind.wrap_u64]
  omega

set_option maxHeartbeats 1000000 in
set_option maxRecDepth 100000 in
theorem eight_any (n : Nat) (w : World) (hn : n < 18446744073709551616) :
    Calls Try.prog 21 #[.int .u64 n] w fun e w' => e = .returned (.string ⟨(Oct.be 8 n).toArray⟩) ∧ Below w.heap.size w w' := by
  have h1 : n / 4294967296 < 4294967296 := by omega
  have h2 : n % 4294967296 < 4294967296 := by omega
  have F1 := fun w => four_any ((n : Int) / 4294967296) w
  have F2 := fun w => four_any ((n % 4294967296 : Nat) : Int) w
  rw [show ((n : Int) / 4294967296) = ((n / 4294967296 : Nat) : Int) from rfl, Oct.four_of _ h1, show ((n / 4294967296 : Nat) : Int) = ((n : Int) / 4294967296) from rfl] at F1
  rw [Oct.four_of _ h2] at F2
  have l1 := Oct.be_length 4 (n / 4294967296)
  have l2 := Oct.be_length 4 (n % 4294967296)
  rw [Oct.be_eight]
  have hU := u64_low n hn
  generalize Oct.be 4 (n / 4294967296) = s1 at F1 l1 ⊢
  generalize Oct.be 4 (n % 4294967296) = s2 at F2 l2 ⊢
  generalize n % 4294967296 = lo at F2 hU h2
  have F1 := Lib.hid F1
  have F2 := Lib.hid F2
  have q : ¬ 9223372036854775807 < s1.length + s2.length := by omega
  clear l1 l2 h1
  go_enter Try.func21, Try.ntmps21
  go_wp2_with fail
  refine (F1.out _).mono ?_
  rintro e w1 ⟨rfl, hb1⟩
  go_wp2_with fail
  refine (F2.out _).mono ?_
  rintro e w2 ⟨rfl, hb2⟩
  go_wp2_with fail
  go_ret
  exact ⟨rfl, hb1.trans (hb2.mono hb1.size)⟩

theorem Oct.num_from (r : List UInt8) : ∀ a : Nat, r.foldl (fun n b => 256 * n + b.toNat) a = a * 256 ^ r.length + r.foldl (fun n b => 256 * n + b.toNat) 0 := by
  induction r with
  | nil => intro a; simp
  | cons b r ih =>
    intro a
    simp only [List.foldl_cons, List.length_cons]
    rw [ih (256 * a + b.toNat), ih (256 * 0 + b.toNat), Nat.add_mul, Nat.pow_succ, Nat.mul_zero, Nat.zero_add, ← Nat.add_assoc]
    congr 2
    rw [Nat.mul_comm 256 a, Nat.mul_assoc, Nat.mul_comm 256]

theorem Oct.num_append (l r : List UInt8) : Oct.num (l ++ r) = Oct.num l * 256 ^ r.length + Oct.num r := by
  unfold Oct.num
  rw [List.foldl_append, Oct.num_from]

theorem u64_or (a b : Nat) (ha : a < 4294967296) (hb : b < 4294967296) : bits .or .u64 ((a : Int) * 4294967296) (b : Int) = ((a * 4294967296 + b : Nat) : Int) := by
  have key : (BitVec.ofInt 64 ((a : Int) * 4294967296) ||| BitVec.ofInt 64 (b : Int)).toNat = a * 4294967296 + b := by
    rw [BitVec.toNat_or, BitVec.toNat_ofInt, BitVec.toNat_ofInt]
    rw [show ((((a : Int) * 4294967296)) % ((2 ^ 64 : Nat) : Int)).toNat = a * 2 ^ 32 by omega, show (((b : Int)) % ((2 ^ 64 : Nat) : Int)).toNat = b by omega]
    rw [Nat.mul_comm, ← Nat.two_pow_add_eq_or_of_lt (show b < 2 ^ 32 by omega)]
  show IntKind.u64.wrap ((BitVec.ofInt 64 ((a : Int) * 4294967296) ||| BitVec.ofInt 64 (b : Int)).toNat : Nat) = _
  rw [key, IntKind.wrap_u64]
  omega

set_option maxHeartbeats 1000000 in
theorem of_any (s : ByteArray) (w : World) (hs : s.size = 8) :
    Calls Try.prog 22 #[.string s] w fun e w' => e = .returned (.int .u64 (Oct.num s.data.toList)) ∧ w = w' := by
  have e1 : (s.extract 0 4).data.toList = s.data.toList.take 4 := by simp [ByteArray.data_extract]
  have e2 : (s.extract 4 8).data.toList = s.data.toList.drop 4 := by
    simp only [ByteArray.data_extract, Array.toList_extract, List.extract_eq_take_drop]
    exact List.take_of_length_le (by simp; omega)
  have l1 : (s.data.toList.take 4).length = 4 := by simp; omega
  have l2 : (s.data.toList.drop 4).length = 4 := by simp; omega
  have N1 := fun w => number_any (s.extract 0 4) w (by simp; omega)
  have N2 := fun w => number_any (s.extract 4 8) w (by simp; omega)
  rw [e1] at N1
  rw [e2] at N2
  have b1 := Oct.num_lt 4 _ l1
  have b2 := Oct.num_lt 4 _ l2
  have hn : Oct.num s.data.toList = Oct.num (s.data.toList.take 4) * 4294967296 + Oct.num (s.data.toList.drop 4) := by
    have := Oct.num_append (s.data.toList.take 4) (s.data.toList.drop 4)
    rw [List.take_append_drop, l2, show 256 ^ 4 = 4294967296 from by decide] at this
    exact this
  rw [hn]
  have b1 : Oct.num (s.data.toList.take 4) < 4294967296 := Nat.lt_of_lt_of_eq b1 (by decide)
  have b2 : Oct.num (s.data.toList.drop 4) < 4294967296 := Nat.lt_of_lt_of_eq b2 (by decide)
  generalize Oct.num (s.data.toList.take 4) = a at *
  generalize Oct.num (s.data.toList.drop 4) = b at *
  have hO := u64_or a b b1 b2
  have N1 := Lib.hid N1
  have N2 := Lib.hid N2
  clear e1 e2 l1 l2 hn
  go_enter Try.func22, Try.ntmps22
  go_wp2_with fail
  refine (N1.out _).mono ?_
  rintro e w1 ⟨rfl, rfl⟩
  go_wp2_with fail
  trace_state
  refine (N2.out _).mono ?_
  rintro e w2 ⟨rfl, rfl⟩
  go_wp2_with fail
  go_ret
  exact ⟨rfl, rfl⟩
end Go.Proofs.Ytmipdbmmhoacpaa
