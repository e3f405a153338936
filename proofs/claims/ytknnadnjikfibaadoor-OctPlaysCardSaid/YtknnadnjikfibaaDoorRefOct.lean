/- causeyref07.Bytes, Number: a number's bytes and the number of bytes, by definition. By an AI agent. -/
import Derived.Test.YtknnadnjikfibaaDoorLaid
import Derived.Test.YtknnadnjikfibaaDoorNumber
namespace Go.Proofs.YtknnadnjikfibaaDoor
open Go.RowKit

theorem Oct.num_from (r : List UInt8) : ∀ a : Nat, r.foldl (fun n b => 256 * n + b.toNat) a = a * 256 ^ r.length + r.foldl (fun n b => 256 * n + b.toNat) 0 := by
  induction r with
  | nil => intro a; simp
  | cons b r ih =>
    intro a
    simp only [List.foldl_cons, List.length_cons]
    rw [ih (256 * a + b.toNat), ih (256 * 0 + b.toNat), Nat.add_mul, Nat.pow_succ, Nat.mul_zero, Nat.zero_add, ← Nat.add_assoc]
    congr 2
    rw [Nat.mul_comm 256 a, Nat.mul_assoc, Nat.mul_comm 256]

theorem Oct.num_append (l r : List UInt8) : Oct.num (l ++ r) = Oct.num l * 256 ^ r.length + Oct.num r := by
  unfold Oct.num
  rw [List.foldl_append, Oct.num_from]

theorem Oct.div_pow (n j : Nat) : n / 256 ^ j / 256 = n / 256 ^ (j + 1) := by rw [Nat.div_div_eq_div_mul, Nat.pow_succ]

theorem ba_append (l r : List UInt8) : (⟨l.toArray⟩ : ByteArray) ++ ⟨r.toArray⟩ = ⟨(l ++ r).toArray⟩ := by
  refine ByteArray.ext ?_
  rw [ByteArray.data_append]
  simp

theorem Oct.be_cons (j n : Nat) : (⟨[UInt8.ofNat (n / 256 ^ j)].toArray⟩ : ByteArray) ++ ⟨(Oct.be j n).toArray⟩ = ⟨(Oct.be (j + 1) n).toArray⟩ := ba_append _ _

set_option maxHeartbeats 400000 in
theorem refBytes_any (n size : Nat) (w : World) (hn : n < 281474976710656) (hs : size ≤ 8) :
    Calls Tryd.prog 14 #[.int .i64 n, .int .i64 size] w fun e w' => e = .returned (.string ⟨(Oct.be size n).toArray⟩) ∧ Below w.heap.size w w' := by
  go_enter Tryd.func14, Tryd.ntmps14
  go_wp2
  go_loopw [0, 5, 6] (fun v s i wr => ∃ j m : Nat, ∃ b : ByteArray, j ≤ size ∧ m < 281474976710656 ∧ Hid (m = n / 256 ^ j) ∧ i = .int .i64 j ∧ v = .int .i64 m ∧ s = .string b ∧ Hid (b = ⟨(Oct.be j n).toArray⟩) ∧ Below w.heap.size w wr) (fun _ _ i _ => size - (intOf i).toNat)
  case atStart => exact ⟨0, n, _, Nat.zero_le _, hn, by show _ = _; simp, rfl, rfl, rfl, rfl, Below.refl _ _⟩
  case round =>
    obtain ⟨j, m, b, hj, hm, hme, rfl, rfl, rfl, hb, hbel⟩ := hrel
    by_cases hlt : j < size
    · have hbs : b.size = j := by rw [hb.out]; simp [ByteArray.size, Oct.be_length]
      have q : ¬ 9223372036854775807 < 1 + b.size := by omega
      clear hbs
      have HS := fun x => run_string_one wr x
      go_wp2
      refine ⟨⟨j + 1, m / 256, _, by omega, by omega, ?_, by go_num, by go_num, rfl, ?_, hbel.alloc hbel.size _⟩, by simp [intOf]; omega⟩
      · show _ = _
        rw [hme.out, Oct.div_pow]
      · show _ = _
        have e : UInt8.ofNat (m % 256) = UInt8.ofNat (n / 256 ^ j) := by
          rw [← hme.out]
          exact UInt8.toNat_inj.1 (by rw [UInt8.toNat_ofNat', UInt8.toNat_ofNat']; omega)
        rw [hb.out, e, ← Oct.be_cons]
    · obtain rfl : j = size := by omega
      go_wp2
      go_ret
      have hb := hb.out
      subst hb
      exact ⟨rfl, hbel⟩

set_option maxHeartbeats 400000 in
theorem refNumber_any (s : ByteArray) (w : World) (hs : s.size ≤ 7) :
    Calls Tryd.prog 15 #[.string s] w fun e w' => e = .returned (.int .i64 (Oct.num s.data.toList)) ∧ w = w' := by
  go_enter Tryd.func15, Tryd.ntmps15
  go_wp2
  go_loop [3, 4] (fun n i => ∃ k : Nat, ∃ m : Nat, k ≤ s.size ∧ i = .int .i64 k ∧ n = .int .i64 m ∧ Hid (m = Oct.num (s.data.toList.take k))) (fun _ i => s.size - (intOf i).toNat)
  case atStart => exact ⟨0, 0, Nat.zero_le _, rfl, rfl, rfl⟩
  case round =>
    obtain ⟨k, m, hk, rfl, rfl, hm⟩ := hrel
    by_cases hlt : k < s.size
    · have hb := s[k].toNat_lt
      have HT := Lib.hid (Oct.num_take s k hlt)
      have hm6 : m < 281474976710656 := by
        have h1 := Oct.num_lt k (s.data.toList.take k) (by rw [List.length_take]; simp; omega)
        have h2 : 256 ^ k ≤ 256 ^ 6 := Nat.pow_le_pow_right (by decide) (by omega)
        have h3 : 256 ^ 6 = 281474976710656 := by decide
        have := hm.out
        omega
      go_wp2
      refine ⟨⟨k + 1, 256 * m + s[k].toNat, by omega, by go_num, by go_num, ?_⟩, by simp [intOf]; omega⟩
      show _ = _
      rw [HT.out, hm.out]
    · go_wp2
      go_ret
      have := hm.out
      rw [List.take_of_length_le (by simp; omega)] at this
      subst this
      exact ⟨rfl, rfl⟩
end Go.Proofs.YtknnadnjikfibaaDoor
