/- A number's bytes and the number of bytes, back and forth. By an AI agent. -/
import Derived.Test.YtdkgjbakbnhmaaaRefOct
namespace Go.Proofs.Ytdkgjbakbnhmaaa.Oct

theorem byte_add (x a : Nat) : UInt8.ofNat (x + 256 * a) = UInt8.ofNat x := UInt8.toNat_inj.1 (by rw [UInt8.toNat_ofNat', UInt8.toNat_ofNat']; omega)

theorem be_add : ∀ (k n a : Nat), be k (n + 256 ^ k * a) = be k n
  | 0, _, _ => rfl
  | k + 1, n, a => by
    have e : n + 256 ^ (k + 1) * a = n + 256 ^ k * (256 * a) := by rw [Nat.pow_succ, Nat.mul_assoc]
    simp only [be]
    rw [e, be_add k n (256 * a), Nat.add_mul_div_left _ _ (Nat.pow_pos (by decide)), byte_add]

theorem num_cons (x : UInt8) (l : List UInt8) : num (x :: l) = x.toNat * 256 ^ l.length + num l := by
  have := num_append [x] l
  rw [show num [x] = x.toNat from by simp [num]] at this
  exact this

theorem be_num : ∀ (l : List UInt8), be l.length (num l) = l
  | [] => rfl
  | x :: l => by
    have hlt := num_lt l.length l rfl
    have hx := x.toNat_lt
    rw [num_cons, List.length_cons]
    simp only [be]
    rw [Nat.add_comm, Nat.mul_comm x.toNat, Nat.add_mul_div_left _ _ (Nat.pow_pos (by decide)), Nat.div_eq_of_lt hlt, Nat.zero_add, be_add, be_num l, UInt8.ofNat_toNat]

theorem num_be : ∀ (k n : Nat), n < 256 ^ k → num (be k n) = n
  | 0, n, h => by simp at h; simp [be, num, h]
  | k + 1, n, h => by
    have hp : 0 < 256 ^ k := Nat.pow_pos (by decide)
    rw [Nat.pow_succ] at h
    have hd : n / 256 ^ k < 256 := Nat.div_lt_of_lt_mul h
    have e : be k n = be k (n % 256 ^ k) := by
      have := be_add k (n % 256 ^ k) (n / 256 ^ k)
      rw [Nat.mod_add_div] at this
      exact this
    simp only [be]
    rw [num_cons, be_length, e, num_be k _ (Nat.mod_lt _ hp), UInt8.toNat_ofNat', Nat.mod_eq_of_lt hd, Nat.mul_comm]
    exact Nat.div_add_mod n (256 ^ k)

theorem ext_toList (s : ByteArray) (i j : Nat) : (s.extract i j).data.toList = (s.data.toList.drop i).take (j - i) := by
  simp [ByteArray.data_extract, List.extract_eq_take_drop]
end Go.Proofs.Ytdkgjbakbnhmaaa.Oct
