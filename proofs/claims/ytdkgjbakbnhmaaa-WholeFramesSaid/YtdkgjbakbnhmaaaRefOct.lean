/- causeyref07.Bytes, Number: a number's bytes and the number of bytes, by definition. By an AI agent. -/
import Derived.Test.YtdkgjbakbnhmaaaLaid
import Derived.Test.YtdkgjbakbnhmaaaNumber
namespace Go.Proofs.Ytdkgjbakbnhmaaa
open Go.RowKit

theorem Oct.num_from (r : List UInt8) : ∀ a : Nat, r.foldl (fun n b => 256 * n + b.toNat) a = a * 256 ^ r.length + r.foldl (fun n b => 256 * n + b.toNat) 0 := by
  induction r with
  | nil => intro a; simp
  | cons b r ih =>
    intro a
    simp only [List.foldl_cons, List.length_cons]
    rw [ih (256 * a + b.toNat), ih (256 * 0 + b.toNat), Nat.add_mul, Nat.pow_succ, Nat.mul_zero, Nat.zero_add, ← Nat.add_assoc]
    congr 2
    rw [Nat.mul_comm 256 a, Nat.mul_assoc, Nat.mul_comm 256]

theorem Oct.num_append (l r : List UInt8) : Oct.num (l ++ r) = Oct.num l * 256 ^ r.length + Oct.num r := by
  unfold Oct.num
  rw [List.foldl_append, Oct.num_from]

theorem Oct.div_pow (n j : Nat) : n / 256 ^ j / 256 = n / 256 ^ (j + 1) := by rw [Nat.div_div_eq_div_mul, Nat.pow_succ]

theorem ba_append (l r : List UInt8) : (⟨l.toArray⟩ : ByteArray) ++ ⟨r.toArray⟩ = ⟨(l ++ r).toArray⟩ := by
  refine ByteArray.ext ?_
  rw [ByteArray.data_append]
  simp

theorem Oct.be_cons (j n : Nat) : (⟨[UInt8.ofNat (n / 256 ^ j)].toArray⟩ : ByteArray) ++ ⟨(Oct.be j n).toArray⟩ = ⟨(Oct.be (j + 1) n).toArray⟩ := ba_append _ _

end Go.Proofs.Ytdkgjbakbnhmaaa
