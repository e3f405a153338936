/- causeyref11.Less: whether an identifier is less, by definition. By an AI agent. -/
import Derived.Test.YtcmokhpnooldgaaOrder
import Derived.Test.YtcmokhpnooldgaaGrowKit
import Derived.BigQuiet
import Derived.Deep.DeepCutAuto
import Derived.WalkSmall
import Derived.Lib.Hide
namespace Go.Proofs.Ytcmokhpnooldgaa
open Go.RowKit Go.Sort Grow

theorem Ord.lt8 (a b : Nat → UInt8) (k : Nat) (hk : k < 8) (h : ∀ j, j < k → a j = b j) (hne : a k ≠ b k) : Ord.lt [a 0, a 1, a 2, a 3, a 4, a 5, a 6, a 7] [b 0, b 1, b 2, b 3, b 4, b 5, b 6, b 7] = decide (a k < b k) := by
  have key : ∀ j, j < k → (a j == b j) = true ∧ decide (a j < b j) = false := fun j hj => by
    rw [h j hj]
    exact ⟨beq_self_eq_true _, decide_eq_false (UInt8.lt_irrefl _)⟩
  have hf : (a k == b k) = false := beq_eq_false_iff_ne.2 hne
  rcases (show k = 0 ∨ k = 1 ∨ k = 2 ∨ k = 3 ∨ k = 4 ∨ k = 5 ∨ k = 6 ∨ k = 7 from by omega) with rfl | rfl | rfl | rfl | rfl | rfl | rfl | rfl
  · simp only [Ord.lt_cons, hf, Bool.false_and, Bool.or_false]
  · simp only [Ord.lt_cons, hf, (key 0 (by decide)).1, (key 0 (by decide)).2, Bool.false_and, Bool.true_and, Bool.or_false, Bool.false_or]
  · simp only [Ord.lt_cons, hf, (key 0 (by decide)).1, (key 0 (by decide)).2, (key 1 (by decide)).1, (key 1 (by decide)).2, Bool.false_and, Bool.true_and, Bool.or_false, Bool.false_or]
  · simp only [Ord.lt_cons, hf, (key 0 (by decide)).1, (key 0 (by decide)).2, (key 1 (by decide)).1, (key 1 (by decide)).2, (key 2 (by decide)).1, (key 2 (by decide)).2, Bool.false_and, Bool.true_and, Bool.or_false, Bool.false_or]
  · simp only [Ord.lt_cons, hf, (key 0 (by decide)).1, (key 0 (by decide)).2, (key 1 (by decide)).1, (key 1 (by decide)).2, (key 2 (by decide)).1, (key 2 (by decide)).2, (key 3 (by decide)).1, (key 3 (by decide)).2, Bool.false_and, Bool.true_and, Bool.or_false, Bool.false_or]
  · simp only [Ord.lt_cons, hf, (key 0 (by decide)).1, (key 0 (by decide)).2, (key 1 (by decide)).1, (key 1 (by decide)).2, (key 2 (by decide)).1, (key 2 (by decide)).2, (key 3 (by decide)).1, (key 3 (by decide)).2, (key 4 (by decide)).1, (key 4 (by decide)).2, Bool.false_and, Bool.true_and, Bool.or_false, Bool.false_or]
  · simp only [Ord.lt_cons, hf, (key 0 (by decide)).1, (key 0 (by decide)).2, (key 1 (by decide)).1, (key 1 (by decide)).2, (key 2 (by decide)).1, (key 2 (by decide)).2, (key 3 (by decide)).1, (key 3 (by decide)).2, (key 4 (by decide)).1, (key 4 (by decide)).2, (key 5 (by decide)).1, (key 5 (by decide)).2, Bool.false_and, Bool.true_and, Bool.or_false, Bool.false_or]
  · simp only [Ord.lt_cons, hf, (key 0 (by decide)).1, (key 0 (by decide)).2, (key 1 (by decide)).1, (key 1 (by decide)).2, (key 2 (by decide)).1, (key 2 (by decide)).2, (key 3 (by decide)).1, (key 3 (by decide)).2, (key 4 (by decide)).1, (key 4 (by decide)).2, (key 5 (by decide)).1, (key 5 (by decide)).2, (key 6 (by decide)).1, (key 6 (by decide)).2, Bool.false_and, Bool.true_and, Bool.or_false, Bool.false_or]

set_option maxHeartbeats 1000000 in
theorem refLess_any (a b : Nat → UInt8) (w : World) : Calls Try.prog 38 #[.agg #[.int .u8 ((a 0).toNat : Int), .int .u8 ((a 1).toNat : Int), .int .u8 ((a 2).toNat : Int), .int .u8 ((a 3).toNat : Int), .int .u8 ((a 4).toNat : Int), .int .u8 ((a 5).toNat : Int), .int .u8 ((a 6).toNat : Int), .int .u8 ((a 7).toNat : Int)], .agg #[.int .u8 ((b 0).toNat : Int), .int .u8 ((b 1).toNat : Int), .int .u8 ((b 2).toNat : Int), .int .u8 ((b 3).toNat : Int), .int .u8 ((b 4).toNat : Int), .int .u8 ((b 5).toNat : Int), .int .u8 ((b 6).toNat : Int), .int .u8 ((b 7).toNat : Int)]] w
    fun e w' => e = .returned (.bool (Ord.lt [a 0, a 1, a 2, a 3, a 4, a 5, a 6, a 7] [b 0, b 1, b 2, b 3, b 4, b 5, b 6, b 7])) ∧ Below w.heap.size w w' := by
  go_enter Try.func38, Try.ntmps38
  go_wp2_with fail
  generalize hW : (w.alloc _).alloc _ = W
  have hbW : Below w.heap.size w W := by rw [← hW]; exact ((Below.refl _ _).alloc (Nat.le_refl _) _).alloc (by simp) _
  have cA : Hid (∀ i, i < 8 → W.cell? ⟨w.heap.size, i, none⟩ = some (.int .u8 ((a i).toNat : Int))) := by
    intro i hi
    subst hW
    rcases (show i = 0 ∨ i = 1 ∨ i = 2 ∨ i = 3 ∨ i = 4 ∨ i = 5 ∨ i = 6 ∨ i = 7 from by omega) with rfl | rfl | rfl | rfl | rfl | rfl | rfl | rfl <;> go_simp
  have cB : Hid (∀ i, i < 8 → W.cell? ⟨w.heap.size + 1, i, none⟩ = some (.int .u8 ((b i).toNat : Int))) := by
    intro i hi
    subst hW
    rcases (show i = 0 ∨ i = 1 ∨ i = 2 ∨ i = 3 ∨ i = 4 ∨ i = 5 ∨ i = 6 ∨ i = 7 from by omega) with rfl | rfl | rfl | rfl | rfl | rfl | rfl | rfl <;> go_simp
  have hsz : w.heap.size + 1 < W.heap.size := by rw [← hW]; simp
  clear hW
  go_loopw [5] (fun i wr => ∃ k : Nat, k ≤ 8 ∧ i = .int .i64 k ∧ Hid (∀ j, j < k → a j = b j) ∧ Below W.heap.size W wr) (fun i _ => 8 - (intOf i).toNat)
  case atStart => exact ⟨0, Nat.zero_le _, rfl, fun j hj => absurd hj (Nat.not_lt_zero j), Below.refl _ _⟩
  case round =>
    rename_i wr
    obtain ⟨k, hk, rfl, heq, hbR⟩ := hrel
    by_cases hlt : k < 8
    · have ca := cell_of_below hbR (cA.out k hlt)
      have cb := cell_of_below hbR (cB.out k hlt)
      by_cases he : a k = b k
      · have hx : (a k).toNat = (b k).toNat := by rw [he]
        have HE := Lib.hid he
        clear he
        generalize (a k).toNat = x at ca hx
        generalize (b k).toNat = y at cb hx
        subst hx
        go_upto_region 4 with fail
        go_quiet (fail)
        go_wp2_with fail
        refine ⟨⟨k + 1, by omega, by go_num, fun j hj => ?_, below_drewN hbR _⟩, by simp [intOf]; omega⟩
        rcases Nat.lt_or_ge j k with h | h
        · exact heq.out j h
        · obtain rfl : j = k := by omega
          exact HE.out
      · have HR := Lib.hid (Ord.lt8 a b k hlt heq.out he)
        have hne : ¬ (a k).toNat = (b k).toNat := fun h => he (UInt8.toNat_inj.1 h)
        have HD := Lib.hid (show decide ((a k).toNat < (b k).toNat) = decide (a k < b k) from rfl)
        clear he
        generalize (a k).toNat = x at ca hne HD
        generalize (b k).toNat = y at cb hne HD
        go_upto_region 4 with fail
        go_quiet (fail)
        go_upto_region 5 with fail
        go_quiet (fail)
        go_wp2_with fail
        go_ret
        refine ⟨?_, hbW.trans ((below_drewN (below_drewN hbR _) _).mono hbW.size)⟩
        rw [HR.out, ← HD.out]
        simp
    · obtain rfl : k = 8 := by omega
      have HR : Ord.lt [a 0, a 1, a 2, a 3, a 4, a 5, a 6, a 7] [b 0, b 1, b 2, b 3, b 4, b 5, b 6, b 7] = false := by
        rw [heq.out 0 (by decide), heq.out 1 (by decide), heq.out 2 (by decide), heq.out 3 (by decide), heq.out 4 (by decide), heq.out 5 (by decide), heq.out 6 (by decide), heq.out 7 (by decide)]
        exact Ord.lt_irrefl _
      have HR := Lib.hid HR
      go_wp2_with fail
      go_ret
      exact ⟨by rw [HR.out]; rfl, hbW.trans (hbR.mono hbW.size)⟩
end Go.Proofs.Ytcmokhpnooldgaa
