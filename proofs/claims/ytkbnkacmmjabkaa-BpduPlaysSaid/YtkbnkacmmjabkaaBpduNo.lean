/- bpdu.Parse of what is no word; what was parsed is printed as it was. By an AI agent. -/
import Derived.Test.YtkbnkacmmjabkaaBpduAgain
import Derived.Deep.DeepCutAuto
namespace Go.Proofs.Ytkbnkacmmjabkaa
open Go.RowKit Go.Sort Grow

set_option maxHeartbeats 1000000 in
theorem parse_short7 (s : ByteArray) (h7 : s.size < 7) (w : World) :
    Calls Try.prog 10 #[.string s] w fun e w' => e = .returned (.tuple #[.agg #[.int .u8 0, .int .u8 0, .int .u8 0, .int .u8 0, .int .u8 0, .int .u8 0, .int .u8 0, .int .u8 0, .int .u8 0, .int .u8 0, .int .u8 0, .int .u8 0, .int .u8 0, .int .u8 0, .int .u8 0, .int .u8 0, .int .i64 0, .int .i64 0, .int .i64 0, .int .i64 0, .int .i64 0, .int .i64 0, .bool false, .bool false], .bool false, .int .i64 2]) ∧ Below w.heap.size w w' := by
  go_enter Try.func10, Try.ntmps10
  go_upto_region 1 with fail
  generalize hW : w.alloc _ = W
  have hR : RowIs W w.heap.size 30 #[.int .u8 0, .int .u8 0, .int .u8 0, .int .u8 0, .int .u8 0, .int .u8 0, .int .u8 0, .int .u8 0, .int .u8 0, .int .u8 0, .int .u8 0, .int .u8 0, .int .u8 0, .int .u8 0, .int .u8 0, .int .u8 0, .int .i64 0, .int .i64 0, .int .i64 0, .int .i64 0, .int .i64 0, .int .i64 0, .bool false, .bool false] := by rw [← hW]; exact rowIs_new w _ _
  have hbW : Below w.heap.size w W := by rw [← hW]; exact (Below.refl _ _).alloc (Nat.le_refl _) _
  clear hW
  have HR := Lib.hid hR
  clear hR
  go_wp2_with ((with_reducible refine at_store 30 (.tmp 2) (.tmp 13) ?_); refine wpList_store_own rfl 30 (.tmp 2) (.tmp 13) rfl w.heap.size _ rfl rfl _ _ HR.out info_word rfl (by kernel_rfl) w.heap.size (Nat.le_refl _) ?_)
  intro w1 hR1 _ _ hb1
  have HR1 := Lib.hid hR1
  clear hR1
  go_wp2_with fail
  refine bodyPost_ret (results_row_tmp2 Try.results10 _ _ w.heap.size _ _ _ rfl HR1.out Try.underlying30 rfl info_word) rfl ?_
  exact ⟨rfl, hbW.trans hb1⟩

set_option maxHeartbeats 1000000 in
theorem parse_other (s : ByteArray) (h7 : 7 ≤ s.size) (hn : ((s.extract 0 7).toList == [66, 66, 3, 0, 0, 0, 128]) = false) (hn2 : ((s.extract 0 7).toList == [66, 66, 3, 0, 0, 0, 0]) = false) (w : World) :
    Calls Try.prog 10 #[.string s] w fun e w' => e = .returned (.tuple #[.agg #[.int .u8 0, .int .u8 0, .int .u8 0, .int .u8 0, .int .u8 0, .int .u8 0, .int .u8 0, .int .u8 0, .int .u8 0, .int .u8 0, .int .u8 0, .int .u8 0, .int .u8 0, .int .u8 0, .int .u8 0, .int .u8 0, .int .i64 0, .int .i64 0, .int .i64 0, .int .i64 0, .int .i64 0, .int .i64 0, .bool false, .bool false], .bool false, .int .i64 3]) ∧ Below w.heap.size w w' := by
  go_enter Try.func10, Try.ntmps10
  go_wp2_with fail
  go_quiet ((go_at_call 11; exact Calls.quiet_of_same ((notice_any _).mono fun e w' ⟨he, hw⟩ => ⟨he, hw.symm⟩)))
  generalize hW : World.drewN _ _ = W
  have hR : RowIs W w.heap.size 30 #[.int .u8 0, .int .u8 0, .int .u8 0, .int .u8 0, .int .u8 0, .int .u8 0, .int .u8 0, .int .u8 0, .int .u8 0, .int .u8 0, .int .u8 0, .int .u8 0, .int .u8 0, .int .u8 0, .int .u8 0, .int .u8 0, .int .i64 0, .int .i64 0, .int .i64 0, .int .i64 0, .int .i64 0, .int .i64 0, .bool false, .bool false] := by rw [← hW]; exact (rowIs_new w _ _).drewN _
  have hbW : Below w.heap.size w W := by rw [← hW]; exact below_drewN ((Below.refl _ _).alloc (Nat.le_refl _) _) _
  clear hW
  have HR := Lib.hid hR
  clear hR
  go_wp2_with ((with_reducible refine at_store 30 (.tmp 2) (.tmp 26) ?_); refine wpList_store_own rfl 30 (.tmp 2) (.tmp 26) rfl w.heap.size _ rfl rfl _ _ HR.out info_word rfl (by kernel_rfl) w.heap.size (Nat.le_refl _) ?_)
  intro w1 hR1 _ _ hb1
  have HR1 := Lib.hid hR1
  clear hR1
  go_wp2_with fail
  refine bodyPost_ret (results_row_tmp2 Try.results10 _ _ w.heap.size _ _ _ rfl HR1.out Try.underlying30 rfl info_word) rfl ?_
  exact ⟨rfl, hbW.trans hb1⟩

set_option maxHeartbeats 1000000 in
theorem parse_short38 (s : ByteArray) (h7 : 7 ≤ s.size) (h38 : s.size < 38) (hn : (s.extract 0 7).toList = [66, 66, 3, 0, 0, 0, 0]) (w : World) :
    Calls Try.prog 10 #[.string s] w fun e w' => e = .returned (.tuple #[.agg #[.int .u8 0, .int .u8 0, .int .u8 0, .int .u8 0, .int .u8 0, .int .u8 0, .int .u8 0, .int .u8 0, .int .u8 0, .int .u8 0, .int .u8 0, .int .u8 0, .int .u8 0, .int .u8 0, .int .u8 0, .int .u8 0, .int .i64 0, .int .i64 0, .int .i64 0, .int .i64 0, .int .i64 0, .int .i64 0, .bool false, .bool false], .bool false, .int .i64 2]) ∧ Below w.heap.size w w' := by
  go_enter Try.func10, Try.ntmps10
  go_wp2_with fail
  go_quiet ((go_at_call 11; exact Calls.quiet_of_same ((notice_any _).mono fun e w' ⟨he, hw⟩ => ⟨he, hw.symm⟩)))
  generalize hW : World.drewN _ _ = W
  have hR : RowIs W w.heap.size 30 #[.int .u8 0, .int .u8 0, .int .u8 0, .int .u8 0, .int .u8 0, .int .u8 0, .int .u8 0, .int .u8 0, .int .u8 0, .int .u8 0, .int .u8 0, .int .u8 0, .int .u8 0, .int .u8 0, .int .u8 0, .int .u8 0, .int .i64 0, .int .i64 0, .int .i64 0, .int .i64 0, .int .i64 0, .int .i64 0, .bool false, .bool false] := by rw [← hW]; exact (rowIs_new w _ _).drewN _
  have hbW : Below w.heap.size w W := by rw [← hW]; exact below_drewN ((Below.refl _ _).alloc (Nat.le_refl _) _) _
  clear hW
  have HR := Lib.hid hR
  clear hR
  go_wp2_with ((with_reducible refine at_store 30 (.tmp 2) (.tmp 31) ?_); refine wpList_store_own rfl 30 (.tmp 2) (.tmp 31) rfl w.heap.size _ rfl rfl _ _ HR.out info_word rfl (by kernel_rfl) w.heap.size (Nat.le_refl _) ?_)
  intro w1 hR1 _ _ hb1
  have HR1 := Lib.hid hR1
  clear hR1
  go_wp2_with fail
  refine bodyPost_ret (results_row_tmp2 Try.results10 _ _ w.heap.size _ _ _ rfl HR1.out Try.underlying30 rfl info_word) rfl ?_
  exact ⟨rfl, hbW.trans hb1⟩

namespace Bpdu
theorem split38 (l : List UInt8) (h : 38 ≤ l.length) : ∃ (x : Nat → UInt8) (rest : List UInt8), l = x 0 :: x 1 :: x 2 :: x 3 :: x 4 :: x 5 :: x 6 :: x 7 :: x 8 :: x 9 :: x 10 :: x 11 :: x 12 :: x 13 :: x 14 :: x 15 :: x 16 :: x 17 :: x 18 :: x 19 :: x 20 :: x 21 :: x 22 :: x 23 :: x 24 :: x 25 :: x 26 :: x 27 :: x 28 :: x 29 :: x 30 :: x 31 :: x 32 :: x 33 :: x 34 :: x 35 :: x 36 :: x 37 :: rest := by
  obtain ⟨a0, l, rfl⟩ : ∃ a l', l = a :: l' := List.exists_cons_of_length_pos (by omega)
  replace h : 37 ≤ l.length := by simp only [List.length_cons] at h; omega
  obtain ⟨a1, l, rfl⟩ : ∃ a l', l = a :: l' := List.exists_cons_of_length_pos (by omega)
  replace h : 36 ≤ l.length := by simp only [List.length_cons] at h; omega
  obtain ⟨a2, l, rfl⟩ : ∃ a l', l = a :: l' := List.exists_cons_of_length_pos (by omega)
  replace h : 35 ≤ l.length := by simp only [List.length_cons] at h; omega
  obtain ⟨a3, l, rfl⟩ : ∃ a l', l = a :: l' := List.exists_cons_of_length_pos (by omega)
  replace h : 34 ≤ l.length := by simp only [List.length_cons] at h; omega
  obtain ⟨a4, l, rfl⟩ : ∃ a l', l = a :: l' := List.exists_cons_of_length_pos (by omega)
  replace h : 33 ≤ l.length := by simp only [List.length_cons] at h; omega
  obtain ⟨a5, l, rfl⟩ : ∃ a l', l = a :: l' := List.exists_cons_of_length_pos (by omega)
  replace h : 32 ≤ l.length := by simp only [List.length_cons] at h; omega
  obtain ⟨a6, l, rfl⟩ : ∃ a l', l = a :: l' := List.exists_cons_of_length_pos (by omega)
  replace h : 31 ≤ l.length := by simp only [List.length_cons] at h; omega
  obtain ⟨a7, l, rfl⟩ : ∃ a l', l = a :: l' := List.exists_cons_of_length_pos (by omega)
  replace h : 30 ≤ l.length := by simp only [List.length_cons] at h; omega
  obtain ⟨a8, l, rfl⟩ : ∃ a l', l = a :: l' := List.exists_cons_of_length_pos (by omega)
  replace h : 29 ≤ l.length := by simp only [List.length_cons] at h; omega
  obtain ⟨a9, l, rfl⟩ : ∃ a l', l = a :: l' := List.exists_cons_of_length_pos (by omega)
  replace h : 28 ≤ l.length := by simp only [List.length_cons] at h; omega
  obtain ⟨a10, l, rfl⟩ : ∃ a l', l = a :: l' := List.exists_cons_of_length_pos (by omega)
  replace h : 27 ≤ l.length := by simp only [List.length_cons] at h; omega
  obtain ⟨a11, l, rfl⟩ : ∃ a l', l = a :: l' := List.exists_cons_of_length_pos (by omega)
  replace h : 26 ≤ l.length := by simp only [List.length_cons] at h; omega
  obtain ⟨a12, l, rfl⟩ : ∃ a l', l = a :: l' := List.exists_cons_of_length_pos (by omega)
  replace h : 25 ≤ l.length := by simp only [List.length_cons] at h; omega
  obtain ⟨a13, l, rfl⟩ : ∃ a l', l = a :: l' := List.exists_cons_of_length_pos (by omega)
  replace h : 24 ≤ l.length := by simp only [List.length_cons] at h; omega
  obtain ⟨a14, l, rfl⟩ : ∃ a l', l = a :: l' := List.exists_cons_of_length_pos (by omega)
  replace h : 23 ≤ l.length := by simp only [List.length_cons] at h; omega
  obtain ⟨a15, l, rfl⟩ : ∃ a l', l = a :: l' := List.exists_cons_of_length_pos (by omega)
  replace h : 22 ≤ l.length := by simp only [List.length_cons] at h; omega
  obtain ⟨a16, l, rfl⟩ : ∃ a l', l = a :: l' := List.exists_cons_of_length_pos (by omega)
  replace h : 21 ≤ l.length := by simp only [List.length_cons] at h; omega
  obtain ⟨a17, l, rfl⟩ : ∃ a l', l = a :: l' := List.exists_cons_of_length_pos (by omega)
  replace h : 20 ≤ l.length := by simp only [List.length_cons] at h; omega
  obtain ⟨a18, l, rfl⟩ : ∃ a l', l = a :: l' := List.exists_cons_of_length_pos (by omega)
  replace h : 19 ≤ l.length := by simp only [List.length_cons] at h; omega
  obtain ⟨a19, l, rfl⟩ : ∃ a l', l = a :: l' := List.exists_cons_of_length_pos (by omega)
  replace h : 18 ≤ l.length := by simp only [List.length_cons] at h; omega
  obtain ⟨a20, l, rfl⟩ : ∃ a l', l = a :: l' := List.exists_cons_of_length_pos (by omega)
  replace h : 17 ≤ l.length := by simp only [List.length_cons] at h; omega
  obtain ⟨a21, l, rfl⟩ : ∃ a l', l = a :: l' := List.exists_cons_of_length_pos (by omega)
  replace h : 16 ≤ l.length := by simp only [List.length_cons] at h; omega
  obtain ⟨a22, l, rfl⟩ : ∃ a l', l = a :: l' := List.exists_cons_of_length_pos (by omega)
  replace h : 15 ≤ l.length := by simp only [List.length_cons] at h; omega
  obtain ⟨a23, l, rfl⟩ : ∃ a l', l = a :: l' := List.exists_cons_of_length_pos (by omega)
  replace h : 14 ≤ l.length := by simp only [List.length_cons] at h; omega
  obtain ⟨a24, l, rfl⟩ : ∃ a l', l = a :: l' := List.exists_cons_of_length_pos (by omega)
  replace h : 13 ≤ l.length := by simp only [List.length_cons] at h; omega
  obtain ⟨a25, l, rfl⟩ : ∃ a l', l = a :: l' := List.exists_cons_of_length_pos (by omega)
  replace h : 12 ≤ l.length := by simp only [List.length_cons] at h; omega
  obtain ⟨a26, l, rfl⟩ : ∃ a l', l = a :: l' := List.exists_cons_of_length_pos (by omega)
  replace h : 11 ≤ l.length := by simp only [List.length_cons] at h; omega
  obtain ⟨a27, l, rfl⟩ : ∃ a l', l = a :: l' := List.exists_cons_of_length_pos (by omega)
  replace h : 10 ≤ l.length := by simp only [List.length_cons] at h; omega
  obtain ⟨a28, l, rfl⟩ : ∃ a l', l = a :: l' := List.exists_cons_of_length_pos (by omega)
  replace h : 9 ≤ l.length := by simp only [List.length_cons] at h; omega
  obtain ⟨a29, l, rfl⟩ : ∃ a l', l = a :: l' := List.exists_cons_of_length_pos (by omega)
  replace h : 8 ≤ l.length := by simp only [List.length_cons] at h; omega
  obtain ⟨a30, l, rfl⟩ : ∃ a l', l = a :: l' := List.exists_cons_of_length_pos (by omega)
  replace h : 7 ≤ l.length := by simp only [List.length_cons] at h; omega
  obtain ⟨a31, l, rfl⟩ : ∃ a l', l = a :: l' := List.exists_cons_of_length_pos (by omega)
  replace h : 6 ≤ l.length := by simp only [List.length_cons] at h; omega
  obtain ⟨a32, l, rfl⟩ : ∃ a l', l = a :: l' := List.exists_cons_of_length_pos (by omega)
  replace h : 5 ≤ l.length := by simp only [List.length_cons] at h; omega
  obtain ⟨a33, l, rfl⟩ : ∃ a l', l = a :: l' := List.exists_cons_of_length_pos (by omega)
  replace h : 4 ≤ l.length := by simp only [List.length_cons] at h; omega
  obtain ⟨a34, l, rfl⟩ : ∃ a l', l = a :: l' := List.exists_cons_of_length_pos (by omega)
  replace h : 3 ≤ l.length := by simp only [List.length_cons] at h; omega
  obtain ⟨a35, l, rfl⟩ : ∃ a l', l = a :: l' := List.exists_cons_of_length_pos (by omega)
  replace h : 2 ≤ l.length := by simp only [List.length_cons] at h; omega
  obtain ⟨a36, l, rfl⟩ : ∃ a l', l = a :: l' := List.exists_cons_of_length_pos (by omega)
  replace h : 1 ≤ l.length := by simp only [List.length_cons] at h; omega
  obtain ⟨a37, l, rfl⟩ : ∃ a l', l = a :: l' := List.exists_cons_of_length_pos (by omega)
  replace h : 0 ≤ l.length := by simp only [List.length_cons] at h; omega
  exact ⟨fun i => [a0, a1, a2, a3, a4, a5, a6, a7, a8, a9, a10, a11, a12, a13, a14, a15, a16, a17, a18, a19, a20, a21, a22, a23, a24, a25, a26, a27, a28, a29, a30, a31, a32, a33, a34, a35, a36, a37].getD i 0, l, rfl⟩

theorem two_num (x y : UInt8) : Oct.two (Oct.num [x, y] : Nat) = [x, y] := by
  have hx := x.toNat_lt
  have hy := y.toNat_lt
  have e : Oct.num [x, y] = 256 * x.toNat + y.toNat := by simp [Oct.num]
  rw [two_eq _ (by omega), e]
  congr 1
  · apply UInt8.toNat_inj.1; rw [UInt8.toNat_ofNat']; omega
  · congr 1; apply UInt8.toNat_inj.1; rw [UInt8.toNat_ofNat']; omega
theorem four_num (x y z u : UInt8) : Oct.four (Oct.num [x, y, z, u] : Nat) = [x, y, z, u] := by
  have hx := x.toNat_lt
  have hy := y.toNat_lt
  have hz := z.toNat_lt
  have hu := u.toNat_lt
  have e : Oct.num [x, y, z, u] = 256 * (256 * (256 * x.toNat + y.toNat) + z.toNat) + u.toNat := by simp [Oct.num]
  rw [four_eq _ (by omega), e]
  congr 1
  · apply UInt8.toNat_inj.1; rw [UInt8.toNat_ofNat']; omega
  · congr 1
    · apply UInt8.toNat_inj.1; rw [UInt8.toNat_ofNat']; omega
    · congr 1
      · apply UInt8.toNat_inj.1; rw [UInt8.toNat_ofNat']; omega
      · congr 1; apply UInt8.toNat_inj.1; rw [UInt8.toNat_ofNat']; omega
theorem num_two_le (x y : UInt8) : Oct.num [x, y] ≤ 65535 := by
  have hx := x.toNat_lt
  have hy := y.toNat_lt
  simp [Oct.num]; omega
theorem num_four_le (x y z u : UInt8) : Oct.num [x, y, z, u] ≤ 4294967295 := by
  have hx := x.toNat_lt
  have hy := y.toNat_lt
  have hz := z.toNat_lt
  have hu := u.toNat_lt
  simp [Oct.num]; omega

/-- flags that may be are told by their two bits -/
theorem fl_of (f : UInt8) (h : (bits BinOp.andNot IntKind.u8 (f.toNat : Int) 129 != 0) = false) :
    fl (decide (0 < bits BinOp.and IntKind.u8 (f.toNat : Int) 1)) (decide (0 < bits BinOp.and IntKind.u8 (f.toNat : Int) 128)) = f := by
  have key : ∀ n : Nat, n < 256 → (bits BinOp.andNot IntKind.u8 (n : Int) 129 != 0) = false → fl (decide (0 < bits BinOp.and IntKind.u8 (n : Int) 1)) (decide (0 < bits BinOp.and IntKind.u8 (n : Int) 128)) = UInt8.ofNat n := by decide +kernel
  have := key f.toNat f.toNat_lt h
  rw [this]
  simp
end Bpdu
end Go.Proofs.Ytkbnkacmmjabkaa
