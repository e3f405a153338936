/- causeyref11.Parse: what bytes are parsed as, by definition. By an AI agent. -/
import Derived.Test.YtkbnkacmmjabkaaRefOct
import Derived.Test.YtkbnkacmmjabkaaCell
import Derived.Test.YtkbnkacmmjabkaaBpduNo
import Derived.Laws.Strings2
import Derived.Laws.DeepStrings4
namespace Go.Proofs.Ytkbnkacmmjabkaa
open Go.RowKit Go.Sort Grow

theorem getB {s : ByteArray} {l : List UInt8} (h : s.data.toList = l) (i : Nat) (hi : i < s.size) (v : UInt8) (hv : l[i]? = some v) : s[i] = v := by
  have e : s[i] = s.data.toList[i]'(by simpa using hi) := by simp; rfl
  rw [e]
  rw [← h, List.getElem?_eq_getElem (by simpa using hi)] at hv
  exact Option.some.inj hv

theorem rword_bits1 (f : UInt8) : ((f.toNat : Int) % 2 == 1) = decide (0 < bits BinOp.and IntKind.u8 (f.toNat : Int) 1) := by
  have key : ∀ n : Nat, n < 256 → ((n : Int) % 2 == 1) = decide (0 < bits BinOp.and IntKind.u8 (n : Int) 1) := by decide +kernel
  exact key f.toNat f.toNat_lt
theorem rword_bits128 (f : UInt8) : decide (128 ≤ (f.toNat : Int)) = decide (0 < bits BinOp.and IntKind.u8 (f.toNat : Int) 128) := by
  have key : ∀ n : Nat, n < 256 → decide (128 ≤ (n : Int)) = decide (0 < bits BinOp.and IntKind.u8 (n : Int) 128) := by decide +kernel
  exact key f.toNat f.toNat_lt
theorem rword_bad (f : UInt8) : (bits BinOp.andNot IntKind.u8 (f.toNat : Int) 129 != 0) = decide (f.toNat ≠ 0 ∧ f.toNat ≠ 1 ∧ f.toNat ≠ 128 ∧ f.toNat ≠ 129) := by
  have key : ∀ n : Nat, n < 256 → (bits BinOp.andNot IntKind.u8 (n : Int) 129 != 0) = decide (n ≠ 0 ∧ n ≠ 1 ∧ n ≠ 128 ∧ n ≠ 129) := by decide +kernel
  exact key f.toNat f.toNat_lt

set_option maxHeartbeats 1000000 in
theorem refParse_short7 (s : ByteArray) (h7 : s.size < 7) (w : World) :
    Calls Try.prog 16 #[.string s] w fun e w' => e = .returned (.tuple #[.agg #[.int .u8 0, .int .u8 0, .int .u8 0, .int .u8 0, .int .u8 0, .int .u8 0, .int .u8 0, .int .u8 0, .int .u8 0, .int .u8 0, .int .u8 0, .int .u8 0, .int .u8 0, .int .u8 0, .int .u8 0, .int .u8 0, .int .i64 0, .int .i64 0, .int .i64 0, .int .i64 0, .int .i64 0, .int .i64 0, .bool false, .bool false], .bool false, .int .i64 2]) ∧ Below w.heap.size w w' := by
  go_enter Try.func16, Try.ntmps16
  go_upto_region 1 with fail
  generalize hW : w.alloc _ = W
  have HR : Hid (RowIs W w.heap.size 28 #[.int .u8 0, .int .u8 0, .int .u8 0, .int .u8 0, .int .u8 0, .int .u8 0, .int .u8 0, .int .u8 0, .int .u8 0, .int .u8 0, .int .u8 0, .int .u8 0, .int .u8 0, .int .u8 0, .int .u8 0, .int .u8 0, .int .i64 0, .int .i64 0, .int .i64 0, .int .i64 0, .int .i64 0, .int .i64 0, .bool false, .bool false]) := by show RowIs W w.heap.size 28 #[.int .u8 0, .int .u8 0, .int .u8 0, .int .u8 0, .int .u8 0, .int .u8 0, .int .u8 0, .int .u8 0, .int .u8 0, .int .u8 0, .int .u8 0, .int .u8 0, .int .u8 0, .int .u8 0, .int .u8 0, .int .u8 0, .int .i64 0, .int .i64 0, .int .i64 0, .int .i64 0, .int .i64 0, .int .i64 0, .bool false, .bool false]; rw [← hW]; exact rowIs_new w _ _
  have hbW : Below w.heap.size w W := by rw [← hW]; exact (Below.refl _ _).alloc (Nat.le_refl _) _
  clear hW
  go_wp2_with ((with_reducible refine at_store 28 (.tmp 2) (.tmp 10) ?_); refine wpList_store_own rfl 28 (.tmp 2) (.tmp 10) rfl w.heap.size _ rfl rfl _ _ HR.out info_rword rfl (by kernel_rfl) w.heap.size (Nat.le_refl _) ?_)
  intro w1 hR1 _ _ hb1
  have HR1 := Lib.hid hR1
  clear hR1
  go_wp2_with fail
  refine bodyPost_ret (results_row_tmp2 Try.results16 _ _ w.heap.size _ _ _ rfl HR1.out Try.underlying28 rfl info_rword) rfl ?_
  exact ⟨rfl, hbW.trans hb1⟩

set_option maxHeartbeats 1000000 in
theorem refParse_notice (s : ByteArray) (h7 : 7 ≤ s.size) (hn : (s.extract 0 7).toList = [66, 66, 3, 0, 0, 0, 128]) (w : World) :
    Calls Try.prog 16 #[.string s] w fun e w' => e = .returned (.tuple #[.agg #[.int .u8 0, .int .u8 0, .int .u8 0, .int .u8 0, .int .u8 0, .int .u8 0, .int .u8 0, .int .u8 0, .int .u8 0, .int .u8 0, .int .u8 0, .int .u8 0, .int .u8 0, .int .u8 0, .int .u8 0, .int .u8 0, .int .i64 0, .int .i64 0, .int .i64 0, .int .i64 0, .int .i64 0, .int .i64 0, .bool false, .bool false], .bool true, .int .i64 0]) ∧ Below w.heap.size w w' := by
  go_enter Try.func16, Try.ntmps16
  go_upto_region 1 with fail
  generalize hW : w.alloc _ = W
  have HR : Hid (RowIs W w.heap.size 28 #[.int .u8 0, .int .u8 0, .int .u8 0, .int .u8 0, .int .u8 0, .int .u8 0, .int .u8 0, .int .u8 0, .int .u8 0, .int .u8 0, .int .u8 0, .int .u8 0, .int .u8 0, .int .u8 0, .int .u8 0, .int .u8 0, .int .i64 0, .int .i64 0, .int .i64 0, .int .i64 0, .int .i64 0, .int .i64 0, .bool false, .bool false]) := by show RowIs W w.heap.size 28 #[.int .u8 0, .int .u8 0, .int .u8 0, .int .u8 0, .int .u8 0, .int .u8 0, .int .u8 0, .int .u8 0, .int .u8 0, .int .u8 0, .int .u8 0, .int .u8 0, .int .u8 0, .int .u8 0, .int .u8 0, .int .u8 0, .int .i64 0, .int .i64 0, .int .i64 0, .int .i64 0, .int .i64 0, .int .i64 0, .bool false, .bool false]; rw [← hW]; exact rowIs_new w _ _
  have hbW : Below w.heap.size w W := by rw [← hW]; exact (Below.refl _ _).alloc (Nat.le_refl _) _
  clear hW
  go_wp2_with ((with_reducible refine at_store 28 (.tmp 2) (.tmp 14) ?_); refine wpList_store_own rfl 28 (.tmp 2) (.tmp 14) rfl w.heap.size _ rfl rfl _ _ HR.out info_rword rfl (by kernel_rfl) w.heap.size (Nat.le_refl _) ?_)
  intro w1 hR1 _ _ hb1
  have HR1 := Lib.hid hR1
  clear hR1
  go_wp2_with fail
  refine bodyPost_ret (results_row_tmp2 Try.results16 _ _ w.heap.size _ _ _ rfl HR1.out Try.underlying28 rfl info_rword) rfl ?_
  exact ⟨rfl, hbW.trans hb1⟩

set_option maxHeartbeats 1000000 in
theorem refParse_other (s : ByteArray) (h7 : 7 ≤ s.size) (hn : ((s.extract 0 7).toList == [66, 66, 3, 0, 0, 0, 128]) = false) (hn2 : ((s.extract 0 7).toList == [66, 66, 3, 0, 0, 0, 0]) = false) (w : World) :
    Calls Try.prog 16 #[.string s] w fun e w' => e = .returned (.tuple #[.agg #[.int .u8 0, .int .u8 0, .int .u8 0, .int .u8 0, .int .u8 0, .int .u8 0, .int .u8 0, .int .u8 0, .int .u8 0, .int .u8 0, .int .u8 0, .int .u8 0, .int .u8 0, .int .u8 0, .int .u8 0, .int .u8 0, .int .i64 0, .int .i64 0, .int .i64 0, .int .i64 0, .int .i64 0, .int .i64 0, .bool false, .bool false], .bool false, .int .i64 3]) ∧ Below w.heap.size w w' := by
  go_enter Try.func16, Try.ntmps16
  go_upto_region 1 with fail
  generalize hW : w.alloc _ = W
  have HR : Hid (RowIs W w.heap.size 28 #[.int .u8 0, .int .u8 0, .int .u8 0, .int .u8 0, .int .u8 0, .int .u8 0, .int .u8 0, .int .u8 0, .int .u8 0, .int .u8 0, .int .u8 0, .int .u8 0, .int .u8 0, .int .u8 0, .int .u8 0, .int .u8 0, .int .i64 0, .int .i64 0, .int .i64 0, .int .i64 0, .int .i64 0, .int .i64 0, .bool false, .bool false]) := by show RowIs W w.heap.size 28 #[.int .u8 0, .int .u8 0, .int .u8 0, .int .u8 0, .int .u8 0, .int .u8 0, .int .u8 0, .int .u8 0, .int .u8 0, .int .u8 0, .int .u8 0, .int .u8 0, .int .u8 0, .int .u8 0, .int .u8 0, .int .u8 0, .int .i64 0, .int .i64 0, .int .i64 0, .int .i64 0, .int .i64 0, .int .i64 0, .bool false, .bool false]; rw [← hW]; exact rowIs_new w _ _
  have hbW : Below w.heap.size w W := by rw [← hW]; exact (Below.refl _ _).alloc (Nat.le_refl _) _
  clear hW
  go_wp2_with ((with_reducible refine at_store 28 (.tmp 2) (.tmp 18) ?_); refine wpList_store_own rfl 28 (.tmp 2) (.tmp 18) rfl w.heap.size _ rfl rfl _ _ HR.out info_rword rfl (by kernel_rfl) w.heap.size (Nat.le_refl _) ?_)
  intro w1 hR1 _ _ hb1
  have HR1 := Lib.hid hR1
  clear hR1
  go_wp2_with fail
  refine bodyPost_ret (results_row_tmp2 Try.results16 _ _ w.heap.size _ _ _ rfl HR1.out Try.underlying28 rfl info_rword) rfl ?_
  exact ⟨rfl, hbW.trans hb1⟩

set_option maxHeartbeats 1000000 in
theorem refParse_short38 (s : ByteArray) (h7 : 7 ≤ s.size) (h38 : s.size < 38) (hn : (s.extract 0 7).toList = [66, 66, 3, 0, 0, 0, 0]) (w : World) :
    Calls Try.prog 16 #[.string s] w fun e w' => e = .returned (.tuple #[.agg #[.int .u8 0, .int .u8 0, .int .u8 0, .int .u8 0, .int .u8 0, .int .u8 0, .int .u8 0, .int .u8 0, .int .u8 0, .int .u8 0, .int .u8 0, .int .u8 0, .int .u8 0, .int .u8 0, .int .u8 0, .int .u8 0, .int .i64 0, .int .i64 0, .int .i64 0, .int .i64 0, .int .i64 0, .int .i64 0, .bool false, .bool false], .bool false, .int .i64 2]) ∧ Below w.heap.size w w' := by
  go_enter Try.func16, Try.ntmps16
  go_upto_region 1 with fail
  generalize hW : w.alloc _ = W
  have HR : Hid (RowIs W w.heap.size 28 #[.int .u8 0, .int .u8 0, .int .u8 0, .int .u8 0, .int .u8 0, .int .u8 0, .int .u8 0, .int .u8 0, .int .u8 0, .int .u8 0, .int .u8 0, .int .u8 0, .int .u8 0, .int .u8 0, .int .u8 0, .int .u8 0, .int .i64 0, .int .i64 0, .int .i64 0, .int .i64 0, .int .i64 0, .int .i64 0, .bool false, .bool false]) := by show RowIs W w.heap.size 28 #[.int .u8 0, .int .u8 0, .int .u8 0, .int .u8 0, .int .u8 0, .int .u8 0, .int .u8 0, .int .u8 0, .int .u8 0, .int .u8 0, .int .u8 0, .int .u8 0, .int .u8 0, .int .u8 0, .int .u8 0, .int .u8 0, .int .i64 0, .int .i64 0, .int .i64 0, .int .i64 0, .int .i64 0, .int .i64 0, .bool false, .bool false]; rw [← hW]; exact rowIs_new w _ _
  have hbW : Below w.heap.size w W := by rw [← hW]; exact (Below.refl _ _).alloc (Nat.le_refl _) _
  clear hW
  go_wp2_with ((with_reducible refine at_store 28 (.tmp 2) (.tmp 22) ?_); refine wpList_store_own rfl 28 (.tmp 2) (.tmp 22) rfl w.heap.size _ rfl rfl _ _ HR.out info_rword rfl (by kernel_rfl) w.heap.size (Nat.le_refl _) ?_)
  intro w1 hR1 _ _ hb1
  have HR1 := Lib.hid hR1
  clear hR1
  go_wp2_with fail
  refine bodyPost_ret (results_row_tmp2 Try.results16 _ _ w.heap.size _ _ _ rfl HR1.out Try.underlying28 rfl info_rword) rfl ?_
  exact ⟨rfl, hbW.trans hb1⟩

set_option maxRecDepth 20000 in
set_option maxHeartbeats 8000000 in
theorem refParse_split (s : ByteArray) (x : Nat → UInt8) (rest : List UInt8) (hs : s.data.toList = x 0 :: x 1 :: x 2 :: x 3 :: x 4 :: x 5 :: x 6 :: x 7 :: x 8 :: x 9 :: x 10 :: x 11 :: x 12 :: x 13 :: x 14 :: x 15 :: x 16 :: x 17 :: x 18 :: x 19 :: x 20 :: x 21 :: x 22 :: x 23 :: x 24 :: x 25 :: x 26 :: x 27 :: x 28 :: x 29 :: x 30 :: x 31 :: x 32 :: x 33 :: x 34 :: x 35 :: x 36 :: x 37 :: rest) (hn : (s.extract 0 7).toList = [66, 66, 3, 0, 0, 0, 0]) (w : World) :
    Calls Try.prog 16 #[.string s] w fun e w' => e = .returned (if Bpdu.bad (x 7) (Oct.num [x 30, x 31]) (Oct.num [x 32, x 33]) = true then .tuple #[.agg #[.int .u8 0, .int .u8 0, .int .u8 0, .int .u8 0, .int .u8 0, .int .u8 0, .int .u8 0, .int .u8 0, .int .u8 0, .int .u8 0, .int .u8 0, .int .u8 0, .int .u8 0, .int .u8 0, .int .u8 0, .int .u8 0, .int .i64 0, .int .i64 0, .int .i64 0, .int .i64 0, .int .i64 0, .int .i64 0, .bool false, .bool false], .bool false, .int .i64 3] else .tuple #[.agg #[.int .u8 ((x 8).toNat : Int), .int .u8 ((x 9).toNat : Int), .int .u8 ((x 10).toNat : Int), .int .u8 ((x 11).toNat : Int), .int .u8 ((x 12).toNat : Int), .int .u8 ((x 13).toNat : Int), .int .u8 ((x 14).toNat : Int), .int .u8 ((x 15).toNat : Int), .int .u8 ((x 20).toNat : Int), .int .u8 ((x 21).toNat : Int), .int .u8 ((x 22).toNat : Int), .int .u8 ((x 23).toNat : Int), .int .u8 ((x 24).toNat : Int), .int .u8 ((x 25).toNat : Int), .int .u8 ((x 26).toNat : Int), .int .u8 ((x 27).toNat : Int), .int .i64 (Oct.num [x 16, x 17, x 18, x 19] : Nat), .int .i64 (Oct.num [x 28, x 29] : Nat), .int .i64 (Oct.num [x 30, x 31] : Nat), .int .i64 (Oct.num [x 32, x 33] : Nat), .int .i64 (Oct.num [x 34, x 35] : Nat), .int .i64 (Oct.num [x 36, x 37] : Nat), .bool (decide (0 < bits BinOp.and IntKind.u8 ((x 7).toNat : Int) 1)), .bool (decide (0 < bits BinOp.and IntKind.u8 ((x 7).toNat : Int) 128))], .bool false, .int .i64 0]) ∧ Below w.heap.size w w' := by
  have h38 : 38 ≤ s.size := by
    have : s.data.toList.length = s.size := by simp
    rw [← this, hs]
    simp
  have N1 := fun w => refNumber_any (s.extract 16 20) w (by simp; omega)
  have N2 := fun w => refNumber_any (s.extract 28 30) w (by simp; omega)
  have N3 := fun w => refNumber_any (s.extract 30 32) w (by simp; omega)
  have N4 := fun w => refNumber_any (s.extract 32 34) w (by simp; omega)
  have N5 := fun w => refNumber_any (s.extract 34 36) w (by simp; omega)
  have N6 := fun w => refNumber_any (s.extract 36 38) w (by simp; omega)
  have ex := Bpdu.ext_list s _ hs
  rw [show (s.extract 16 20).data.toList = [x 16, x 17, x 18, x 19] by rw [ex]; rfl] at N1
  rw [show (s.extract 28 30).data.toList = [x 28, x 29] by rw [ex]; rfl] at N2
  rw [show (s.extract 30 32).data.toList = [x 30, x 31] by rw [ex]; rfl] at N3
  rw [show (s.extract 32 34).data.toList = [x 32, x 33] by rw [ex]; rfl] at N4
  rw [show (s.extract 34 36).data.toList = [x 34, x 35] by rw [ex]; rfl] at N5
  rw [show (s.extract 36 38).data.toList = [x 36, x 37] by rw [ex]; rfl] at N6
  have g7 := getB hs 7 (by omega) (x 7) rfl
  have hf := (x 7).toNat_lt
  have hB : Bpdu.bad (x 7) (Oct.num [x 30, x 31]) (Oct.num [x 32, x 33]) = (decide ((x 7).toNat ≠ 0 ∧ (x 7).toNat ≠ 1 ∧ (x 7).toNat ≠ 128 ∧ (x 7).toNat ≠ 129) || decide (Oct.num [x 32, x 33] ≤ Oct.num [x 30, x 31])) := by
    unfold Bpdu.bad
    rw [rword_bad]
  have hL1 := rword_bits1 (x 7)
  have hL2 := rword_bits128 (x 7)
  have HB := Lib.hid hB
  have HL1 := Lib.hid hL1
  have HL2 := Lib.hid hL2
  have HS := Lib.hid hs
  generalize Oct.num [x 16, x 17, x 18, x 19] = n1 at N1 HB ⊢
  generalize Oct.num [x 28, x 29] = n2 at N2 HB ⊢
  generalize Oct.num [x 30, x 31] = n3 at N3 HB ⊢
  generalize Oct.num [x 32, x 33] = n4 at N4 HB ⊢
  generalize Oct.num [x 34, x 35] = n5 at N5 HB ⊢
  generalize Oct.num [x 36, x 37] = n6 at N6 HB ⊢
  have N1 := Lib.hid N1
  have N2 := Lib.hid N2
  have N3 := Lib.hid N3
  have N4 := Lib.hid N4
  have N5 := Lib.hid N5
  have N6 := Lib.hid N6
  generalize hRV : (if Bpdu.bad (x 7) n3 n4 = true then _ else _) = RV
  have HRV := Lib.hid hRV
  clear hB hL1 hL2 hs ex hRV
  go_enter Try.func16, Try.ntmps16
  go_upto_region 10 with fail
  generalize hW : (w.alloc _).alloc _ = W
  have HR : Hid (RowIs W w.heap.size 28 #[.int .u8 0, .int .u8 0, .int .u8 0, .int .u8 0, .int .u8 0, .int .u8 0, .int .u8 0, .int .u8 0, .int .u8 0, .int .u8 0, .int .u8 0, .int .u8 0, .int .u8 0, .int .u8 0, .int .u8 0, .int .u8 0, .int .i64 0, .int .i64 0, .int .i64 0, .int .i64 0, .int .i64 0, .int .i64 0, .bool false, .bool false]) := by show RowIs W w.heap.size 28 #[.int .u8 0, .int .u8 0, .int .u8 0, .int .u8 0, .int .u8 0, .int .u8 0, .int .u8 0, .int .u8 0, .int .u8 0, .int .u8 0, .int .u8 0, .int .u8 0, .int .u8 0, .int .u8 0, .int .u8 0, .int .u8 0, .int .i64 0, .int .i64 0, .int .i64 0, .int .i64 0, .int .i64 0, .int .i64 0, .bool false, .bool false]; rw [← hW]; exact (rowIs_new w _ _).alloc _
  have HC : Hid (RowIs W (w.heap.size + 1) 28 #[.int .u8 0, .int .u8 0, .int .u8 0, .int .u8 0, .int .u8 0, .int .u8 0, .int .u8 0, .int .u8 0, .int .u8 0, .int .u8 0, .int .u8 0, .int .u8 0, .int .u8 0, .int .u8 0, .int .u8 0, .int .u8 0, .int .i64 0, .int .i64 0, .int .i64 0, .int .i64 0, .int .i64 0, .int .i64 0, .bool false, .bool false]) := by show RowIs W (w.heap.size + 1) 28 #[.int .u8 0, .int .u8 0, .int .u8 0, .int .u8 0, .int .u8 0, .int .u8 0, .int .u8 0, .int .u8 0, .int .u8 0, .int .u8 0, .int .u8 0, .int .u8 0, .int .u8 0, .int .u8 0, .int .u8 0, .int .u8 0, .int .i64 0, .int .i64 0, .int .i64 0, .int .i64 0, .int .i64 0, .int .i64 0, .bool false, .bool false]; rw [← hW]; exact rowIs_new1 w _ _ _
  have hbW : Below w.heap.size w W := by rw [← hW]; exact ((Below.refl _ _).alloc (Nat.le_refl _) _).alloc (by simp) _
  clear hW
  go_wp2_with fail
  go_loopw [6] (fun i wr => ∃ k : Nat, k ≤ 8 ∧ i = .int .i64 k ∧ Hid (RowIs wr w.heap.size 28 #[.int .u8 0, .int .u8 0, .int .u8 0, .int .u8 0, .int .u8 0, .int .u8 0, .int .u8 0, .int .u8 0, .int .u8 0, .int .u8 0, .int .u8 0, .int .u8 0, .int .u8 0, .int .u8 0, .int .u8 0, .int .u8 0, .int .i64 0, .int .i64 0, .int .i64 0, .int .i64 0, .int .i64 0, .int .i64 0, .bool false, .bool false]) ∧ RowIs wr (w.heap.size + 1) 28 (#[.int .u8 (if 0 < k then ((x 8).toNat : Int) else 0), .int .u8 (if 1 < k then ((x 9).toNat : Int) else 0), .int .u8 (if 2 < k then ((x 10).toNat : Int) else 0), .int .u8 (if 3 < k then ((x 11).toNat : Int) else 0), .int .u8 (if 4 < k then ((x 12).toNat : Int) else 0), .int .u8 (if 5 < k then ((x 13).toNat : Int) else 0), .int .u8 (if 6 < k then ((x 14).toNat : Int) else 0), .int .u8 (if 7 < k then ((x 15).toNat : Int) else 0), .int .u8 (if 0 < k then ((x 20).toNat : Int) else 0), .int .u8 (if 1 < k then ((x 21).toNat : Int) else 0), .int .u8 (if 2 < k then ((x 22).toNat : Int) else 0), .int .u8 (if 3 < k then ((x 23).toNat : Int) else 0), .int .u8 (if 4 < k then ((x 24).toNat : Int) else 0), .int .u8 (if 5 < k then ((x 25).toNat : Int) else 0), .int .u8 (if 6 < k then ((x 26).toNat : Int) else 0), .int .u8 (if 7 < k then ((x 27).toNat : Int) else 0), .int .i64 0, .int .i64 0, .int .i64 0, .int .i64 0, .int .i64 0, .int .i64 0, .bool false, .bool false]) ∧ Below w.heap.size w wr) (fun i _ => 8 - (intOf i).toNat)
  case atStart => exact ⟨0, Nat.zero_le _, rfl, HR, HC.out, hbW⟩
  case round =>
    rename_i wr
    obtain ⟨k, hk, rfl, HR, hC, hbR⟩ := hrel
    have HC := Lib.hid hC
    clear hC
    by_cases hlt : k < 8
    · rcases (show k = 0 ∨ k = 1 ∨ k = 2 ∨ k = 3 ∨ k = 4 ∨ k = 5 ∨ k = 6 ∨ k = 7 from by omega) with rfl | rfl | rfl | rfl | rfl | rfl | rfl | rfl
      · have g1 := getB HS.out 8 (by omega) (x 8) rfl
        have g2 := getB HS.out 20 (by omega) (x 20) rfl
        have HC : Hid (RowIs wr (w.heap.size + 1) 28 #[.int .u8 0, .int .u8 0, .int .u8 0, .int .u8 0, .int .u8 0, .int .u8 0, .int .u8 0, .int .u8 0, .int .u8 0, .int .u8 0, .int .u8 0, .int .u8 0, .int .u8 0, .int .u8 0, .int .u8 0, .int .u8 0, .int .i64 0, .int .i64 0, .int .i64 0, .int .i64 0, .int .i64 0, .int .i64 0, .bool false, .bool false]) := HC.out
        have hbW := hbR
        have hsz := Nat.le_refl wr.heap.size
        go_wp2_with ((with_reducible refine at_store 5 (.tmp 33) (.tmp 31) ?_); refine wpList_store_cell rfl 5 (.tmp 33) (.tmp 31) rfl (w.heap.size + 1) 0 _ rfl rfl 28 _ HC.out (by simp) (by kernel_rfl) rfl (w.heap.size + 1) (Nat.le_refl _) ?_)
        intro wk hC _ hsz' hbk
        try simp only [List.setIfInBounds_toArray, List.set] at hC
        have HC := Lib.hid hC
        have HR := Lib.hid (HR.out.below hbk (by omega))
        have hbW := hbW.trans (hbk.mono (by omega))
        have hsz := hsz'
        clear hC hbk hsz'
        go_wp2_with ((with_reducible refine at_store 5 (.tmp 40) (.tmp 38) ?_); refine wpList_store_cell rfl 5 (.tmp 40) (.tmp 38) rfl (w.heap.size + 1) 8 _ rfl rfl 28 _ HC.out (by simp) (by kernel_rfl) rfl (w.heap.size + 1) (Nat.le_refl _) ?_)
        intro wk hC _ hsz' hbk
        try simp only [List.setIfInBounds_toArray, List.set] at hC
        have HC := Lib.hid hC
        have HR := Lib.hid (HR.out.below hbk (by omega))
        have hbW := hbW.trans (hbk.mono (by omega))
        have hsz := hsz'
        clear hC hbk hsz'
        go_wp2_with fail
        exact ⟨⟨1, by omega, rfl, HR, HC.out, hbW⟩, by simp [intOf]⟩
      · have g1 := getB HS.out 9 (by omega) (x 9) rfl
        have g2 := getB HS.out 21 (by omega) (x 21) rfl
        have HC : Hid (RowIs wr (w.heap.size + 1) 28 #[.int .u8 ((x 8).toNat : Int), .int .u8 0, .int .u8 0, .int .u8 0, .int .u8 0, .int .u8 0, .int .u8 0, .int .u8 0, .int .u8 ((x 20).toNat : Int), .int .u8 0, .int .u8 0, .int .u8 0, .int .u8 0, .int .u8 0, .int .u8 0, .int .u8 0, .int .i64 0, .int .i64 0, .int .i64 0, .int .i64 0, .int .i64 0, .int .i64 0, .bool false, .bool false]) := HC.out
        have hbW := hbR
        have hsz := Nat.le_refl wr.heap.size
        go_wp2_with ((with_reducible refine at_store 5 (.tmp 33) (.tmp 31) ?_); refine wpList_store_cell rfl 5 (.tmp 33) (.tmp 31) rfl (w.heap.size + 1) 1 _ rfl rfl 28 _ HC.out (by simp) (by kernel_rfl) rfl (w.heap.size + 1) (Nat.le_refl _) ?_)
        intro wk hC _ hsz' hbk
        try simp only [List.setIfInBounds_toArray, List.set] at hC
        have HC := Lib.hid hC
        have HR := Lib.hid (HR.out.below hbk (by omega))
        have hbW := hbW.trans (hbk.mono (by omega))
        have hsz := hsz'
        clear hC hbk hsz'
        go_wp2_with ((with_reducible refine at_store 5 (.tmp 40) (.tmp 38) ?_); refine wpList_store_cell rfl 5 (.tmp 40) (.tmp 38) rfl (w.heap.size + 1) 9 _ rfl rfl 28 _ HC.out (by simp) (by kernel_rfl) rfl (w.heap.size + 1) (Nat.le_refl _) ?_)
        intro wk hC _ hsz' hbk
        try simp only [List.setIfInBounds_toArray, List.set] at hC
        have HC := Lib.hid hC
        have HR := Lib.hid (HR.out.below hbk (by omega))
        have hbW := hbW.trans (hbk.mono (by omega))
        have hsz := hsz'
        clear hC hbk hsz'
        go_wp2_with fail
        exact ⟨⟨2, by omega, rfl, HR, HC.out, hbW⟩, by simp [intOf]⟩
      · have g1 := getB HS.out 10 (by omega) (x 10) rfl
        have g2 := getB HS.out 22 (by omega) (x 22) rfl
        have HC : Hid (RowIs wr (w.heap.size + 1) 28 #[.int .u8 ((x 8).toNat : Int), .int .u8 ((x 9).toNat : Int), .int .u8 0, .int .u8 0, .int .u8 0, .int .u8 0, .int .u8 0, .int .u8 0, .int .u8 ((x 20).toNat : Int), .int .u8 ((x 21).toNat : Int), .int .u8 0, .int .u8 0, .int .u8 0, .int .u8 0, .int .u8 0, .int .u8 0, .int .i64 0, .int .i64 0, .int .i64 0, .int .i64 0, .int .i64 0, .int .i64 0, .bool false, .bool false]) := HC.out
        have hbW := hbR
        have hsz := Nat.le_refl wr.heap.size
        go_wp2_with ((with_reducible refine at_store 5 (.tmp 33) (.tmp 31) ?_); refine wpList_store_cell rfl 5 (.tmp 33) (.tmp 31) rfl (w.heap.size + 1) 2 _ rfl rfl 28 _ HC.out (by simp) (by kernel_rfl) rfl (w.heap.size + 1) (Nat.le_refl _) ?_)
        intro wk hC _ hsz' hbk
        try simp only [List.setIfInBounds_toArray, List.set] at hC
        have HC := Lib.hid hC
        have HR := Lib.hid (HR.out.below hbk (by omega))
        have hbW := hbW.trans (hbk.mono (by omega))
        have hsz := hsz'
        clear hC hbk hsz'
        go_wp2_with ((with_reducible refine at_store 5 (.tmp 40) (.tmp 38) ?_); refine wpList_store_cell rfl 5 (.tmp 40) (.tmp 38) rfl (w.heap.size + 1) 10 _ rfl rfl 28 _ HC.out (by simp) (by kernel_rfl) rfl (w.heap.size + 1) (Nat.le_refl _) ?_)
        intro wk hC _ hsz' hbk
        try simp only [List.setIfInBounds_toArray, List.set] at hC
        have HC := Lib.hid hC
        have HR := Lib.hid (HR.out.below hbk (by omega))
        have hbW := hbW.trans (hbk.mono (by omega))
        have hsz := hsz'
        clear hC hbk hsz'
        go_wp2_with fail
        exact ⟨⟨3, by omega, rfl, HR, HC.out, hbW⟩, by simp [intOf]⟩
      · have g1 := getB HS.out 11 (by omega) (x 11) rfl
        have g2 := getB HS.out 23 (by omega) (x 23) rfl
        have HC : Hid (RowIs wr (w.heap.size + 1) 28 #[.int .u8 ((x 8).toNat : Int), .int .u8 ((x 9).toNat : Int), .int .u8 ((x 10).toNat : Int), .int .u8 0, .int .u8 0, .int .u8 0, .int .u8 0, .int .u8 0, .int .u8 ((x 20).toNat : Int), .int .u8 ((x 21).toNat : Int), .int .u8 ((x 22).toNat : Int), .int .u8 0, .int .u8 0, .int .u8 0, .int .u8 0, .int .u8 0, .int .i64 0, .int .i64 0, .int .i64 0, .int .i64 0, .int .i64 0, .int .i64 0, .bool false, .bool false]) := HC.out
        have hbW := hbR
        have hsz := Nat.le_refl wr.heap.size
        go_wp2_with ((with_reducible refine at_store 5 (.tmp 33) (.tmp 31) ?_); refine wpList_store_cell rfl 5 (.tmp 33) (.tmp 31) rfl (w.heap.size + 1) 3 _ rfl rfl 28 _ HC.out (by simp) (by kernel_rfl) rfl (w.heap.size + 1) (Nat.le_refl _) ?_)
        intro wk hC _ hsz' hbk
        try simp only [List.setIfInBounds_toArray, List.set] at hC
        have HC := Lib.hid hC
        have HR := Lib.hid (HR.out.below hbk (by omega))
        have hbW := hbW.trans (hbk.mono (by omega))
        have hsz := hsz'
        clear hC hbk hsz'
        go_wp2_with ((with_reducible refine at_store 5 (.tmp 40) (.tmp 38) ?_); refine wpList_store_cell rfl 5 (.tmp 40) (.tmp 38) rfl (w.heap.size + 1) 11 _ rfl rfl 28 _ HC.out (by simp) (by kernel_rfl) rfl (w.heap.size + 1) (Nat.le_refl _) ?_)
        intro wk hC _ hsz' hbk
        try simp only [List.setIfInBounds_toArray, List.set] at hC
        have HC := Lib.hid hC
        have HR := Lib.hid (HR.out.below hbk (by omega))
        have hbW := hbW.trans (hbk.mono (by omega))
        have hsz := hsz'
        clear hC hbk hsz'
        go_wp2_with fail
        exact ⟨⟨4, by omega, rfl, HR, HC.out, hbW⟩, by simp [intOf]⟩
      · have g1 := getB HS.out 12 (by omega) (x 12) rfl
        have g2 := getB HS.out 24 (by omega) (x 24) rfl
        have HC : Hid (RowIs wr (w.heap.size + 1) 28 #[.int .u8 ((x 8).toNat : Int), .int .u8 ((x 9).toNat : Int), .int .u8 ((x 10).toNat : Int), .int .u8 ((x 11).toNat : Int), .int .u8 0, .int .u8 0, .int .u8 0, .int .u8 0, .int .u8 ((x 20).toNat : Int), .int .u8 ((x 21).toNat : Int), .int .u8 ((x 22).toNat : Int), .int .u8 ((x 23).toNat : Int), .int .u8 0, .int .u8 0, .int .u8 0, .int .u8 0, .int .i64 0, .int .i64 0, .int .i64 0, .int .i64 0, .int .i64 0, .int .i64 0, .bool false, .bool false]) := HC.out
        have hbW := hbR
        have hsz := Nat.le_refl wr.heap.size
        go_wp2_with ((with_reducible refine at_store 5 (.tmp 33) (.tmp 31) ?_); refine wpList_store_cell rfl 5 (.tmp 33) (.tmp 31) rfl (w.heap.size + 1) 4 _ rfl rfl 28 _ HC.out (by simp) (by kernel_rfl) rfl (w.heap.size + 1) (Nat.le_refl _) ?_)
        intro wk hC _ hsz' hbk
        try simp only [List.setIfInBounds_toArray, List.set] at hC
        have HC := Lib.hid hC
        have HR := Lib.hid (HR.out.below hbk (by omega))
        have hbW := hbW.trans (hbk.mono (by omega))
        have hsz := hsz'
        clear hC hbk hsz'
        go_wp2_with ((with_reducible refine at_store 5 (.tmp 40) (.tmp 38) ?_); refine wpList_store_cell rfl 5 (.tmp 40) (.tmp 38) rfl (w.heap.size + 1) 12 _ rfl rfl 28 _ HC.out (by simp) (by kernel_rfl) rfl (w.heap.size + 1) (Nat.le_refl _) ?_)
        intro wk hC _ hsz' hbk
        try simp only [List.setIfInBounds_toArray, List.set] at hC
        have HC := Lib.hid hC
        have HR := Lib.hid (HR.out.below hbk (by omega))
        have hbW := hbW.trans (hbk.mono (by omega))
        have hsz := hsz'
        clear hC hbk hsz'
        go_wp2_with fail
        exact ⟨⟨5, by omega, rfl, HR, HC.out, hbW⟩, by simp [intOf]⟩
      · have g1 := getB HS.out 13 (by omega) (x 13) rfl
        have g2 := getB HS.out 25 (by omega) (x 25) rfl
        have HC : Hid (RowIs wr (w.heap.size + 1) 28 #[.int .u8 ((x 8).toNat : Int), .int .u8 ((x 9).toNat : Int), .int .u8 ((x 10).toNat : Int), .int .u8 ((x 11).toNat : Int), .int .u8 ((x 12).toNat : Int), .int .u8 0, .int .u8 0, .int .u8 0, .int .u8 ((x 20).toNat : Int), .int .u8 ((x 21).toNat : Int), .int .u8 ((x 22).toNat : Int), .int .u8 ((x 23).toNat : Int), .int .u8 ((x 24).toNat : Int), .int .u8 0, .int .u8 0, .int .u8 0, .int .i64 0, .int .i64 0, .int .i64 0, .int .i64 0, .int .i64 0, .int .i64 0, .bool false, .bool false]) := HC.out
        have hbW := hbR
        have hsz := Nat.le_refl wr.heap.size
        go_wp2_with ((with_reducible refine at_store 5 (.tmp 33) (.tmp 31) ?_); refine wpList_store_cell rfl 5 (.tmp 33) (.tmp 31) rfl (w.heap.size + 1) 5 _ rfl rfl 28 _ HC.out (by simp) (by kernel_rfl) rfl (w.heap.size + 1) (Nat.le_refl _) ?_)
        intro wk hC _ hsz' hbk
        try simp only [List.setIfInBounds_toArray, List.set] at hC
        have HC := Lib.hid hC
        have HR := Lib.hid (HR.out.below hbk (by omega))
        have hbW := hbW.trans (hbk.mono (by omega))
        have hsz := hsz'
        clear hC hbk hsz'
        go_wp2_with ((with_reducible refine at_store 5 (.tmp 40) (.tmp 38) ?_); refine wpList_store_cell rfl 5 (.tmp 40) (.tmp 38) rfl (w.heap.size + 1) 13 _ rfl rfl 28 _ HC.out (by simp) (by kernel_rfl) rfl (w.heap.size + 1) (Nat.le_refl _) ?_)
        intro wk hC _ hsz' hbk
        try simp only [List.setIfInBounds_toArray, List.set] at hC
        have HC := Lib.hid hC
        have HR := Lib.hid (HR.out.below hbk (by omega))
        have hbW := hbW.trans (hbk.mono (by omega))
        have hsz := hsz'
        clear hC hbk hsz'
        go_wp2_with fail
        exact ⟨⟨6, by omega, rfl, HR, HC.out, hbW⟩, by simp [intOf]⟩
      · have g1 := getB HS.out 14 (by omega) (x 14) rfl
        have g2 := getB HS.out 26 (by omega) (x 26) rfl
        have HC : Hid (RowIs wr (w.heap.size + 1) 28 #[.int .u8 ((x 8).toNat : Int), .int .u8 ((x 9).toNat : Int), .int .u8 ((x 10).toNat : Int), .int .u8 ((x 11).toNat : Int), .int .u8 ((x 12).toNat : Int), .int .u8 ((x 13).toNat : Int), .int .u8 0, .int .u8 0, .int .u8 ((x 20).toNat : Int), .int .u8 ((x 21).toNat : Int), .int .u8 ((x 22).toNat : Int), .int .u8 ((x 23).toNat : Int), .int .u8 ((x 24).toNat : Int), .int .u8 ((x 25).toNat : Int), .int .u8 0, .int .u8 0, .int .i64 0, .int .i64 0, .int .i64 0, .int .i64 0, .int .i64 0, .int .i64 0, .bool false, .bool false]) := HC.out
        have hbW := hbR
        have hsz := Nat.le_refl wr.heap.size
        go_wp2_with ((with_reducible refine at_store 5 (.tmp 33) (.tmp 31) ?_); refine wpList_store_cell rfl 5 (.tmp 33) (.tmp 31) rfl (w.heap.size + 1) 6 _ rfl rfl 28 _ HC.out (by simp) (by kernel_rfl) rfl (w.heap.size + 1) (Nat.le_refl _) ?_)
        intro wk hC _ hsz' hbk
        try simp only [List.setIfInBounds_toArray, List.set] at hC
        have HC := Lib.hid hC
        have HR := Lib.hid (HR.out.below hbk (by omega))
        have hbW := hbW.trans (hbk.mono (by omega))
        have hsz := hsz'
        clear hC hbk hsz'
        go_wp2_with ((with_reducible refine at_store 5 (.tmp 40) (.tmp 38) ?_); refine wpList_store_cell rfl 5 (.tmp 40) (.tmp 38) rfl (w.heap.size + 1) 14 _ rfl rfl 28 _ HC.out (by simp) (by kernel_rfl) rfl (w.heap.size + 1) (Nat.le_refl _) ?_)
        intro wk hC _ hsz' hbk
        try simp only [List.setIfInBounds_toArray, List.set] at hC
        have HC := Lib.hid hC
        have HR := Lib.hid (HR.out.below hbk (by omega))
        have hbW := hbW.trans (hbk.mono (by omega))
        have hsz := hsz'
        clear hC hbk hsz'
        go_wp2_with fail
        exact ⟨⟨7, by omega, rfl, HR, HC.out, hbW⟩, by simp [intOf]⟩
      · have g1 := getB HS.out 15 (by omega) (x 15) rfl
        have g2 := getB HS.out 27 (by omega) (x 27) rfl
        have HC : Hid (RowIs wr (w.heap.size + 1) 28 #[.int .u8 ((x 8).toNat : Int), .int .u8 ((x 9).toNat : Int), .int .u8 ((x 10).toNat : Int), .int .u8 ((x 11).toNat : Int), .int .u8 ((x 12).toNat : Int), .int .u8 ((x 13).toNat : Int), .int .u8 ((x 14).toNat : Int), .int .u8 0, .int .u8 ((x 20).toNat : Int), .int .u8 ((x 21).toNat : Int), .int .u8 ((x 22).toNat : Int), .int .u8 ((x 23).toNat : Int), .int .u8 ((x 24).toNat : Int), .int .u8 ((x 25).toNat : Int), .int .u8 ((x 26).toNat : Int), .int .u8 0, .int .i64 0, .int .i64 0, .int .i64 0, .int .i64 0, .int .i64 0, .int .i64 0, .bool false, .bool false]) := HC.out
        have hbW := hbR
        have hsz := Nat.le_refl wr.heap.size
        go_wp2_with ((with_reducible refine at_store 5 (.tmp 33) (.tmp 31) ?_); refine wpList_store_cell rfl 5 (.tmp 33) (.tmp 31) rfl (w.heap.size + 1) 7 _ rfl rfl 28 _ HC.out (by simp) (by kernel_rfl) rfl (w.heap.size + 1) (Nat.le_refl _) ?_)
        intro wk hC _ hsz' hbk
        try simp only [List.setIfInBounds_toArray, List.set] at hC
        have HC := Lib.hid hC
        have HR := Lib.hid (HR.out.below hbk (by omega))
        have hbW := hbW.trans (hbk.mono (by omega))
        have hsz := hsz'
        clear hC hbk hsz'
        go_wp2_with ((with_reducible refine at_store 5 (.tmp 40) (.tmp 38) ?_); refine wpList_store_cell rfl 5 (.tmp 40) (.tmp 38) rfl (w.heap.size + 1) 15 _ rfl rfl 28 _ HC.out (by simp) (by kernel_rfl) rfl (w.heap.size + 1) (Nat.le_refl _) ?_)
        intro wk hC _ hsz' hbk
        try simp only [List.setIfInBounds_toArray, List.set] at hC
        have HC := Lib.hid hC
        have HR := Lib.hid (HR.out.below hbk (by omega))
        have hbW := hbW.trans (hbk.mono (by omega))
        have hsz := hsz'
        clear hC hbk hsz'
        go_wp2_with fail
        exact ⟨⟨8, by omega, rfl, HR, HC.out, hbW⟩, by simp [intOf]⟩
    · obtain rfl : k = 8 := by omega
      have HC : Hid (RowIs wr (w.heap.size + 1) 28 #[.int .u8 ((x 8).toNat : Int), .int .u8 ((x 9).toNat : Int), .int .u8 ((x 10).toNat : Int), .int .u8 ((x 11).toNat : Int), .int .u8 ((x 12).toNat : Int), .int .u8 ((x 13).toNat : Int), .int .u8 ((x 14).toNat : Int), .int .u8 ((x 15).toNat : Int), .int .u8 ((x 20).toNat : Int), .int .u8 ((x 21).toNat : Int), .int .u8 ((x 22).toNat : Int), .int .u8 ((x 23).toNat : Int), .int .u8 ((x 24).toNat : Int), .int .u8 ((x 25).toNat : Int), .int .u8 ((x 26).toNat : Int), .int .u8 ((x 27).toNat : Int), .int .i64 0, .int .i64 0, .int .i64 0, .int .i64 0, .int .i64 0, .int .i64 0, .bool false, .bool false]) := HC.out
      have hbW := hbR
      have hsz := Nat.le_refl wr.heap.size
      go_wp2_with fail
      refine (N1.out _).mono ?_
      rintro e wn ⟨rfl, rfl⟩
      go_wp2_with ((with_reducible refine at_store 3 (.tmp 44) (.tmp 43) ?_); refine wpList_store_cell rfl 3 (.tmp 44) (.tmp 43) rfl (w.heap.size + 1) 16 _ rfl rfl 28 _ HC.out (by simp) (by kernel_rfl) rfl (w.heap.size + 1) (Nat.le_refl _) ?_)
      intro wk hC _ hsz' hbk
      try simp only [List.setIfInBounds_toArray, List.set] at hC
      have HC := Lib.hid hC
      have HR := Lib.hid (HR.out.below hbk (by omega))
      have hbW := hbW.trans (hbk.mono (by omega))
      have hsz := hsz'
      clear hC hbk hsz'
      go_wp2_with fail
      refine (N2.out _).mono ?_
      rintro e wn ⟨rfl, rfl⟩
      go_wp2_with ((with_reducible refine at_store 3 (.tmp 48) (.tmp 47) ?_); refine wpList_store_cell rfl 3 (.tmp 48) (.tmp 47) rfl (w.heap.size + 1) 17 _ rfl rfl 28 _ HC.out (by simp) (by kernel_rfl) rfl (w.heap.size + 1) (Nat.le_refl _) ?_)
      intro wk hC _ hsz' hbk
      try simp only [List.setIfInBounds_toArray, List.set] at hC
      have HC := Lib.hid hC
      have HR := Lib.hid (HR.out.below hbk (by omega))
      have hbW := hbW.trans (hbk.mono (by omega))
      have hsz := hsz'
      clear hC hbk hsz'
      go_wp2_with fail
      refine (N3.out _).mono ?_
      rintro e wn ⟨rfl, rfl⟩
      go_wp2_with ((with_reducible refine at_store 3 (.tmp 52) (.tmp 51) ?_); refine wpList_store_cell rfl 3 (.tmp 52) (.tmp 51) rfl (w.heap.size + 1) 18 _ rfl rfl 28 _ HC.out (by simp) (by kernel_rfl) rfl (w.heap.size + 1) (Nat.le_refl _) ?_)
      intro wk hC _ hsz' hbk
      try simp only [List.setIfInBounds_toArray, List.set] at hC
      have HC := Lib.hid hC
      have HR := Lib.hid (HR.out.below hbk (by omega))
      have hbW := hbW.trans (hbk.mono (by omega))
      have hsz := hsz'
      clear hC hbk hsz'
      go_wp2_with fail
      refine (N4.out _).mono ?_
      rintro e wn ⟨rfl, rfl⟩
      go_wp2_with ((with_reducible refine at_store 3 (.tmp 56) (.tmp 55) ?_); refine wpList_store_cell rfl 3 (.tmp 56) (.tmp 55) rfl (w.heap.size + 1) 19 _ rfl rfl 28 _ HC.out (by simp) (by kernel_rfl) rfl (w.heap.size + 1) (Nat.le_refl _) ?_)
      intro wk hC _ hsz' hbk
      try simp only [List.setIfInBounds_toArray, List.set] at hC
      have HC := Lib.hid hC
      have HR := Lib.hid (HR.out.below hbk (by omega))
      have hbW := hbW.trans (hbk.mono (by omega))
      have hsz := hsz'
      clear hC hbk hsz'
      go_wp2_with fail
      refine (N5.out _).mono ?_
      rintro e wn ⟨rfl, rfl⟩
      go_wp2_with ((with_reducible refine at_store 3 (.tmp 60) (.tmp 59) ?_); refine wpList_store_cell rfl 3 (.tmp 60) (.tmp 59) rfl (w.heap.size + 1) 20 _ rfl rfl 28 _ HC.out (by simp) (by kernel_rfl) rfl (w.heap.size + 1) (Nat.le_refl _) ?_)
      intro wk hC _ hsz' hbk
      try simp only [List.setIfInBounds_toArray, List.set] at hC
      have HC := Lib.hid hC
      have HR := Lib.hid (HR.out.below hbk (by omega))
      have hbW := hbW.trans (hbk.mono (by omega))
      have hsz := hsz'
      clear hC hbk hsz'
      go_wp2_with fail
      refine (N6.out _).mono ?_
      rintro e wn ⟨rfl, rfl⟩
      go_wp2_with ((with_reducible refine at_store 3 (.tmp 64) (.tmp 63) ?_); refine wpList_store_cell rfl 3 (.tmp 64) (.tmp 63) rfl (w.heap.size + 1) 21 _ rfl rfl 28 _ HC.out (by simp) (by kernel_rfl) rfl (w.heap.size + 1) (Nat.le_refl _) ?_)
      intro wk hC _ hsz' hbk
      try simp only [List.setIfInBounds_toArray, List.set] at hC
      have HC := Lib.hid hC
      have HR := Lib.hid (HR.out.below hbk (by omega))
      have hbW := hbW.trans (hbk.mono (by omega))
      have hsz := hsz'
      clear hC hbk hsz'
      go_wp2_with ((with_reducible refine at_store 4 (.tmp 69) (.tmp 68) ?_); refine wpList_store_cell rfl 4 (.tmp 69) (.tmp 68) rfl (w.heap.size + 1) 22 _ rfl rfl 28 _ HC.out (by simp) (by kernel_rfl) rfl (w.heap.size + 1) (Nat.le_refl _) ?_)
      intro wk hC _ hsz' hbk
      try simp only [List.setIfInBounds_toArray, List.set] at hC
      have HC := Lib.hid hC
      have HR := Lib.hid (HR.out.below hbk (by omega))
      have hbW := hbW.trans (hbk.mono (by omega))
      have hsz := hsz'
      clear hC hbk hsz'
      go_wp2_with ((with_reducible refine at_store 4 (.tmp 73) (.tmp 72) ?_); refine wpList_store_cell rfl 4 (.tmp 73) (.tmp 72) rfl (w.heap.size + 1) 23 _ rfl rfl 28 _ HC.out (by simp) (by kernel_rfl) rfl (w.heap.size + 1) (Nat.le_refl _) ?_)
      intro wk hC _ hsz' hbk
      try simp only [List.setIfInBounds_toArray, List.set] at hC
      have HC := Lib.hid hC
      have HR := Lib.hid (HR.out.below hbk (by omega))
      have hbW := hbW.trans (hbk.mono (by omega))
      have hsz := hsz'
      clear hC hbk hsz'
      have c18 := HC.out.cell 18
      have c19 := HC.out.cell 19
      change _ = some (Value.int .i64 (n3 : Nat)) at c18
      change _ = some (Value.int .i64 (n4 : Nat)) at c19
      go_upto_region 23 with fail
      have hcase : ((x 7).toNat = 0 ∨ (x 7).toNat = 1 ∨ (x 7).toNat = 128 ∨ (x 7).toNat = 129) ∧ n3 < n4 ∨ ((x 7).toNat = 0 ∨ (x 7).toNat = 1 ∨ (x 7).toNat = 128 ∨ (x 7).toNat = 129) ∧ n4 ≤ n3 ∨ (¬ (x 7).toNat = 0 ∧ ¬ (x 7).toNat = 1 ∧ ¬ (x 7).toNat = 128 ∧ ¬ (x 7).toNat = 129) := by omega
      rcases hcase with ⟨h4, hlt⟩ | ⟨h4, hle⟩ | ⟨m0, m1, m2, m3⟩
      · have hbad : Bpdu.bad (x 7) n3 n4 = false := by rw [HB.out, decide_eq_false (by omega), decide_eq_false (by omega)]; rfl
        have hbad := Lib.hid hbad
        rcases h4 with h4 | h4 | h4 | h4
        all_goals
          go_wp2_with (first | ((with_reducible refine at_load 28 (.tmp 5) ?_); refine wpList_load_own rfl 28 (.tmp 5) rfl _ rfl _ _ _ HC.out Try.underlying28 rfl info_rword ?_) | ((with_reducible refine at_store 28 (.tmp 2) (.tmp 100) ?_); refine wpList_store_own rfl 28 (.tmp 2) (.tmp 100) rfl w.heap.size _ rfl rfl _ _ HR.out info_rword rfl (by kernel_rfl) w.heap.size (Nat.le_refl _) ?_))
          intro w9 r9 _ _ hb9
          have R9 := Lib.hid r9
          clear r9
          go_wp2_with fail
          refine bodyPost_ret (results_row_tmp2 Try.results16 _ _ w.heap.size _ _ _ rfl R9.out Try.underlying28 rfl info_rword) rfl ?_
          exact ⟨by rw [← HRV.out, if_neg (by rw [hbad.out]; decide), ← HL1.out, ← HL2.out, h4]; rfl, hbW.trans hb9⟩
      · have hbad : Bpdu.bad (x 7) n3 n4 = true := by rw [HB.out, decide_eq_true hle, Bool.or_true]
        have hbad := Lib.hid hbad
        rcases h4 with h4 | h4 | h4 | h4
        all_goals
          go_wp2_with ((with_reducible refine at_store 28 (.tmp 2) (.tmp 99) ?_); refine wpList_store_own rfl 28 (.tmp 2) (.tmp 99) rfl w.heap.size _ rfl rfl _ _ HR.out info_rword rfl (by kernel_rfl) w.heap.size (Nat.le_refl _) ?_)
          intro w9 r9 _ _ hb9
          have R9 := Lib.hid r9
          clear r9
          go_wp2_with fail
          refine bodyPost_ret (results_row_tmp2 Try.results16 _ _ w.heap.size _ _ _ rfl R9.out Try.underlying28 rfl info_rword) rfl ?_
          exact ⟨by rw [← HRV.out, if_pos hbad.out]; rfl, hbW.trans hb9⟩
      · have hbad : Bpdu.bad (x 7) n3 n4 = true := by rw [HB.out, decide_eq_true ⟨m0, m1, m2, m3⟩, Bool.true_or]
        have hbad := Lib.hid hbad
        go_wp2_with ((with_reducible refine at_store 28 (.tmp 2) (.tmp 99) ?_); refine wpList_store_own rfl 28 (.tmp 2) (.tmp 99) rfl w.heap.size _ rfl rfl _ _ HR.out info_rword rfl (by kernel_rfl) w.heap.size (Nat.le_refl _) ?_)
        intro w9 r9 _ _ hb9
        have R9 := Lib.hid r9
        clear r9
        go_wp2_with fail
        refine bodyPost_ret (results_row_tmp2 Try.results16 _ _ w.heap.size _ _ _ rfl R9.out Try.underlying28 rfl info_rword) rfl ?_
        exact ⟨by rw [← HRV.out, if_pos hbad.out]; rfl, hbW.trans hb9⟩
end Go.Proofs.Ytkbnkacmmjabkaa
