/- The walk of OctBack. By an AI agent. -/
import Derived.Test.YtknnadnjikfibaaDoorReadLaw
import Derived.Test.YtknnadnjikfibaaDoorBeNum
import Derived.Test.YtknnadnjikfibaaDoorArrays
import Derived.Deep.DeepCutAuto
namespace Go.Proofs.YtknnadnjikfibaaDoor
open Go.RowKit

theorem number_four (n : Nat) (hn : n < 4294967296) (w : World) : Calls Tryd.prog 11 #[.string ⟨(Oct.four (n : Int)).toArray⟩] w fun e w' => e = .returned (.tuple #[.int .i64 (n : Int), .int .i64 0]) ∧ w = w' := by
  have e : Oct.four (n : Int) = Oct.be 4 n := by
    unfold Oct.four
    rw [if_pos (by omega)]
    rfl
  rw [e]
  have h := number_any ⟨(Oct.be 4 n).toArray⟩ w (by show (Oct.be 4 n).toArray.size ≤ 7; rw [List.size_toArray, Oct.be_length]; decide)
  have h2 : Oct.num (Oct.be 4 n) = n := Oct.num_be 4 n (by simpa using hn)
  rw [show Oct.num (⟨(Oct.be 4 n).toArray⟩ : ByteArray).data.toList = n from h2] at h
  exact h
theorem number_two (n : Nat) (hn : n < 65536) (w : World) : Calls Tryd.prog 11 #[.string ⟨(Oct.two (n : Int)).toArray⟩] w fun e w' => e = .returned (.tuple #[.int .i64 (n : Int), .int .i64 0]) ∧ w = w' := by
  have e : Oct.two (n : Int) = Oct.be 2 n := by
    unfold Oct.two
    rw [if_pos (by omega)]
    rfl
  rw [e]
  have h := number_any ⟨(Oct.be 2 n).toArray⟩ w (by show (Oct.be 2 n).toArray.size ≤ 7; rw [List.size_toArray, Oct.be_length]; decide)
  have h2 : Oct.num (Oct.be 2 n) = n := Oct.num_be 2 n (by simpa using hn)
  rw [show Oct.num (⟨(Oct.be 2 n).toArray⟩ : ByteArray).data.toList = n from h2] at h
  exact h
theorem infoMac' : (Tryd.prog.info? 24).map (·.size) = some 6 := by kernel_rfl

set_option maxRecDepth 20000 in
set_option maxHeartbeats 4000000 in
theorem octBack_go (n : Nat) (hn : n < 4294967296) (a b c d e f p q r s : UInt8) (w : World) :
    Calls Tryd.prog 4 #[.int .u32 (n : Int), .agg #[.int .u8 (a.toNat : Int), .int .u8 (b.toNat : Int), .int .u8 (c.toNat : Int), .int .u8 (d.toNat : Int), .int .u8 (e.toNat : Int), .int .u8 (f.toNat : Int)], .agg #[.int .u8 (p.toNat : Int), .int .u8 (q.toNat : Int), .int .u8 (r.toNat : Int), .int .u8 (s.toNat : Int)]] w fun e w' => e = .returned (.bool true) ∧ Below w.heap.size w w' := by
  have H4 := Lib.hid (fun w => four_any (n : Int) w)
  have HN4 := Lib.hid (fun w => number_four n hn w)
  have hm : n % 65536 < 65536 := Nat.mod_lt _ (by decide)
  have H2 := Lib.hid (fun w => two_any ((n % 65536 : Nat) : Int) w)
  have HN2 := Lib.hid (fun w => number_two (n % 65536) hm w)
  have em : (n : Int) % 65536 = ((n % 65536 : Nat) : Int) := by omega
  generalize n % 65536 = k at *
  have e1 := run_equalIn_mac 9998 a b c d e f a b c d e f
  have e2 := run_equalIn_ip 9998 p q r s p q r s
  rw [show eqB [a, b, c, d, e, f] [a, b, c, d, e, f] = true from eqB_true.2 rfl] at e1
  rw [show eqB [p, q, r, s] [p, q, r, s] = true from eqB_true.2 rfl] at e2
  go_enter Tryd.func4, Tryd.ntmps4
  go_wp2_with fail
  generalize hW : (w.alloc _).alloc _ = W
  have HRM : Hid (RowIs W w.heap.size 24 #[.int .u8 (a.toNat : Int), .int .u8 (b.toNat : Int), .int .u8 (c.toNat : Int), .int .u8 (d.toNat : Int), .int .u8 (e.toNat : Int), .int .u8 (f.toNat : Int)]) := by rw [← hW]; exact (rowIs_new w _ _).alloc _
  have HRI : Hid (RowIs W (w.heap.size + 1) 28 #[.int .u8 (p.toNat : Int), .int .u8 (q.toNat : Int), .int .u8 (r.toNat : Int), .int .u8 (s.toNat : Int)]) := by
    rw [← hW]
    have := rowIs_new (w.alloc (.cells #[.int .u8 (a.toNat : Int), .int .u8 (b.toNat : Int), .int .u8 (c.toNat : Int), .int .u8 (d.toNat : Int), .int .u8 (e.toNat : Int), .int .u8 (f.toNat : Int)] 24)) 28 #[.int .u8 (p.toNat : Int), .int .u8 (q.toNat : Int), .int .u8 (r.toNat : Int), .int .u8 (s.toNat : Int)]
    rwa [World.size_alloc] at this
  have hbW : Below w.heap.size w W := by rw [← hW]; exact ((Below.refl _ _).alloc (Nat.le_refl _) _).alloc (by simp) _
  clear hW
  refine (awake_any _).mono ?_
  rintro e w1 ⟨rfl, hb1⟩
  have HRM := Lib.hid (HRM.out.kept hb1)
  have HRI := Lib.hid (HRI.out.kept hb1)
  have hbW := hbW.trans (hb1.mono hbW.size)
  clear hb1
  go_wp2_with fail
  refine (H4.out _).mono ?_
  rintro e w2 ⟨rfl, hb2⟩
  go_wp2_with fail
  refine (HN4.out _).mono ?_
  rintro e w3 ⟨rfl, rfl⟩
  have HRM := Lib.hid (HRM.out.kept hb2)
  have HRI := Lib.hid (HRI.out.kept hb2)
  have hbW := hbW.trans (hb2.mono hbW.size)
  clear hb2
  go_wp2_with fail
  refine (H2.out _).mono ?_
  rintro e w4 ⟨rfl, hb4⟩
  go_wp2_with fail
  refine (HN2.out _).mono ?_
  rintro e w5 ⟨rfl, rfl⟩
  have HRM := Lib.hid (HRM.out.kept hb4)
  have HRI := Lib.hid (HRI.out.kept hb4)
  have hbW := hbW.trans (hb4.mono hbW.size)
  clear hb4
  go_wp2_with ((with_reducible refine at_load 24 (.tmp 4) ?_); refine wpList_load_own rfl 24 (.tmp 4) rfl _ rfl _ _ _ HRM.out Tryd.underlying24 rfl infoMac' ?_)
  refine (macText_any _ _ _ _ _ _ _).mono ?_
  rintro e' w6 ⟨rfl, hb6⟩
  go_wp2_with fail
  refine (readMac_laid _ _ _ _ _ _ _).mono ?_
  rintro e' w7 ⟨rfl, hb7⟩
  have hb67 := hb6.trans (hb7.mono hb6.size)
  have HRM := Lib.hid (HRM.out.kept hb67)
  have HRI := Lib.hid (HRI.out.kept hb67)
  have hbW := hbW.trans (hb67.mono hbW.size)
  clear hb6 hb7 hb67
  go_wp2_with (first | ((with_reducible refine at_store 24 (.tmp 11) (.tmp 36) ?_); refine wpList_store_own rfl 24 (.tmp 11) (.tmp 36) rfl w7.heap.size _ rfl rfl 24 _ (rowIs_new _ _ _) infoMac' rfl (by kernel_rfl) w7.heap.size (Nat.le_refl _) ?_; intro w8 r2 _ hs2 hb2; have hb8 : Below w7.heap.size w7 w8 := ((Below.refl _ _).alloc (Nat.le_refl _) _).trans hb2; have HR8 := Lib.hid r2; have HRM8 := Lib.hid (HRM.out.kept hb8); have HRI8 := Lib.hid (HRI.out.kept hb8); have hbW8 := hbW.trans (hb8.mono hbW.size); clear r2 hs2 hb2) | ((with_reducible refine at_load 28 (.tmp 5) ?_); refine wpList_load_own rfl 28 (.tmp 5) rfl _ rfl _ _ _ HRI8.out Tryd.underlying28 rfl infoIp ?_))
  refine (ipText_any _ _ _ _ _).mono ?_
  rintro e' w9 ⟨rfl, hb9⟩
  go_wp2_with fail
  refine (readIp_laid _ _ _ _ _).mono ?_
  rintro e' wa ⟨rfl, hba⟩
  have hb9a := hb9.trans (hba.mono hb9.size)
  have HRM := Lib.hid (HRM8.out.kept hb9a)
  have HRI := Lib.hid (HRI8.out.kept hb9a)
  have HR11 := Lib.hid (HR8.out.kept hb9a)
  have hbW := hbW8.trans (hb9a.mono hbW8.size)
  clear hb9 hba hb9a HRM8 HRI8 HR8 hbW8
  go_upto_region 7 with ((with_reducible refine at_store 28 (.tmp 13) (.tmp 42) ?_); refine wpList_store_own rfl 28 (.tmp 13) (.tmp 42) rfl wa.heap.size _ rfl rfl 28 _ (rowIs_new _ _ _) infoIp rfl (by kernel_rfl) wa.heap.size (Nat.le_refl _) ?_; intro wb r2 _ hs2 hb2; have hb8 : Below wa.heap.size wa wb := ((Below.refl _ _).alloc (Nat.le_refl _) _).trans hb2; have HR8 := Lib.hid r2; have HRM8 := Lib.hid (HRM.out.kept hb8); have HRI8 := Lib.hid (HRI.out.kept hb8); have hbW8 := hbW.trans (hb8.mono hbW.size); clear r2 hs2 hb2)
  have HR11 := Lib.hid (HR11.out.kept hb8)
  have k11_0 := HR11.out.cell 0
  simp only [List.getElem?_toArray, List.getElem?_cons_zero, List.getElem?_cons_succ] at k11_0
  have k11_1 := HR11.out.cell 1
  simp only [List.getElem?_toArray, List.getElem?_cons_zero, List.getElem?_cons_succ] at k11_1
  have k11_2 := HR11.out.cell 2
  simp only [List.getElem?_toArray, List.getElem?_cons_zero, List.getElem?_cons_succ] at k11_2
  have k11_3 := HR11.out.cell 3
  simp only [List.getElem?_toArray, List.getElem?_cons_zero, List.getElem?_cons_succ] at k11_3
  have k11_4 := HR11.out.cell 4
  simp only [List.getElem?_toArray, List.getElem?_cons_zero, List.getElem?_cons_succ] at k11_4
  have k11_5 := HR11.out.cell 5
  simp only [List.getElem?_toArray, List.getElem?_cons_zero, List.getElem?_cons_succ] at k11_5
  have km_0 := HRM8.out.cell 0
  simp only [List.getElem?_toArray, List.getElem?_cons_zero, List.getElem?_cons_succ] at km_0
  have km_1 := HRM8.out.cell 1
  simp only [List.getElem?_toArray, List.getElem?_cons_zero, List.getElem?_cons_succ] at km_1
  have km_2 := HRM8.out.cell 2
  simp only [List.getElem?_toArray, List.getElem?_cons_zero, List.getElem?_cons_succ] at km_2
  have km_3 := HRM8.out.cell 3
  simp only [List.getElem?_toArray, List.getElem?_cons_zero, List.getElem?_cons_succ] at km_3
  have km_4 := HRM8.out.cell 4
  simp only [List.getElem?_toArray, List.getElem?_cons_zero, List.getElem?_cons_succ] at km_4
  have km_5 := HRM8.out.cell 5
  simp only [List.getElem?_toArray, List.getElem?_cons_zero, List.getElem?_cons_succ] at km_5
  have k13_0 := HR8.out.cell 0
  simp only [List.getElem?_toArray, List.getElem?_cons_zero, List.getElem?_cons_succ] at k13_0
  have k13_1 := HR8.out.cell 1
  simp only [List.getElem?_toArray, List.getElem?_cons_zero, List.getElem?_cons_succ] at k13_1
  have k13_2 := HR8.out.cell 2
  simp only [List.getElem?_toArray, List.getElem?_cons_zero, List.getElem?_cons_succ] at k13_2
  have k13_3 := HR8.out.cell 3
  simp only [List.getElem?_toArray, List.getElem?_cons_zero, List.getElem?_cons_succ] at k13_3
  have ki_0 := HRI8.out.cell 0
  simp only [List.getElem?_toArray, List.getElem?_cons_zero, List.getElem?_cons_succ] at ki_0
  have ki_1 := HRI8.out.cell 1
  simp only [List.getElem?_toArray, List.getElem?_cons_zero, List.getElem?_cons_succ] at ki_1
  have ki_2 := HRI8.out.cell 2
  simp only [List.getElem?_toArray, List.getElem?_cons_zero, List.getElem?_cons_succ] at ki_2
  have ki_3 := HRI8.out.cell 3
  simp only [List.getElem?_toArray, List.getElem?_cons_zero, List.getElem?_cons_succ] at ki_3
  clear HR11 HRM8 HR8 HRI8 HRM HRI hb8
  go_wp2_with fail
  go_ret
  exact ⟨rfl, hbW8⟩

theorem octBack_walk (n : Int) (hn : (Lit.int .u32 n).wf = true) (a b c d e f p q r s : UInt8) (w : World) :
    Calls Tryd.prog 4 #[.int .u32 n, .agg #[.int .u8 (a.toNat : Int), .int .u8 (b.toNat : Int), .int .u8 (c.toNat : Int), .int .u8 (d.toNat : Int), .int .u8 (e.toNat : Int), .int .u8 (f.toNat : Int)], .agg #[.int .u8 (p.toNat : Int), .int .u8 (q.toNat : Int), .int .u8 (r.toNat : Int), .int .u8 (s.toNat : Int)]] w fun e w' => e = .returned (.bool true) ∧ Below w.heap.size w w' := by
  simp only [Lit.wf, Bool.and_eq_true, decide_eq_true_eq] at hn
  have hn : 0 ≤ n ∧ n ≤ 4294967295 := hn
  obtain ⟨n, rfl⟩ := Int.eq_ofNat_of_zero_le hn.1
  exact octBack_go n (by omega) a b c d e f p q r s w
end Go.Proofs.YtknnadnjikfibaaDoor
