/- The walk of OctOnly. By an AI agent. -/
import Derived.Test.YtknnadnjikfibaaDoorOctBack
namespace Go.Proofs.YtknnadnjikfibaaDoor
open Go.RowKit

set_option maxRecDepth 20000 in
set_option maxHeartbeats 8000000 in
theorem octOnly_go (s t : ByteArray) (h1 : s.size ≤ 1000) (h2 : t.size ≤ 1000) (w : World) :
    Calls Tryd.prog 3 #[.string s, .string t] w fun e w' => e = .returned (.bool true) ∧ Below w.heap.size w w' := by
  have d1 : decide (1000 < (s.size : Int)) = false := decide_eq_false (by omega)
  have d2 : decide (1000 < (t.size : Int)) = false := decide_eq_false (by omega)
  have e1 := run_equalIn_mac 9998 0 0 0 0 0 0 0 0 0 0 0 0
  have e2 := run_equalIn_ip 9998 0 0 0 0 0 0 0 0
  rw [show eqB [0, 0, 0, 0, 0, 0] [0, 0, 0, 0, 0, 0] = true from eqB_true.2 rfl] at e1
  rw [show eqB [0, 0, 0, 0] [0, 0, 0, 0] = true from eqB_true.2 rfl] at e2
  simp only [UInt8.toNat_ofNat, Nat.zero_mod, Int.ofNat_eq_natCast, Int.natCast_zero, Nat.reducePow, Nat.reduceMod] at e1 e2
  have HEM := Lib.hid e1
  have HEI := Lib.hid e2
  clear e1 e2
  go_enter Tryd.func3, Tryd.ntmps3
  go_wp2_with fail
  refine (awake_any _).mono ?_
  rintro e w1 ⟨rfl, hbW⟩
  go_wp2_with fail
  refine (readMac_any s (by omega) _).mono ?_
  rintro e' w4 ⟨hans, hb4⟩
  have hbW := hbW.trans (hb4.mono hbW.size)
  clear hb4
  rcases macAns_two hans with ⟨a, b, c, d, x, y, hs, rfl⟩ | ⟨hno, rfl⟩
  · have HS := Lib.hid hs
    clear hs hans
    go_wp2_with ((with_reducible refine at_store 24 (.tmp 5) (.tmp 25) ?_); refine wpList_store_own rfl 24 (.tmp 5) (.tmp 25) rfl w4.heap.size _ rfl rfl 24 _ (rowIs_new _ _ _) infoMac' rfl (by kernel_rfl) w4.heap.size (Nat.le_refl _) ?_; intro w5 r2 _ hs2 hb2; have hb8 : Below w4.heap.size w4 w5 := ((Below.refl _ _).alloc (Nat.le_refl _) _).trans hb2; have HR8 := Lib.hid r2; have hbW8 := hbW.trans (hb8.mono hbW.size); clear r2 hs2 hb2)
    have HR11 := HR8
    have hbW := hbW8
    clear HR8 hb8 hbW8
    refine (readIp_any t (by omega) _).mono ?_
    rintro e' w6 ⟨hans2, hb6⟩
    have HR11 := Lib.hid (HR11.out.kept hb6)
    have hbW := hbW.trans (hb6.mono hbW.size)
    clear hb6
    rcases ipAns_two hans2 with ⟨p, q, r, u, ht, rfl⟩ | ⟨hno2, rfl⟩
    · have HT := Lib.hid ht
      clear ht hans2
      go_upto_region 5 with ((with_reducible refine at_store 28 (.tmp 7) (.tmp 30) ?_); refine wpList_store_own rfl 28 (.tmp 7) (.tmp 30) rfl w6.heap.size _ rfl rfl 28 _ (rowIs_new _ _ _) infoIp rfl (by kernel_rfl) w6.heap.size (Nat.le_refl _) ?_; intro w8 r2 _ hs2 hb2; have hb8 : Below w6.heap.size w6 w8 := ((Below.refl _ _).alloc (Nat.le_refl _) _).trans hb2; have HR8 := Lib.hid r2; have HR11 := Lib.hid (HR11.out.kept hb8); have hbW8 := hbW.trans (hb8.mono hbW.size); clear r2 hs2 hb2)
      have HR13 := HR8
      clear HR8 hb8 hbW
      have k11_0 := HR11.out.cell 0
      simp only [List.getElem?_toArray, List.getElem?_cons_zero, List.getElem?_cons_succ] at k11_0
      have k11_1 := HR11.out.cell 1
      simp only [List.getElem?_toArray, List.getElem?_cons_zero, List.getElem?_cons_succ] at k11_1
      have k11_2 := HR11.out.cell 2
      simp only [List.getElem?_toArray, List.getElem?_cons_zero, List.getElem?_cons_succ] at k11_2
      have k11_3 := HR11.out.cell 3
      simp only [List.getElem?_toArray, List.getElem?_cons_zero, List.getElem?_cons_succ] at k11_3
      have k11_4 := HR11.out.cell 4
      simp only [List.getElem?_toArray, List.getElem?_cons_zero, List.getElem?_cons_succ] at k11_4
      have k11_5 := HR11.out.cell 5
      simp only [List.getElem?_toArray, List.getElem?_cons_zero, List.getElem?_cons_succ] at k11_5
      go_wp2_with fail
      refine (macText_any _ _ _ _ _ _ _).mono ?_
      rintro e' wc ⟨rfl, hbc⟩
      have HR13 := Lib.hid (HR13.out.kept hbc)
      have hbW := hbW8.trans (hbc.mono hbW8.size)
      clear hbW8 hbc
      have q1 : (Oct.macText [a, b, c, d, x, y] == s.toList) = true := by rw [Lib.toList_data, beq_iff_eq]; exact HS.out.symm
      have k13_0 := HR13.out.cell 0
      simp only [List.getElem?_toArray, List.getElem?_cons_zero, List.getElem?_cons_succ] at k13_0
      have k13_1 := HR13.out.cell 1
      simp only [List.getElem?_toArray, List.getElem?_cons_zero, List.getElem?_cons_succ] at k13_1
      have k13_2 := HR13.out.cell 2
      simp only [List.getElem?_toArray, List.getElem?_cons_zero, List.getElem?_cons_succ] at k13_2
      have k13_3 := HR13.out.cell 3
      simp only [List.getElem?_toArray, List.getElem?_cons_zero, List.getElem?_cons_succ] at k13_3
      go_wp2_with fail
      refine (ipText_any _ _ _ _ _).mono ?_
      rintro e' wd ⟨rfl, hbd⟩
      have hbW := hbW.trans (hbd.mono hbW.size)
      clear hbd
      have q2 : (Oct.ipText p q r u == t.toList) = true := by rw [Lib.toList_data, beq_iff_eq]; exact HT.out.symm
      go_wp2_with fail
      go_ret
      exact ⟨rfl, hbW⟩
    · clear hno2 hans2
      go_upto_region 5 with ((with_reducible refine at_store 28 (.tmp 7) (.tmp 30) ?_); refine wpList_store_own rfl 28 (.tmp 7) (.tmp 30) rfl w6.heap.size _ rfl rfl 28 _ (rowIs_new _ _ _) infoIp rfl (by kernel_rfl) w6.heap.size (Nat.le_refl _) ?_; intro w8 r2 _ hs2 hb2; have hb8 : Below w6.heap.size w6 w8 := ((Below.refl _ _).alloc (Nat.le_refl _) _).trans hb2; have HR8 := Lib.hid r2; have HR11 := Lib.hid (HR11.out.kept hb8); have hbW8 := hbW.trans (hb8.mono hbW.size); clear r2 hs2 hb2)
      have HR13 := HR8
      clear HR8 hb8 hbW
      have k11_0 := HR11.out.cell 0
      simp only [List.getElem?_toArray, List.getElem?_cons_zero, List.getElem?_cons_succ] at k11_0
      have k11_1 := HR11.out.cell 1
      simp only [List.getElem?_toArray, List.getElem?_cons_zero, List.getElem?_cons_succ] at k11_1
      have k11_2 := HR11.out.cell 2
      simp only [List.getElem?_toArray, List.getElem?_cons_zero, List.getElem?_cons_succ] at k11_2
      have k11_3 := HR11.out.cell 3
      simp only [List.getElem?_toArray, List.getElem?_cons_zero, List.getElem?_cons_succ] at k11_3
      have k11_4 := HR11.out.cell 4
      simp only [List.getElem?_toArray, List.getElem?_cons_zero, List.getElem?_cons_succ] at k11_4
      have k11_5 := HR11.out.cell 5
      simp only [List.getElem?_toArray, List.getElem?_cons_zero, List.getElem?_cons_succ] at k11_5
      go_wp2_with fail
      refine (macText_any _ _ _ _ _ _ _).mono ?_
      rintro e' wc ⟨rfl, hbc⟩
      have HR13 := Lib.hid (HR13.out.kept hbc)
      have hbW := hbW8.trans (hbc.mono hbW8.size)
      clear hbW8 hbc
      have q1 : (Oct.macText [a, b, c, d, x, y] == s.toList) = true := by rw [Lib.toList_data, beq_iff_eq]; exact HS.out.symm
      have k13_0 := HR13.out.cell 0
      simp only [List.getElem?_toArray, List.getElem?_cons_zero, List.getElem?_cons_succ] at k13_0
      have k13_1 := HR13.out.cell 1
      simp only [List.getElem?_toArray, List.getElem?_cons_zero, List.getElem?_cons_succ] at k13_1
      have k13_2 := HR13.out.cell 2
      simp only [List.getElem?_toArray, List.getElem?_cons_zero, List.getElem?_cons_succ] at k13_2
      have k13_3 := HR13.out.cell 3
      simp only [List.getElem?_toArray, List.getElem?_cons_zero, List.getElem?_cons_succ] at k13_3
      have e2 := HEI.out
      go_wp2_with fail
      go_ret
      exact ⟨rfl, hbW⟩
  · clear hno hans
    go_wp2_with ((with_reducible refine at_store 24 (.tmp 5) (.tmp 25) ?_); refine wpList_store_own rfl 24 (.tmp 5) (.tmp 25) rfl w4.heap.size _ rfl rfl 24 _ (rowIs_new _ _ _) infoMac' rfl (by kernel_rfl) w4.heap.size (Nat.le_refl _) ?_; intro w5 r2 _ hs2 hb2; have hb8 : Below w4.heap.size w4 w5 := ((Below.refl _ _).alloc (Nat.le_refl _) _).trans hb2; have HR8 := Lib.hid r2; have hbW8 := hbW.trans (hb8.mono hbW.size); clear r2 hs2 hb2)
    have HR11 := HR8
    have hbW := hbW8
    clear HR8 hb8 hbW8
    refine (readIp_any t (by omega) _).mono ?_
    rintro e' w6 ⟨hans2, hb6⟩
    have HR11 := Lib.hid (HR11.out.kept hb6)
    have hbW := hbW.trans (hb6.mono hbW.size)
    clear hb6
    rcases ipAns_two hans2 with ⟨p, q, r, u, ht, rfl⟩ | ⟨hno2, rfl⟩
    · have HT := Lib.hid ht
      clear ht hans2
      go_upto_region 5 with ((with_reducible refine at_store 28 (.tmp 7) (.tmp 30) ?_); refine wpList_store_own rfl 28 (.tmp 7) (.tmp 30) rfl w6.heap.size _ rfl rfl 28 _ (rowIs_new _ _ _) infoIp rfl (by kernel_rfl) w6.heap.size (Nat.le_refl _) ?_; intro w8 r2 _ hs2 hb2; have hb8 : Below w6.heap.size w6 w8 := ((Below.refl _ _).alloc (Nat.le_refl _) _).trans hb2; have HR8 := Lib.hid r2; have HR11 := Lib.hid (HR11.out.kept hb8); have hbW8 := hbW.trans (hb8.mono hbW.size); clear r2 hs2 hb2)
      have HR13 := HR8
      clear HR8 hb8 hbW
      have hbW := hbW8
      clear hbW8
      have k11_0 := HR11.out.cell 0
      simp only [List.getElem?_toArray, List.getElem?_cons_zero, List.getElem?_cons_succ] at k11_0
      have k11_1 := HR11.out.cell 1
      simp only [List.getElem?_toArray, List.getElem?_cons_zero, List.getElem?_cons_succ] at k11_1
      have k11_2 := HR11.out.cell 2
      simp only [List.getElem?_toArray, List.getElem?_cons_zero, List.getElem?_cons_succ] at k11_2
      have k11_3 := HR11.out.cell 3
      simp only [List.getElem?_toArray, List.getElem?_cons_zero, List.getElem?_cons_succ] at k11_3
      have k11_4 := HR11.out.cell 4
      simp only [List.getElem?_toArray, List.getElem?_cons_zero, List.getElem?_cons_succ] at k11_4
      have k11_5 := HR11.out.cell 5
      simp only [List.getElem?_toArray, List.getElem?_cons_zero, List.getElem?_cons_succ] at k11_5
      have e1 := HEM.out
      have k13_0 := HR13.out.cell 0
      simp only [List.getElem?_toArray, List.getElem?_cons_zero, List.getElem?_cons_succ] at k13_0
      have k13_1 := HR13.out.cell 1
      simp only [List.getElem?_toArray, List.getElem?_cons_zero, List.getElem?_cons_succ] at k13_1
      have k13_2 := HR13.out.cell 2
      simp only [List.getElem?_toArray, List.getElem?_cons_zero, List.getElem?_cons_succ] at k13_2
      have k13_3 := HR13.out.cell 3
      simp only [List.getElem?_toArray, List.getElem?_cons_zero, List.getElem?_cons_succ] at k13_3
      go_wp2_with fail
      refine (ipText_any _ _ _ _ _).mono ?_
      rintro e' wd ⟨rfl, hbd⟩
      have hbW := hbW.trans (hbd.mono hbW.size)
      clear hbd
      have q2 : (Oct.ipText p q r u == t.toList) = true := by rw [Lib.toList_data, beq_iff_eq]; exact HT.out.symm
      go_wp2_with fail
      go_ret
      exact ⟨rfl, hbW⟩
    · clear hno2 hans2
      go_upto_region 5 with ((with_reducible refine at_store 28 (.tmp 7) (.tmp 30) ?_); refine wpList_store_own rfl 28 (.tmp 7) (.tmp 30) rfl w6.heap.size _ rfl rfl 28 _ (rowIs_new _ _ _) infoIp rfl (by kernel_rfl) w6.heap.size (Nat.le_refl _) ?_; intro w8 r2 _ hs2 hb2; have hb8 : Below w6.heap.size w6 w8 := ((Below.refl _ _).alloc (Nat.le_refl _) _).trans hb2; have HR8 := Lib.hid r2; have HR11 := Lib.hid (HR11.out.kept hb8); have hbW8 := hbW.trans (hb8.mono hbW.size); clear r2 hs2 hb2)
      have HR13 := HR8
      clear HR8 hb8 hbW
      have hbW := hbW8
      clear hbW8
      have k11_0 := HR11.out.cell 0
      simp only [List.getElem?_toArray, List.getElem?_cons_zero, List.getElem?_cons_succ] at k11_0
      have k11_1 := HR11.out.cell 1
      simp only [List.getElem?_toArray, List.getElem?_cons_zero, List.getElem?_cons_succ] at k11_1
      have k11_2 := HR11.out.cell 2
      simp only [List.getElem?_toArray, List.getElem?_cons_zero, List.getElem?_cons_succ] at k11_2
      have k11_3 := HR11.out.cell 3
      simp only [List.getElem?_toArray, List.getElem?_cons_zero, List.getElem?_cons_succ] at k11_3
      have k11_4 := HR11.out.cell 4
      simp only [List.getElem?_toArray, List.getElem?_cons_zero, List.getElem?_cons_succ] at k11_4
      have k11_5 := HR11.out.cell 5
      simp only [List.getElem?_toArray, List.getElem?_cons_zero, List.getElem?_cons_succ] at k11_5
      have e1 := HEM.out
      have k13_0 := HR13.out.cell 0
      simp only [List.getElem?_toArray, List.getElem?_cons_zero, List.getElem?_cons_succ] at k13_0
      have k13_1 := HR13.out.cell 1
      simp only [List.getElem?_toArray, List.getElem?_cons_zero, List.getElem?_cons_succ] at k13_1
      have k13_2 := HR13.out.cell 2
      simp only [List.getElem?_toArray, List.getElem?_cons_zero, List.getElem?_cons_succ] at k13_2
      have k13_3 := HR13.out.cell 3
      simp only [List.getElem?_toArray, List.getElem?_cons_zero, List.getElem?_cons_succ] at k13_3
      have e2 := HEI.out
      go_wp2_with fail
      go_ret
      exact ⟨rfl, hbW⟩

theorem octOnly_walk (s t : ByteArray) (w : World) : Calls Tryd.prog 3 #[.string s, .string t] w fun e w' => e = .returned (.bool true) ∧ Below w.heap.size w w' := by
  by_cases h1 : 1000 < s.size
  · go_enter Tryd.func3, Tryd.ntmps3
    go_wp2_with fail
    refine (awake_any _).mono ?_
    rintro e w1 ⟨rfl, hb1⟩
    go_wp2_with fail
    refine (awake_any _).mono ?_
    rintro e w2 ⟨rfl, hb2⟩
    have hbW := hb1.trans (hb2.mono hb1.size)
    clear hb1 hb2
    go_wp2_with fail
    go_ret
    exact ⟨rfl, hbW⟩
  · by_cases h2 : 1000 < t.size
    · have d1 : decide (1000 < (s.size : Int)) = false := decide_eq_false (by omega)
      go_enter Tryd.func3, Tryd.ntmps3
      go_wp2_with fail
      refine (awake_any _).mono ?_
      rintro e w1 ⟨rfl, hb1⟩
      go_wp2_with fail
      refine (awake_any _).mono ?_
      rintro e w2 ⟨rfl, hb2⟩
      have hbW := hb1.trans (hb2.mono hb1.size)
      clear hb1 hb2
      go_wp2_with fail
      go_ret
      exact ⟨rfl, hbW⟩
    · exact octOnly_go s t (by omega) (by omega) w
end Go.Proofs.YtknnadnjikfibaaDoor
