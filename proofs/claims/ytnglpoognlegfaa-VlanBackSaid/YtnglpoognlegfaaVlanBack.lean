/- The walk of VlanBack. By an AI agent. -/
import Derived.Test.YtnglpoognlegfaaVlanApart
import Derived.Test.YtnglpoognlegfaaEthRight
import Derived.Test.YtnglpoognlegfaaArrays
import Derived.Deep.DeepCutAuto
namespace Go.Proofs.Ytnglpoognlegfaa
open Go.RowKit Go.Sort

set_option maxRecDepth 20000 in
set_option maxHeartbeats 8000000 in
theorem vlanBack_walk (native : Int) (ao : Option Addr) (zs : List Int) (cap : Nat) (v : Int) (wv : (Lit.int .i64 v).wf = true) (d s : Nat → UInt8) (ty : Int) (body : ByteArray) (pr : Int) (wp : (Lit.int .i64 pr).wf = true) (w : World) (h : IntsAt w ao zs) (hz : zs.length ≤ 9223372036854775807) :
    Calls Try.prog 6 #[.agg #[.int .i64 native, .slice ao zs.length cap], .int .i64 v, .agg #[.int .u8 ((d 0).toNat : Int), .int .u8 ((d 1).toNat : Int), .int .u8 ((d 2).toNat : Int), .int .u8 ((d 3).toNat : Int), .int .u8 ((d 4).toNat : Int), .int .u8 ((d 5).toNat : Int), .int .u8 ((s 0).toNat : Int), .int .u8 ((s 1).toNat : Int), .int .u8 ((s 2).toNat : Int), .int .u8 ((s 3).toNat : Int), .int .u8 ((s 4).toNat : Int), .int .u8 ((s 5).toNat : Int), .int .i64 ty, .string body], .int .i64 pr] w
      fun e w' => e = .returned (.bool true) ∧ Below w.heap.size w w' := by
  have HZ := Lib.hid h
  clear h
  go_enter Try.func6, Try.ntmps6
  go_wp2_with fail
  generalize hW : (w.alloc _).alloc _ = W
  have hb : Below w.heap.size w W := by rw [← hW]; exact below_alloc2 _ _ _
  have r4 : RowIs W w.heap.size 24 #[.int .i64 native, .slice ao zs.length cap] := by rw [← hW]; exact (rowIs_new w _ _).alloc _
  have r6 : RowIs W (w.heap.size + 1) 28 #[.int .u8 ((d 0).toNat : Int), .int .u8 ((d 1).toNat : Int), .int .u8 ((d 2).toNat : Int), .int .u8 ((d 3).toNat : Int), .int .u8 ((d 4).toNat : Int), .int .u8 ((d 5).toNat : Int), .int .u8 ((s 0).toNat : Int), .int .u8 ((s 1).toNat : Int), .int .u8 ((s 2).toNat : Int), .int .u8 ((s 3).toNat : Int), .int .u8 ((s 4).toNat : Int), .int .u8 ((s 5).toNat : Int), .int .i64 ty, .string body] := by
    have := rowIs_new (w.alloc (.cells #[.int .i64 native, .slice ao zs.length cap] 24)) 28 #[.int .u8 ((d 0).toNat : Int), .int .u8 ((d 1).toNat : Int), .int .u8 ((d 2).toNat : Int), .int .u8 ((d 3).toNat : Int), .int .u8 ((d 4).toNat : Int), .int .u8 ((d 5).toNat : Int), .int .u8 ((s 0).toNat : Int), .int .u8 ((s 1).toNat : Int), .int .u8 ((s 2).toNat : Int), .int .u8 ((s 3).toNat : Int), .int .u8 ((s 4).toNat : Int), .int .u8 ((s 5).toNat : Int), .int .i64 ty, .string body]
    rw [← hW]; simpa using this
  have HI := Lib.hid (HZ.out.after hb)
  clear hW HZ
  refine (awake_any _).mono ?_
  rintro e w1 ⟨rfl, hb1⟩
  have R4 := Lib.hid (r4.kept hb1)
  have R6 := Lib.hid (r6.kept hb1)
  have HI := Lib.hid (HI.out.after hb1)
  have hb := hb.trans (hb1.mono hb.size)
  clear r4 r6 hb1
  by_cases h2 : zs.length ≤ 200
  · have hfew : (decide (zs.length ≤ 200) && decide (zs.length ≤ 200)) = true := by simp [h2]
    go_wp2_with (((with_reducible refine at_load 24 (.tmp 4) ?_); refine wpList_load_own rfl 24 (.tmp 4) rfl _ rfl _ _ _ R4.out Try.underlying24 rfl info_port ?_))
    refine (few_any _ _ _ _ _ _ _ _ _ hz hz).mono ?_
    rintro e w2 ⟨rfl, hb2⟩
    rw [hfew]
    have R4 := Lib.hid (R4.out.kept hb2)
    have R6 := Lib.hid (R6.out.kept hb2)
    have HI := Lib.hid (HI.out.after hb2)
    have hb := hb.trans (hb2.mono hb.size)
    clear hb2 hfew
    have c13 : w2.cell? ⟨w.heap.size + 1, 13, none⟩ = some (.string body) := R6.out.cell 13
    by_cases h4 : 2000 < body.size
    · go_wp2_with (go_at_call 9; refine (awake_any _).mono ?_; rintro e w3 ⟨rfl, hb3⟩)
      go_ret
      exact ⟨rfl, hb.trans (hb3.mono hb.size)⟩
    · go_wp2_with (first | ((with_reducible refine at_load 24 (.tmp 4) ?_); refine wpList_load_own rfl 24 (.tmp 4) rfl _ rfl _ _ _ R4.out Try.underlying24 rfl info_port ?_) | ((with_reducible refine at_load 28 (.tmp 6) ?_); refine wpList_load_own rfl 28 (.tmp 6) rfl _ rfl _ _ _ R6.out Try.underlying28 rfl info_frame ?_))
      clear c13
      have hout := out_any native ao zs cap v d s ty body pr w2 HI.out (by omega)
      generalize hm : Vlan.member native zs v = mm at hout
      have HM := Lib.hid hm
      clear hm
      cases mm
      · have HO := Lib.hid hout
        clear hout
        refine HO.out.mono ?_
        rintro e w3 ⟨rfl, hb3⟩
        simp only [Bool.false_eq_true, if_false]
        go_wp2_with (((with_reducible refine at_store 36 (.tmp 9) (.tmp 34) ?_); refine wpList_store_own rfl 36 (.tmp 9) (.tmp 34) rfl w3.heap.size _ rfl rfl _ _ (rowIs_new _ _ _) info_eth rfl (by kernel_rfl) w3.heap.size (Nat.le_refl _) ?_))
        intro w4 r9 _ _ hb4
        have R9 := Lib.hid r9
        have hb5 : Below w2.heap.size w2 w4 := hb3.trans ((((Below.refl _ w3).alloc (Nat.le_refl _) _).trans hb4).mono hb3.size)
        have R4 := Lib.hid (R4.out.kept hb5)
        have HI := Lib.hid (HI.out.after hb5)
        have hb := hb.trans (hb5.mono hb.size)
        clear r9 hb3 hb4 hb5
        go_wp2_with (first | ((with_reducible refine at_load 24 (.tmp 4) ?_); refine wpList_load_own rfl 24 (.tmp 4) rfl _ rfl _ _ _ R4.out Try.underlying24 rfl info_port ?_))
        refine (member_any native ao zs cap v _ HI.out (by omega)).mono ?_
        rintro e w5 ⟨rfl, hb6⟩
        rw [HM.out]
        have R9 := Lib.hid (R9.out.kept hb6)
        have m0 : ∀ w, (Op.equalIn 9998 26 (.agg #[.int .u8 0, .int .u8 0, .int .u8 0, .int .u8 0, .int .u8 0, .int .u8 0]) (.agg #[.int .u8 0, .int .u8 0, .int .u8 0, .int .u8 0, .int .u8 0, .int .u8 0])).run Try.prog w = .ok true w := by
          have := run_equalIn_mac 9996 0 0 0 0 0 0 0 0 0 0 0 0
          rw [show eqB [0, 0, 0, 0, 0, 0] [0, 0, 0, 0, 0, 0] = true from eqB_true.2 rfl] at this
          exact this
        go_wp2_with (first | ((with_reducible refine at_load 36 (.tmp 9) ?_); refine wpList_load_own rfl 36 (.tmp 9) rfl _ rfl _ _ _ R9.out Try.underlying36 rfl info_eth ?_))
        go_ret
        exact ⟨rfl, hb.trans (hb6.mono hb.size)⟩
      · by_cases hvn : v = native
        · subst hvn
          have x1 : Vlan.outV v v = -1 := if_pos rfl
          have x2 : Vlan.outP v v pr = 0 := if_pos rfl
          rw [x1, x2] at hout
          clear x1 x2
          have hv1 : (-1 : Int) = -1 ∧ (0 : Int) = 0 ∨ 0 ≤ (-1 : Int) ∧ (-1 : Int) ≤ 4094 ∧ 0 ≤ (0 : Int) ∧ (0 : Int) ≤ 7 := Or.inl ⟨rfl, rfl⟩
          have HV1 := Lib.hid hv1
          clear hv1
          have HO := Lib.hid hout
          clear hout
          refine HO.out.mono ?_
          rintro e w3 ⟨rfl, hb3⟩
          simp only [if_true]
          go_wp2_with (((with_reducible refine at_store 36 (.tmp 9) (.tmp 34) ?_); refine wpList_store_own rfl 36 (.tmp 9) (.tmp 34) rfl w3.heap.size _ rfl rfl _ _ (rowIs_new _ _ _) info_eth rfl (by kernel_rfl) w3.heap.size (Nat.le_refl _) ?_))
          intro w4 r9 _ _ hb4
          have R9 := Lib.hid r9
          have hb5 : Below w2.heap.size w2 w4 := hb3.trans ((((Below.refl _ w3).alloc (Nat.le_refl _) _).trans hb4).mono hb3.size)
          have R4 := Lib.hid (R4.out.kept hb5)
          have R6 := Lib.hid (R6.out.kept hb5)
          have HI := Lib.hid (HI.out.after hb5)
          have hb := hb.trans (hb5.mono hb.size)
          clear r9 hb3 hb4 hb5
          have HB := Lib.hid (Vlan.member_bounds HM.out)
          go_wp2_with (first | ((with_reducible refine at_load 24 (.tmp 4) ?_); refine wpList_load_own rfl 24 (.tmp 4) rfl _ rfl _ _ _ R4.out Try.underlying24 rfl info_port ?_) | ((with_reducible refine at_load 36 (.tmp 9) ?_); refine wpList_load_own rfl 36 (.tmp 9) rfl _ rfl _ _ _ R9.out Try.underlying36 rfl info_eth ?_))
          have hin := in_any v ao zs cap d s ty (-1) (0) body w4 HI.out (by omega)
          rw [Vlan.inV_un] at hin
          rw [HM.out] at hin
          have HIN := Lib.hid hin
          clear hin
          refine HIN.out.mono ?_
          rintro e w5 ⟨rfl, hb6⟩
          simp only [if_true]
          have R4 := Lib.hid (R4.out.kept hb6)
          have R6 := Lib.hid (R6.out.kept hb6)
          have R9 := Lib.hid (R9.out.kept hb6)
          have hb := hb.trans (hb6.mono hb.size)
          clear hb6
          go_upto_region 7 with fail
          have hbd := HB.out
          have c1 := fun dd os => Calls.regrown_of (ethRight_any d s ty (-1) (0) body (grow (redrawn w5 dd) os) (Or.inl ⟨rfl, rfl⟩))
          have c2 := fun dd os => Calls.regrown_of (ethRight_any d s ty (-1) 0 body (grow (redrawn w5 dd) os) (Or.inl ⟨rfl, rfl⟩))
          generalize EthR.ok ty body.size = rr at c1 c2
          have hrr : (rr == rr) = true := by cases rr <;> rfl
          have C1 := Lib.hid c1
          have C2 := Lib.hid c2
          clear c1 c2 HV1
          have m1 := run_equalIn_mac 9997 (d 0) (d 1) (d 2) (d 3) (d 4) (d 5) (d 0) (d 1) (d 2) (d 3) (d 4) (d 5)
          have m2 := run_equalIn_mac 9997 (s 0) (s 1) (s 2) (s 3) (s 4) (s 5) (s 0) (s 1) (s 2) (s 3) (s 4) (s 5)
          rw [show eqB [d 0, d 1, d 2, d 3, d 4, d 5] [d 0, d 1, d 2, d 3, d 4, d 5] = true from eqB_true.2 rfl] at m1
          rw [show eqB [s 0, s 1, s 2, s 3, s 4, s 5] [s 0, s 1, s 2, s 3, s 4, s 5] = true from eqB_true.2 rfl] at m2
          have kp0 := cell_regrown (R4.out.cell 0)
          have k_0 := cell_regrown (R9.out.cell 0)
          have k_1 := cell_regrown (R9.out.cell 1)
          have k_2 := cell_regrown (R9.out.cell 2)
          have k_3 := cell_regrown (R9.out.cell 3)
          have k_4 := cell_regrown (R9.out.cell 4)
          have k_5 := cell_regrown (R9.out.cell 5)
          have k_6 := cell_regrown (R9.out.cell 6)
          have k_7 := cell_regrown (R9.out.cell 7)
          have k_8 := cell_regrown (R9.out.cell 8)
          have k_9 := cell_regrown (R9.out.cell 9)
          have k_10 := cell_regrown (R9.out.cell 10)
          have k_11 := cell_regrown (R9.out.cell 11)
          have k_12 := cell_regrown (R9.out.cell 12)
          have k_13 := cell_regrown (R9.out.cell 13)
          have k_14 := cell_regrown (R9.out.cell 14)
          have k_15 := cell_regrown (R9.out.cell 15)
          have j_0 := cell_regrown (R6.out.cell 0)
          have j_1 := cell_regrown (R6.out.cell 1)
          have j_2 := cell_regrown (R6.out.cell 2)
          have j_3 := cell_regrown (R6.out.cell 3)
          have j_4 := cell_regrown (R6.out.cell 4)
          have j_5 := cell_regrown (R6.out.cell 5)
          have j_6 := cell_regrown (R6.out.cell 6)
          have j_7 := cell_regrown (R6.out.cell 7)
          have j_8 := cell_regrown (R6.out.cell 8)
          have j_9 := cell_regrown (R6.out.cell 9)
          have j_10 := cell_regrown (R6.out.cell 10)
          have j_11 := cell_regrown (R6.out.cell 11)
          have j_12 := cell_regrown (R6.out.cell 12)
          have j_13 := cell_regrown (R6.out.cell 13)
          refine wp_region_quiet_below (by kernel_rfl) (by kernel_rfl) ?_
          repeat (quiet_step (first | (with_reducible exact C1.out _ _) | (with_reducible exact C2.out _ _)))
          refine wpQuiet_nil ?_
          intro _ hw'
          obtain ⟨⟨dq, osq⟩, hw''⟩ := hw'
          subst hw''
          have hb7 := below_regrown w5 dq osq
          generalize grow (redrawn w5 dq) osq = w6 at hb7 ⊢
          go_wp2_with fail
          go_ret
          exact ⟨rfl, hb.trans (hb7.mono hb.size)⟩
        · skip
          have x1 : Vlan.outV native v = v := if_neg hvn
          have x2 : Vlan.outP native v pr = pr % 8 := if_neg hvn
          rw [x1, x2] at hout
          clear x1 x2
          have hq : (v == native) = false := by simpa using hvn
          clear hvn
          generalize hpq : pr % 8 = q at hout
          have hv1 : v = -1 ∧ q = 0 ∨ 0 ≤ v ∧ v ≤ 4094 ∧ 0 ≤ q ∧ q ≤ 7 := by
            have := Vlan.member_bounds HM.out
            exact Or.inr (by omega)
          have HV1 := Lib.hid hv1
          clear hv1 hpq
          have HO := Lib.hid hout
          clear hout
          refine HO.out.mono ?_
          rintro e w3 ⟨rfl, hb3⟩
          simp only [if_true]
          go_wp2_with (((with_reducible refine at_store 36 (.tmp 9) (.tmp 34) ?_); refine wpList_store_own rfl 36 (.tmp 9) (.tmp 34) rfl w3.heap.size _ rfl rfl _ _ (rowIs_new _ _ _) info_eth rfl (by kernel_rfl) w3.heap.size (Nat.le_refl _) ?_))
          intro w4 r9 _ _ hb4
          have R9 := Lib.hid r9
          have hb5 : Below w2.heap.size w2 w4 := hb3.trans ((((Below.refl _ w3).alloc (Nat.le_refl _) _).trans hb4).mono hb3.size)
          have R4 := Lib.hid (R4.out.kept hb5)
          have R6 := Lib.hid (R6.out.kept hb5)
          have HI := Lib.hid (HI.out.after hb5)
          have hb := hb.trans (hb5.mono hb.size)
          clear r9 hb3 hb4 hb5
          have HB := Lib.hid (Vlan.member_bounds HM.out)
          go_wp2_with (first | ((with_reducible refine at_load 24 (.tmp 4) ?_); refine wpList_load_own rfl 24 (.tmp 4) rfl _ rfl _ _ _ R4.out Try.underlying24 rfl info_port ?_) | ((with_reducible refine at_load 36 (.tmp 9) ?_); refine wpList_load_own rfl 36 (.tmp 9) rfl _ rfl _ _ _ R9.out Try.underlying36 rfl info_eth ?_))
          have hin := in_any native ao zs cap d s ty (v) (q) body w4 HI.out (by omega)
          rw [Vlan.inV_big native v HB.out.1] at hin
          have hn1 : (v == -1) = false := by have := HB.out; simp; omega
          rw [HM.out] at hin
          have HIN := Lib.hid hin
          clear hin
          refine HIN.out.mono ?_
          rintro e w5 ⟨rfl, hb6⟩
          simp only [if_true]
          have R4 := Lib.hid (R4.out.kept hb6)
          have R6 := Lib.hid (R6.out.kept hb6)
          have R9 := Lib.hid (R9.out.kept hb6)
          have hb := hb.trans (hb6.mono hb.size)
          clear hb6
          go_upto_region 7 with fail
          have hbd := HB.out
          have c1 := fun dd os => Calls.regrown_of (ethRight_any d s ty (v) (q) body (grow (redrawn w5 dd) os) HV1.out)
          have c2 := fun dd os => Calls.regrown_of (ethRight_any d s ty (-1) 0 body (grow (redrawn w5 dd) os) (Or.inl ⟨rfl, rfl⟩))
          generalize EthR.ok ty body.size = rr at c1 c2
          have hrr : (rr == rr) = true := by cases rr <;> rfl
          have C1 := Lib.hid c1
          have C2 := Lib.hid c2
          clear c1 c2 HV1
          have m1 := run_equalIn_mac 9997 (d 0) (d 1) (d 2) (d 3) (d 4) (d 5) (d 0) (d 1) (d 2) (d 3) (d 4) (d 5)
          have m2 := run_equalIn_mac 9997 (s 0) (s 1) (s 2) (s 3) (s 4) (s 5) (s 0) (s 1) (s 2) (s 3) (s 4) (s 5)
          rw [show eqB [d 0, d 1, d 2, d 3, d 4, d 5] [d 0, d 1, d 2, d 3, d 4, d 5] = true from eqB_true.2 rfl] at m1
          rw [show eqB [s 0, s 1, s 2, s 3, s 4, s 5] [s 0, s 1, s 2, s 3, s 4, s 5] = true from eqB_true.2 rfl] at m2
          have kp0 := cell_regrown (R4.out.cell 0)
          have k_0 := cell_regrown (R9.out.cell 0)
          have k_1 := cell_regrown (R9.out.cell 1)
          have k_2 := cell_regrown (R9.out.cell 2)
          have k_3 := cell_regrown (R9.out.cell 3)
          have k_4 := cell_regrown (R9.out.cell 4)
          have k_5 := cell_regrown (R9.out.cell 5)
          have k_6 := cell_regrown (R9.out.cell 6)
          have k_7 := cell_regrown (R9.out.cell 7)
          have k_8 := cell_regrown (R9.out.cell 8)
          have k_9 := cell_regrown (R9.out.cell 9)
          have k_10 := cell_regrown (R9.out.cell 10)
          have k_11 := cell_regrown (R9.out.cell 11)
          have k_12 := cell_regrown (R9.out.cell 12)
          have k_13 := cell_regrown (R9.out.cell 13)
          have k_14 := cell_regrown (R9.out.cell 14)
          have k_15 := cell_regrown (R9.out.cell 15)
          have j_0 := cell_regrown (R6.out.cell 0)
          have j_1 := cell_regrown (R6.out.cell 1)
          have j_2 := cell_regrown (R6.out.cell 2)
          have j_3 := cell_regrown (R6.out.cell 3)
          have j_4 := cell_regrown (R6.out.cell 4)
          have j_5 := cell_regrown (R6.out.cell 5)
          have j_6 := cell_regrown (R6.out.cell 6)
          have j_7 := cell_regrown (R6.out.cell 7)
          have j_8 := cell_regrown (R6.out.cell 8)
          have j_9 := cell_regrown (R6.out.cell 9)
          have j_10 := cell_regrown (R6.out.cell 10)
          have j_11 := cell_regrown (R6.out.cell 11)
          have j_12 := cell_regrown (R6.out.cell 12)
          have j_13 := cell_regrown (R6.out.cell 13)
          refine wp_region_quiet_below (by kernel_rfl) (by kernel_rfl) ?_
          repeat (quiet_step (first | (with_reducible exact C1.out _ _) | (with_reducible exact C2.out _ _)))
          refine wpQuiet_nil ?_
          intro _ hw'
          obtain ⟨⟨dq, osq⟩, hw''⟩ := hw'
          subst hw''
          have hb7 := below_regrown w5 dq osq
          generalize grow (redrawn w5 dq) osq = w6 at hb7 ⊢
          go_wp2_with fail
          go_ret
          exact ⟨rfl, hb.trans (hb7.mono hb.size)⟩
  · have hfew : (decide (zs.length ≤ 200) && decide (zs.length ≤ 200)) = false := by
      rw [decide_eq_false h2]; rfl
    go_wp2_with (((with_reducible refine at_load 24 (.tmp 4) ?_); refine wpList_load_own rfl 24 (.tmp 4) rfl _ rfl _ _ _ R4.out Try.underlying24 rfl info_port ?_))
    refine (few_any _ _ _ _ _ _ _ _ _ hz hz).mono ?_
    rintro e w2 ⟨rfl, hb2⟩
    rw [hfew]
    go_wp2_with (go_at_call 9; refine (awake_any _).mono ?_; rintro e w3 ⟨rfl, hb3⟩)
    go_ret
    exact ⟨rfl, hb.trans ((hb2.trans (hb3.mono hb2.size)).mono hb.size)⟩
end Go.Proofs.Ytnglpoognlegfaa
