/- The walk of VlanPlays. By an AI agent. -/
import Derived.Test.YtnglpoognlegfaaVlanMembers
import Derived.Test.YtnglpoognlegfaaVlanOut
import Derived.Test.YtnglpoognlegfaaRefVlan
import Derived.Test.YtnglpoognlegfaaArrays
import Derived.Deep.DeepCutAuto
namespace Go.Proofs.Ytnglpoognlegfaa
open Go.RowKit Go.Sort

namespace Vlan
theorem inV_key (native v : Int) : ((v == -1) = false ∧ (v == 0) = false ∧ inV native v = v) ∨ (((v == -1) = true ∨ (v == -1) = false ∧ (v == 0) = true) ∧ inV native v = native) := by
  unfold inV
  by_cases h : v = -1 ∨ v = 0
  · rw [if_pos h]
    rcases h with rfl | rfl
    · exact Or.inr ⟨Or.inl rfl, rfl⟩
    · exact Or.inr ⟨Or.inr ⟨rfl, rfl⟩, rfl⟩
  · rw [if_neg h]
    exact Or.inl ⟨by simp; omega, by simp; omega, rfl⟩
end Vlan

set_option maxRecDepth 20000 in
set_option maxHeartbeats 8000000 in
theorem vlanPlays_walk (native : Int) (ao : Option Addr) (zs : List Int) (cap : Nat) (v : Int) (wv : (Lit.int .i64 v).wf = true) (d s : Nat → UInt8) (ty vf pf : Int) (body : ByteArray) (p : Int) (wp : (Lit.int .u8 p).wf = true) (w : World) (h : IntsAt w ao zs) (hz : zs.length ≤ 9223372036854775807) :
    Calls Try.prog 4 #[.agg #[.int .i64 native, .slice ao zs.length cap], .int .i64 v, .agg #[.int .u8 ((d 0).toNat : Int), .int .u8 ((d 1).toNat : Int), .int .u8 ((d 2).toNat : Int), .int .u8 ((d 3).toNat : Int), .int .u8 ((d 4).toNat : Int), .int .u8 ((d 5).toNat : Int), .int .u8 ((s 0).toNat : Int), .int .u8 ((s 1).toNat : Int), .int .u8 ((s 2).toNat : Int), .int .u8 ((s 3).toNat : Int), .int .u8 ((s 4).toNat : Int), .int .u8 ((s 5).toNat : Int), .int .i64 ty, .string body, .int .i64 vf, .int .i64 pf], .int .u8 p] w
      fun e w' => e = .returned (.bool true) ∧ Below w.heap.size w w' := by
  have HZ := Lib.hid h
  clear h
  have hp : 0 ≤ p ∧ p ≤ 255 := by
    have h := wp
    simp only [Lit.wf, Bool.and_eq_true, decide_eq_true_eq] at h
    exact h
  obtain ⟨hp0, hp1⟩ := hp
  clear wp
  go_enter Try.func4, Try.ntmps4
  go_wp2_with fail
  generalize hW : (w.alloc _).alloc _ = W
  have hb : Below w.heap.size w W := by rw [← hW]; exact below_alloc2 _ _ _
  have r4 : RowIs W w.heap.size 24 #[.int .i64 native, .slice ao zs.length cap] := by rw [← hW]; exact (rowIs_new w _ _).alloc _
  have r6 : RowIs W (w.heap.size + 1) 30 #[.int .u8 ((d 0).toNat : Int), .int .u8 ((d 1).toNat : Int), .int .u8 ((d 2).toNat : Int), .int .u8 ((d 3).toNat : Int), .int .u8 ((d 4).toNat : Int), .int .u8 ((d 5).toNat : Int), .int .u8 ((s 0).toNat : Int), .int .u8 ((s 1).toNat : Int), .int .u8 ((s 2).toNat : Int), .int .u8 ((s 3).toNat : Int), .int .u8 ((s 4).toNat : Int), .int .u8 ((s 5).toNat : Int), .int .i64 ty, .string body, .int .i64 vf, .int .i64 pf] := by
    have := rowIs_new (w.alloc (.cells #[.int .i64 native, .slice ao zs.length cap] 24)) 30 #[.int .u8 ((d 0).toNat : Int), .int .u8 ((d 1).toNat : Int), .int .u8 ((d 2).toNat : Int), .int .u8 ((d 3).toNat : Int), .int .u8 ((d 4).toNat : Int), .int .u8 ((d 5).toNat : Int), .int .u8 ((s 0).toNat : Int), .int .u8 ((s 1).toNat : Int), .int .u8 ((s 2).toNat : Int), .int .u8 ((s 3).toNat : Int), .int .u8 ((s 4).toNat : Int), .int .u8 ((s 5).toNat : Int), .int .i64 ty, .string body, .int .i64 vf, .int .i64 pf]
    rw [← hW]; simpa using this
  have HI := Lib.hid (HZ.out.after hb)
  clear hW HZ
  refine (awake_any _).mono ?_
  rintro e w1 ⟨rfl, hb1⟩
  have R4 := Lib.hid (r4.kept hb1)
  have R6 := Lib.hid (r6.kept hb1)
  have HI := Lib.hid (HI.out.after hb1)
  have hb := hb.trans (hb1.mono hb.size)
  clear r4 r6 hb1
  by_cases h2 : zs.length ≤ 200
  · have hfew : (decide (zs.length ≤ 200) && decide (zs.length ≤ 200)) = true := by simp [h2]
    go_wp2_with (((with_reducible refine at_load 24 (.tmp 4) ?_); refine wpList_load_own rfl 24 (.tmp 4) rfl _ rfl _ _ _ R4.out Try.underlying24 rfl info_port ?_))
    refine (few_any _ _ _ _ _ _ _ _ _ hz hz).mono ?_
    rintro e w2 ⟨rfl, hb2⟩
    rw [hfew]
    have R4 := Lib.hid (R4.out.kept hb2)
    have R6 := Lib.hid (R6.out.kept hb2)
    have HI := Lib.hid (HI.out.after hb2)
    have hb := hb.trans (hb2.mono hb.size)
    clear hb2 hfew
    have c13 : w2.cell? ⟨w.heap.size + 1, 13, none⟩ = some (.string body) := R6.out.cell 13
    by_cases h4 : 2000 < body.size
    · go_wp2_with (go_at_call 9; refine (awake_any _).mono ?_; rintro e w3 ⟨rfl, hb3⟩)
      go_ret
      exact ⟨rfl, hb.trans (hb3.mono hb.size)⟩
    · have c0 : w2.cell? ⟨w.heap.size, 0, none⟩ = some (.int .i64 native) := R4.out.cell 0
      have c1 : w2.cell? ⟨w.heap.size, 1, none⟩ = some (.slice ao zs.length cap) := R4.out.cell 1
      go_wp2_with fail
      clear c13 c0 c1
      generalize hm : Vlan.member native zs v = mm
      have HM := Lib.hid hm
      clear hm
      refine (refMember_any native ao zs cap v _ HI.out (by omega)).mono ?_
      rintro e w3 ⟨rfl, hb3⟩
      rw [HM.out]
      have R4 := Lib.hid (R4.out.kept hb3)
      have R6 := Lib.hid (R6.out.kept hb3)
      have HI := Lib.hid (HI.out.after hb3)
      have hb := hb.trans (hb3.mono hb.size)
      clear hb3
      go_wp2_with fail
      -- region 4
      have kp0 := cell_regrown (R4.out.cell 0)
      have kp1 := cell_regrown (R4.out.cell 1)
      have c4 := fun dd os => Calls.regrown_of (right_any native ao zs cap _ (HI.out.after (below_regrown w3 dd os)) (by omega))
      have c5 := fun dd os => Calls.regrown_of (refRight_any native ao zs cap _ (HI.out.after (below_regrown w3 dd os)) (by omega))
      have c6 := fun dd os => Calls.regrown_of (member_any native ao zs cap v _ (HI.out.after (below_regrown w3 dd os)) (by omega))
      rw [HM.out] at c6
      generalize Vlan.right native zs = rr at c4 c5
      have C4 := Lib.hid c4
      have C5 := Lib.hid c5
      have C6 := Lib.hid c6
      clear c4 c5 c6
      have hrr : (rr != rr) = false := by cases rr <;> rfl
      have hmm : (mm != mm) = false := by cases mm <;> rfl
      refine wp_region_quiet_below (by kernel_rfl) (by kernel_rfl) ?_
      repeat (quiet_step (first | (with_reducible exact C4.out _ _) | (with_reducible exact C5.out _ _) | (with_reducible exact C6.out _ _)))
      refine wpQuiet_nil ?_
      intro _ hw'
      obtain ⟨⟨dq, osq⟩, hw''⟩ := hw'
      subst hw''
      have hb4 := below_regrown w3 dq osq
      generalize grow (redrawn w3 dq) osq = w4 at hb4 ⊢
      have R4 := Lib.hid (R4.out.kept hb4)
      have R6 := Lib.hid (R6.out.kept hb4)
      have HI := Lib.hid (HI.out.after hb4)
      have hb := hb.trans (hb4.mono hb.size)
      clear hb4 kp0 kp1 C4 C5 C6
      have e14 : w4.cell? ⟨w.heap.size + 1, 14, none⟩ = some (.int .i64 vf) := R6.out.cell 14
      have e0 : w4.cell? ⟨w.heap.size, 0, none⟩ = some (.int .i64 native) := R4.out.cell 0
      have key := Vlan.inV_key native vf
      generalize hx : Vlan.inV native vf = x at key
      have HX := Lib.hid hx
      clear hx
      have KEY := Lib.hid key
      clear key
      go_upto_region 7 with fail
      have kb : ∃ b7 : Bool, (((vf == -1) = true ∨ (vf == -1) = false ∧ (vf == 0) = true) ∧ b7 = true ∨ (vf == -1) = false ∧ (vf == 0) = false ∧ b7 = false) ∧ (b7 = true ∧ x = native ∨ b7 = false ∧ x = vf) := by
        rcases KEY.out with ⟨k1, k2, hxv⟩ | ⟨k1, hxv⟩
        · exact ⟨false, Or.inr ⟨k1, k2, rfl⟩, Or.inr ⟨rfl, hxv⟩⟩
        · exact ⟨true, Or.inl ⟨k1, rfl⟩, Or.inl ⟨rfl, hxv⟩⟩
      obtain ⟨b7, kb1, kb2⟩ := kb
      have KB1 := Lib.hid kb1
      have KB2 := Lib.hid kb2
      clear kb1 kb2
      go_cut [59] (fun a wx => a = .bool b7 ∧ w4 = wx)
      case first =>
        rcases KB1.out with ⟨k1 | ⟨k1, k2⟩, hxv⟩ | ⟨k1, k2, hxv⟩
        all_goals
          have HXV := Lib.hid hxv
          clear hxv
          go_wp2_with fail
          go_meet
          exact ⟨by rw [HXV.out], rfl⟩
      case rest =>
      obtain ⟨rfl, rfl⟩ := hcut
      go_upto_if 59 with fail
      go_cut [10] (fun a wx => a = .int .i64 x ∧ w4 = wx)
      case first =>
        rcases KB2.out with ⟨rfl, hxv⟩ | ⟨rfl, hxv⟩
        all_goals
          have HXV := Lib.hid hxv
          clear hxv
          go_wp2_with fail
          go_meet
          exact ⟨by rw [HXV.out], rfl⟩
      case rest =>
      obtain ⟨rfl, rfl⟩ := hcut
      clear KB1 KB2
      clear KEY e0 e14
      have cO : ∀ dd os, Calls Try.prog 12 #[.agg #[.int .u8 ((d 0).toNat : Int), .int .u8 ((d 1).toNat : Int), .int .u8 ((d 2).toNat : Int), .int .u8 ((d 3).toNat : Int), .int .u8 ((d 4).toNat : Int), .int .u8 ((d 5).toNat : Int), .int .u8 ((s 0).toNat : Int), .int .u8 ((s 1).toNat : Int), .int .u8 ((s 2).toNat : Int), .int .u8 ((s 3).toNat : Int), .int .u8 ((s 4).toNat : Int), .int .u8 ((s 5).toNat : Int), .int .i64 ty, .string body, .int .i64 vf, .int .i64 pf]] (grow (redrawn w4 dd) os)
          fun e w' => e = .returned (.agg #[.int .u8 ((d 0).toNat : Int), .int .u8 ((d 1).toNat : Int), .int .u8 ((d 2).toNat : Int), .int .u8 ((d 3).toNat : Int), .int .u8 ((d 4).toNat : Int), .int .u8 ((d 5).toNat : Int), .int .u8 ((s 0).toNat : Int), .int .u8 ((s 1).toNat : Int), .int .u8 ((s 2).toNat : Int), .int .u8 ((s 3).toNat : Int), .int .u8 ((s 4).toNat : Int), .int .u8 ((s 5).toNat : Int), .int .i64 ty, .string body, .int .i64 vf, .int .i64 pf]) ∧ ∃ p : Regrown, w' = grow (redrawn w4 p.d) p.os := fun dd os => Calls.regrown_of (of_any d s ty vf pf body _)
      have cI := fun dd os => Calls.regrown_of (in_any native ao zs cap d s ty vf pf body _ (HI.out.after (below_regrown w4 dd os)) (by omega))
      rw [HX.out] at cI
      generalize hm' : Vlan.member native zs _ = m at cI
      have HN := Lib.hid hm'
      clear hm'
      generalize hi' : (if m = true then x else 0) = i11 at cI
      have H11 := Lib.hid hi'
      clear hi'
      generalize hi' : (if m = true then (0 : Int) else 12) = i12 at cI
      have H12 := Lib.hid hi'
      clear hi'
      have CO := Lib.hid cO
      have CI := Lib.hid cI
      clear cI cO
      have kp0 := cell_regrown (R4.out.cell 0)
      have kp1 := cell_regrown (R4.out.cell 1)
      have k_0 := cell_regrown (R6.out.cell 0)
      have k_1 := cell_regrown (R6.out.cell 1)
      have k_2 := cell_regrown (R6.out.cell 2)
      have k_3 := cell_regrown (R6.out.cell 3)
      have k_4 := cell_regrown (R6.out.cell 4)
      have k_5 := cell_regrown (R6.out.cell 5)
      have k_6 := cell_regrown (R6.out.cell 6)
      have k_7 := cell_regrown (R6.out.cell 7)
      have k_8 := cell_regrown (R6.out.cell 8)
      have k_9 := cell_regrown (R6.out.cell 9)
      have k_10 := cell_regrown (R6.out.cell 10)
      have k_11 := cell_regrown (R6.out.cell 11)
      have k_12 := cell_regrown (R6.out.cell 12)
      have k_13 := cell_regrown (R6.out.cell 13)
      have k_14 := cell_regrown (R6.out.cell 14)
      have k_15 := cell_regrown (R6.out.cell 15)
      go_wp2_with fail
      refine wp_region_quiet_below (by kernel_rfl) (by kernel_rfl) ?_
      repeat (quiet_step (first | (with_reducible exact CO.out _ _) | (with_reducible exact CI.out _ _)))
      refine wpQuiet_nil ?_
      intro _ hw'
      obtain ⟨⟨dq, osq⟩, hw''⟩ := hw'
      subst hw''
      have hb5 := below_regrown w4 dq osq
      generalize grow (redrawn w4 dq) osq = w5 at hb5 ⊢
      have R4 := Lib.hid (R4.out.kept hb5)
      have R6 := Lib.hid (R6.out.kept hb5)
      have HI := Lib.hid (HI.out.after hb5)
      have hb := hb.trans (hb5.mono hb.size)
      clear hb5 CO CI kp0 kp1 k_0 k_1 k_2 k_3 k_4 k_5 k_6 k_7 k_8 k_9 k_10 k_11 k_12 k_13 k_14 k_15
      go_upto_region 10 with fail
      go_cut [86] (fun a wx => a = .bool false ∧ Below w5.heap.size w5 wx)
      case first =>
        have e0 : w5.cell? ⟨w.heap.size, 0, none⟩ = some (.int .i64 native) := R4.out.cell 0
        have e1 : w5.cell? ⟨w.heap.size, 1, none⟩ = some (.slice ao zs.length cap) := R4.out.cell 1
        have h11 := H11.out
        have h12 := H12.out
        cases m
        all_goals
          simp only [Bool.false_eq_true, if_false, if_true] at h11 h12
          subst h11
          subst h12
          go_wp2_with fail
          refine (refMember_any native ao zs cap _ _ HI.out (by omega)).mono ?_
          rintro e w6 ⟨rfl, hb6⟩
          rw [HN.out]
          go_wp2_with fail
          go_meet
          exact ⟨rfl, hb6⟩
      case rest =>
      obtain ⟨rfl, hb6⟩ := hcut
      generalize wc = w6 at hb6 ⊢
      have R4 := Lib.hid (R4.out.kept hb6)
      have R6 := Lib.hid (R6.out.kept hb6)
      have HI := Lib.hid (HI.out.after hb6)
      have hb := hb.trans (hb6.mono hb.size)
      clear hb6 H11 H12 HN HX
      have f0 : w6.cell? ⟨w.heap.size + 1, 0, none⟩ = some (.int .u8 ((d 0).toNat : Int)) := R6.out.cell 0
      have f1 : w6.cell? ⟨w.heap.size + 1, 1, none⟩ = some (.int .u8 ((d 1).toNat : Int)) := R6.out.cell 1
      have f2 : w6.cell? ⟨w.heap.size + 1, 2, none⟩ = some (.int .u8 ((d 2).toNat : Int)) := R6.out.cell 2
      have f3 : w6.cell? ⟨w.heap.size + 1, 3, none⟩ = some (.int .u8 ((d 3).toNat : Int)) := R6.out.cell 3
      have f4 : w6.cell? ⟨w.heap.size + 1, 4, none⟩ = some (.int .u8 ((d 4).toNat : Int)) := R6.out.cell 4
      have f5 : w6.cell? ⟨w.heap.size + 1, 5, none⟩ = some (.int .u8 ((d 5).toNat : Int)) := R6.out.cell 5
      have f6 : w6.cell? ⟨w.heap.size + 1, 6, none⟩ = some (.int .u8 ((s 0).toNat : Int)) := R6.out.cell 6
      have f7 : w6.cell? ⟨w.heap.size + 1, 7, none⟩ = some (.int .u8 ((s 1).toNat : Int)) := R6.out.cell 7
      have f8 : w6.cell? ⟨w.heap.size + 1, 8, none⟩ = some (.int .u8 ((s 2).toNat : Int)) := R6.out.cell 8
      have f9 : w6.cell? ⟨w.heap.size + 1, 9, none⟩ = some (.int .u8 ((s 3).toNat : Int)) := R6.out.cell 9
      have f10 : w6.cell? ⟨w.heap.size + 1, 10, none⟩ = some (.int .u8 ((s 4).toNat : Int)) := R6.out.cell 10
      have f11 : w6.cell? ⟨w.heap.size + 1, 11, none⟩ = some (.int .u8 ((s 5).toNat : Int)) := R6.out.cell 11
      have f12 : w6.cell? ⟨w.heap.size + 1, 12, none⟩ = some (.int .i64 ty) := R6.out.cell 12
      have f13 : w6.cell? ⟨w.heap.size + 1, 13, none⟩ = some (.string body) := R6.out.cell 13
      go_wp2_with (((with_reducible refine at_load 24 (.tmp 4) ?_); refine wpList_load_own rfl 24 (.tmp 4) rfl _ rfl _ _ _ R4.out Try.underlying24 rfl info_port ?_))
      clear f0 f1 f2 f3 f4 f5 f6 f7 f8 f9 f10 f11 f12 f13
      have hout := out_any native ao zs cap v d s ty body p w6 HI.out (by omega)
      rw [HM.out] at hout
      cases mm
      · have HO := Lib.hid hout
        clear hout
        refine HO.out.mono ?_
        rintro e w7 ⟨rfl, hb7⟩
        simp only [Bool.false_eq_true, if_false]
        go_wp2_with (((with_reducible refine at_store 36 (.tmp 13) (.tmp 95) ?_); refine wpList_store_own rfl 36 (.tmp 13) (.tmp 95) rfl w7.heap.size _ rfl rfl _ _ (rowIs_new _ _ _) info_eth rfl (by kernel_rfl) w7.heap.size (Nat.le_refl _) ?_))
        intro w8 _ _ _ hb8
        go_wp2_with fail
        go_ret
        exact ⟨rfl, hb.trans ((hb7.trans ((((Below.refl _ w7).alloc (Nat.le_refl _) _).trans hb8).mono hb7.size)).mono hb.size)⟩
      · by_cases hvn : v = native
        · subst hvn
          have x1 : Vlan.outV v v = -1 := if_pos rfl
          have x2 : Vlan.outP v v p = 0 := if_pos rfl
          rw [x1, x2] at hout
          clear x1 x2
          have HO := Lib.hid hout
          clear hout
          refine HO.out.mono ?_
          rintro e w7 ⟨rfl, hb7⟩
          simp only [if_true]
          go_wp2_with (((with_reducible refine at_store 36 (.tmp 13) (.tmp 95) ?_); refine wpList_store_own rfl 36 (.tmp 13) (.tmp 95) rfl w7.heap.size _ rfl rfl _ _ (rowIs_new _ _ _) info_eth rfl (by kernel_rfl) w7.heap.size (Nat.le_refl _) ?_))
          intro w8 r13 _ _ hb8
          have R13 := Lib.hid r13
          have hb7 : Below w6.heap.size w6 w8 := hb7.trans ((((Below.refl _ w7).alloc (Nat.le_refl _) _).trans hb8).mono hb7.size)
          have R4 := Lib.hid (R4.out.kept hb7)
          have R6 := Lib.hid (R6.out.kept hb7)
          have hb := hb.trans (hb7.mono hb.size)
          clear r13 hb8 hb7
          have c0 : w8.cell? ⟨w.heap.size, 0, none⟩ = some (.int .i64 v) := R4.out.cell 0
          have f0 : w8.cell? ⟨w.heap.size + 1, 0, none⟩ = some (.int .u8 ((d 0).toNat : Int)) := R6.out.cell 0
          have f1 : w8.cell? ⟨w.heap.size + 1, 1, none⟩ = some (.int .u8 ((d 1).toNat : Int)) := R6.out.cell 1
          have f2 : w8.cell? ⟨w.heap.size + 1, 2, none⟩ = some (.int .u8 ((d 2).toNat : Int)) := R6.out.cell 2
          have f3 : w8.cell? ⟨w.heap.size + 1, 3, none⟩ = some (.int .u8 ((d 3).toNat : Int)) := R6.out.cell 3
          have f4 : w8.cell? ⟨w.heap.size + 1, 4, none⟩ = some (.int .u8 ((d 4).toNat : Int)) := R6.out.cell 4
          have f5 : w8.cell? ⟨w.heap.size + 1, 5, none⟩ = some (.int .u8 ((d 5).toNat : Int)) := R6.out.cell 5
          have f6 : w8.cell? ⟨w.heap.size + 1, 6, none⟩ = some (.int .u8 ((s 0).toNat : Int)) := R6.out.cell 6
          have f7 : w8.cell? ⟨w.heap.size + 1, 7, none⟩ = some (.int .u8 ((s 1).toNat : Int)) := R6.out.cell 7
          have f8 : w8.cell? ⟨w.heap.size + 1, 8, none⟩ = some (.int .u8 ((s 2).toNat : Int)) := R6.out.cell 8
          have f9 : w8.cell? ⟨w.heap.size + 1, 9, none⟩ = some (.int .u8 ((s 3).toNat : Int)) := R6.out.cell 9
          have f10 : w8.cell? ⟨w.heap.size + 1, 10, none⟩ = some (.int .u8 ((s 4).toNat : Int)) := R6.out.cell 10
          have f11 : w8.cell? ⟨w.heap.size + 1, 11, none⟩ = some (.int .u8 ((s 5).toNat : Int)) := R6.out.cell 11
          have f12 : w8.cell? ⟨w.heap.size + 1, 12, none⟩ = some (.int .i64 ty) := R6.out.cell 12
          have f13 : w8.cell? ⟨w.heap.size + 1, 13, none⟩ = some (.string body) := R6.out.cell 13
          have m1 := run_equalIn_mac 9996 (d 0) (d 1) (d 2) (d 3) (d 4) (d 5) (d 0) (d 1) (d 2) (d 3) (d 4) (d 5)
          have m2 := run_equalIn_mac 9996 (s 0) (s 1) (s 2) (s 3) (s 4) (s 5) (s 0) (s 1) (s 2) (s 3) (s 4) (s 5)
          rw [show eqB [d 0, d 1, d 2, d 3, d 4, d 5] [d 0, d 1, d 2, d 3, d 4, d 5] = true from eqB_true.2 rfl] at m1
          rw [show eqB [s 0, s 1, s 2, s 3, s 4, s 5] [s 0, s 1, s 2, s 3, s 4, s 5] = true from eqB_true.2 rfl] at m2
          go_wp2_with (((with_reducible refine at_load 36 (.tmp 13) ?_); refine wpList_load_own rfl 36 (.tmp 13) rfl _ rfl _ _ _ R13.out Try.underlying36 rfl info_eth ?_))
          go_ret
          exact ⟨rfl, hb⟩
        · have x1 : Vlan.outV native v = v := if_neg hvn
          have x2 : Vlan.outP native v p = p % 8 := if_neg hvn
          rw [x1, x2] at hout
          clear x1 x2
          have hq : (v == native) = false := by simpa using hvn
          have HO := Lib.hid hout
          clear hout
          refine HO.out.mono ?_
          rintro e w7 ⟨rfl, hb7⟩
          simp only [if_true]
          clear hvn
          go_wp2_with (((with_reducible refine at_store 36 (.tmp 13) (.tmp 95) ?_); refine wpList_store_own rfl 36 (.tmp 13) (.tmp 95) rfl w7.heap.size _ rfl rfl _ _ (rowIs_new _ _ _) info_eth rfl (by kernel_rfl) w7.heap.size (Nat.le_refl _) ?_))
          intro w8 r13 _ _ hb8
          have R13 := Lib.hid r13
          have hb7 : Below w6.heap.size w6 w8 := hb7.trans ((((Below.refl _ w7).alloc (Nat.le_refl _) _).trans hb8).mono hb7.size)
          have R4 := Lib.hid (R4.out.kept hb7)
          have R6 := Lib.hid (R6.out.kept hb7)
          have hb := hb.trans (hb7.mono hb.size)
          clear r13 hb8 hb7
          have c0 : w8.cell? ⟨w.heap.size, 0, none⟩ = some (.int .i64 native) := R4.out.cell 0
          have f0 : w8.cell? ⟨w.heap.size + 1, 0, none⟩ = some (.int .u8 ((d 0).toNat : Int)) := R6.out.cell 0
          have f1 : w8.cell? ⟨w.heap.size + 1, 1, none⟩ = some (.int .u8 ((d 1).toNat : Int)) := R6.out.cell 1
          have f2 : w8.cell? ⟨w.heap.size + 1, 2, none⟩ = some (.int .u8 ((d 2).toNat : Int)) := R6.out.cell 2
          have f3 : w8.cell? ⟨w.heap.size + 1, 3, none⟩ = some (.int .u8 ((d 3).toNat : Int)) := R6.out.cell 3
          have f4 : w8.cell? ⟨w.heap.size + 1, 4, none⟩ = some (.int .u8 ((d 4).toNat : Int)) := R6.out.cell 4
          have f5 : w8.cell? ⟨w.heap.size + 1, 5, none⟩ = some (.int .u8 ((d 5).toNat : Int)) := R6.out.cell 5
          have f6 : w8.cell? ⟨w.heap.size + 1, 6, none⟩ = some (.int .u8 ((s 0).toNat : Int)) := R6.out.cell 6
          have f7 : w8.cell? ⟨w.heap.size + 1, 7, none⟩ = some (.int .u8 ((s 1).toNat : Int)) := R6.out.cell 7
          have f8 : w8.cell? ⟨w.heap.size + 1, 8, none⟩ = some (.int .u8 ((s 2).toNat : Int)) := R6.out.cell 8
          have f9 : w8.cell? ⟨w.heap.size + 1, 9, none⟩ = some (.int .u8 ((s 3).toNat : Int)) := R6.out.cell 9
          have f10 : w8.cell? ⟨w.heap.size + 1, 10, none⟩ = some (.int .u8 ((s 4).toNat : Int)) := R6.out.cell 10
          have f11 : w8.cell? ⟨w.heap.size + 1, 11, none⟩ = some (.int .u8 ((s 5).toNat : Int)) := R6.out.cell 11
          have f12 : w8.cell? ⟨w.heap.size + 1, 12, none⟩ = some (.int .i64 ty) := R6.out.cell 12
          have f13 : w8.cell? ⟨w.heap.size + 1, 13, none⟩ = some (.string body) := R6.out.cell 13
          have m1 := run_equalIn_mac 9996 (d 0) (d 1) (d 2) (d 3) (d 4) (d 5) (d 0) (d 1) (d 2) (d 3) (d 4) (d 5)
          have m2 := run_equalIn_mac 9996 (s 0) (s 1) (s 2) (s 3) (s 4) (s 5) (s 0) (s 1) (s 2) (s 3) (s 4) (s 5)
          rw [show eqB [d 0, d 1, d 2, d 3, d 4, d 5] [d 0, d 1, d 2, d 3, d 4, d 5] = true from eqB_true.2 rfl] at m1
          rw [show eqB [s 0, s 1, s 2, s 3, s 4, s 5] [s 0, s 1, s 2, s 3, s 4, s 5] = true from eqB_true.2 rfl] at m2
          go_wp2_with (((with_reducible refine at_load 36 (.tmp 13) ?_); refine wpList_load_own rfl 36 (.tmp 13) rfl _ rfl _ _ _ R13.out Try.underlying36 rfl info_eth ?_))
          go_ret
          exact ⟨rfl, hb⟩
  · have hfew : (decide (zs.length ≤ 200) && decide (zs.length ≤ 200)) = false := by
      rw [decide_eq_false h2]; rfl
    go_wp2_with (((with_reducible refine at_load 24 (.tmp 4) ?_); refine wpList_load_own rfl 24 (.tmp 4) rfl _ rfl _ _ _ R4.out Try.underlying24 rfl info_port ?_))
    refine (few_any _ _ _ _ _ _ _ _ _ hz hz).mono ?_
    rintro e w2 ⟨rfl, hb2⟩
    rw [hfew]
    go_wp2_with (go_at_call 9; refine (awake_any _).mono ?_; rintro e w3 ⟨rfl, hb3⟩)
    go_ret
    exact ⟨rfl, hb.trans ((hb2.trans (hb3.mono hb2.size)).mono hb.size)⟩
end Go.Proofs.Ytnglpoognlegfaa