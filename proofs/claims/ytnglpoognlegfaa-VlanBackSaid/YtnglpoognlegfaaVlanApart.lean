/- The walk of VlanApart. By an AI agent. -/
import Derived.Test.YtnglpoognlegfaaVlanMembers
import Derived.Test.YtnglpoognlegfaaVlanOut
namespace Go.Proofs.Ytnglpoognlegfaa
open Go.RowKit Go.Sort

namespace Vlan
theorem member_native (native : Int) (zs : List Int) : member native zs native = (right native zs && !(native == 0)) := by
  unfold member; simp
theorem inV_big (native v : Int) (h : 1 ≤ v) : inV native v = v := if_neg (by omega)
theorem inV_un (native : Int) : inV native (-1) = native := if_pos (Or.inl rfl)
end Vlan

set_option maxHeartbeats 4000000 in
theorem vlanApart_walk (n : Int) (ao : Option Addr) (zs : List Int) (c1 : Nat) (m : Int) (bo : Option Addr) (ys : List Int) (c2 : Nat) (v : Int) (wv : (Lit.int .i64 v).wf = true) (d s : Nat → UInt8) (ty : Int) (body : ByteArray) (w : World)
    (hI : IntsAt w ao zs) (hz : zs.length ≤ 9223372036854775807) (hJ : IntsAt w bo ys) (hy : ys.length ≤ 9223372036854775807) :
    Calls Try.prog 5 #[.agg #[.int .i64 n, .slice ao zs.length c1], .agg #[.int .i64 m, .slice bo ys.length c2], .int .i64 v, .agg #[.int .u8 ((d 0).toNat : Int), .int .u8 ((d 1).toNat : Int), .int .u8 ((d 2).toNat : Int), .int .u8 ((d 3).toNat : Int), .int .u8 ((d 4).toNat : Int), .int .u8 ((d 5).toNat : Int), .int .u8 ((s 0).toNat : Int), .int .u8 ((s 1).toNat : Int), .int .u8 ((s 2).toNat : Int), .int .u8 ((s 3).toNat : Int), .int .u8 ((s 4).toNat : Int), .int .u8 ((s 5).toNat : Int), .int .i64 ty, .string body]] w
      fun e w' => e = .returned (.bool true) ∧ Below w.heap.size w w' := by
  have HZ := Lib.hid hI
  have HY := Lib.hid hJ
  clear hI hJ
  go_enter Try.func5, Try.ntmps5
  go_wp2_with fail
  generalize hW : ((w.alloc _).alloc _).alloc _ = W
  have hb : Below w.heap.size w W := by rw [← hW]; exact (((Below.refl _ _).alloc (Nat.le_refl _) _).alloc (by simp) _).alloc (by simp; omega) _
  have r4 : RowIs W w.heap.size 24 #[.int .i64 n, .slice ao zs.length c1] := by rw [← hW]; exact ((rowIs_new w _ _).alloc _).alloc _
  have r5 : RowIs W (w.heap.size + 1) 24 #[.int .i64 m, .slice bo ys.length c2] := by
    have := (rowIs_new (w.alloc (.cells #[.int .i64 n, .slice ao zs.length c1] 24)) 24 #[.int .i64 m, .slice bo ys.length c2])
    rw [← hW]; exact RowIs.alloc (by simpa using this) _
  have r7 : RowIs W (w.heap.size + 1 + 1) 28 #[.int .u8 ((d 0).toNat : Int), .int .u8 ((d 1).toNat : Int), .int .u8 ((d 2).toNat : Int), .int .u8 ((d 3).toNat : Int), .int .u8 ((d 4).toNat : Int), .int .u8 ((d 5).toNat : Int), .int .u8 ((s 0).toNat : Int), .int .u8 ((s 1).toNat : Int), .int .u8 ((s 2).toNat : Int), .int .u8 ((s 3).toNat : Int), .int .u8 ((s 4).toNat : Int), .int .u8 ((s 5).toNat : Int), .int .i64 ty, .string body] := by
    have := (rowIs_new ((w.alloc (.cells #[.int .i64 n, .slice ao zs.length c1] 24)).alloc (.cells #[.int .i64 m, .slice bo ys.length c2] 24)) 28 #[.int .u8 ((d 0).toNat : Int), .int .u8 ((d 1).toNat : Int), .int .u8 ((d 2).toNat : Int), .int .u8 ((d 3).toNat : Int), .int .u8 ((d 4).toNat : Int), .int .u8 ((d 5).toNat : Int), .int .u8 ((s 0).toNat : Int), .int .u8 ((s 1).toNat : Int), .int .u8 ((s 2).toNat : Int), .int .u8 ((s 3).toNat : Int), .int .u8 ((s 4).toNat : Int), .int .u8 ((s 5).toNat : Int), .int .i64 ty, .string body])
    rw [← hW]; simpa using this
  have HI := Lib.hid (HZ.out.after hb)
  have HJ := Lib.hid (HY.out.after hb)
  clear hW HZ HY
  refine (awake_any _).mono ?_
  rintro e w1 ⟨rfl, hb1⟩
  have R4 := Lib.hid (r4.kept hb1)
  have R5 := Lib.hid (r5.kept hb1)
  have R7 := Lib.hid (r7.kept hb1)
  have HI := Lib.hid (HI.out.after hb1)
  have HJ := Lib.hid (HJ.out.after hb1)
  have hb := hb.trans (hb1.mono hb.size)
  clear r4 r5 r7 hb1
  by_cases h2 : zs.length ≤ 200 ∧ ys.length ≤ 200
  · obtain ⟨h2, h3⟩ := h2
    have hfew : (decide (zs.length ≤ 200) && decide (ys.length ≤ 200)) = true := by simp [h2, h3]
    go_wp2_with (first
      | ((with_reducible refine at_load 24 (.tmp 4) ?_); refine wpList_load_own rfl 24 (.tmp 4) rfl _ rfl _ _ _ R4.out Try.underlying24 rfl info_port ?_)
      | ((with_reducible refine at_load 24 (.tmp 5) ?_); refine wpList_load_own rfl 24 (.tmp 5) rfl _ rfl _ _ _ R5.out Try.underlying24 rfl info_port ?_))
    refine (few_any _ _ _ _ _ _ _ _ _ hz hy).mono ?_
    rintro e w2 ⟨rfl, hb2⟩
    rw [hfew]
    have R4 := Lib.hid (R4.out.kept hb2)
    have R5 := Lib.hid (R5.out.kept hb2)
    have R7 := Lib.hid (R7.out.kept hb2)
    have HI := Lib.hid (HI.out.after hb2)
    have HJ := Lib.hid (HJ.out.after hb2)
    have hb := hb.trans (hb2.mono hb.size)
    clear hb2 hfew
    have c13 : w2.cell? ⟨w.heap.size + 1 + 1, 13, none⟩ = some (.string body) := R7.out.cell 13
    by_cases h4 : 2000 < body.size
    · go_wp2_with (go_at_call 9; refine (awake_any _).mono ?_; rintro e w3 ⟨rfl, hb3⟩)
      go_ret
      exact ⟨rfl, hb.trans (hb3.mono hb.size)⟩
    · go_wp2_with (first
        | ((with_reducible refine at_load 24 (.tmp 4) ?_); refine wpList_load_own rfl 24 (.tmp 4) rfl _ rfl _ _ _ R4.out Try.underlying24 rfl info_port ?_)
        | ((with_reducible refine at_load 28 (.tmp 7) ?_); refine wpList_load_own rfl 28 (.tmp 7) rfl _ rfl _ _ _ R7.out Try.underlying28 rfl info_frame ?_))
      have hout := out_any n ao zs c1 v d s ty body 3 w2 HI.out (by omega)
      generalize hm : Vlan.member n zs v = mm at hout
      have HM := Lib.hid hm
      clear hm
      clear c13
      cases mm
      · have HO := Lib.hid hout
        clear hout
        refine HO.out.mono ?_
        rintro e w3 ⟨rfl, hb3⟩
        simp only [Bool.false_eq_true, if_false]
        go_wp2_with ((with_reducible refine at_store 36 (.tmp 9) (.tmp 33) ?_); refine wpList_store_own rfl 36 (.tmp 9) (.tmp 33) rfl w3.heap.size _ rfl rfl _ _ (rowIs_new _ _ _) info_eth rfl (by kernel_rfl) w3.heap.size (Nat.le_refl _) ?_)
        intro w4 _ _ _ hb4
        go_wp2_with fail
        go_ret
        exact ⟨rfl, hb.trans ((hb3.trans ((((Below.refl _ w3).alloc (Nat.le_refl _) _).trans hb4).mono hb3.size)).mono hb.size)⟩
      · by_cases hvn : v = n
        · subst hvn
          have e1 : Vlan.outV v v = -1 := if_pos rfl
          rw [e1] at hout
          clear e1
          have HO := Lib.hid hout
          clear hout
          refine HO.out.mono ?_
          rintro e w3 ⟨rfl, hb3⟩
          simp only [if_true]
          go_wp2_with ((with_reducible refine at_store 36 (.tmp 9) (.tmp 33) ?_); refine wpList_store_own rfl 36 (.tmp 9) (.tmp 33) rfl w3.heap.size _ rfl rfl _ _ (rowIs_new _ _ _) info_eth rfl (by kernel_rfl) w3.heap.size (Nat.le_refl _) ?_)
          intro w4 r9 _ _ hb4
          have R9 := Lib.hid r9
          have hb5 : Below w2.heap.size w2 w4 := hb3.trans ((((Below.refl _ w3).alloc (Nat.le_refl _) _).trans hb4).mono hb3.size)
          have R5 := Lib.hid (R5.out.kept hb5)
          have HJ := Lib.hid (HJ.out.after hb5)
          have hb := hb.trans (hb5.mono hb.size)
          clear r9 hb3 hb4 hb5
          have HB := Lib.hid (Vlan.member_bounds HM.out)
          go_wp2_with (first
            | ((with_reducible refine at_load 24 (.tmp 5) ?_); refine wpList_load_own rfl 24 (.tmp 5) rfl _ rfl _ _ _ R5.out Try.underlying24 rfl info_port ?_)
            | ((with_reducible refine at_load 36 (.tmp 9) ?_); refine wpList_load_own rfl 36 (.tmp 9) rfl _ rfl _ _ _ R9.out Try.underlying36 rfl info_eth ?_))
          have hin := in_any m bo ys c2 d s ty (-1) (Vlan.outP v v 3) body w4 HJ.out (by omega)
          rw [Vlan.inV_un] at hin
          generalize hq : Vlan.member m ys _ = qq at hin
          have HQ := Lib.hid hq
          have HIN := Lib.hid hin
          clear hq hin
          have hB := HB.out
          cases qq
          all_goals
            refine HIN.out.mono ?_
            rintro e w5 ⟨rfl, hb6⟩
            simp only [Bool.false_eq_true, if_false, if_true]
            have R5 := Lib.hid (R5.out.kept hb6)
            have HJ := Lib.hid (HJ.out.after hb6)
            have g14 := (R9.out.kept hb6).cell 14
            have q0 : w5.cell? ⟨w.heap.size + 1, 0, none⟩ = some (.int .i64 m) := R5.out.cell 0
            have hb := hb.trans (hb6.mono hb.size)
            have g14' : w5.cell? ⟨w3.heap.size, 14, none⟩ = some (.int .i64 (-1)) := g14
            clear g14
            have hR := HQ.out
            rw [Vlan.member_native] at hR
            go_wp2_with (((with_reducible refine at_load 24 (.tmp 5) ?_); refine wpList_load_own rfl 24 (.tmp 5) rfl _ rfl _ _ _ R5.out Try.underlying24 rfl info_port ?_))
            refine (right_any m bo ys c2 _ HJ.out (by omega)).mono ?_
            rintro e w6 ⟨rfl, hb7⟩
            have q1 : w6.cell? ⟨w.heap.size + 1, 0, none⟩ = some (.int .i64 m) := (R5.out.kept hb7).cell 0
            have hb := hb.trans (hb7.mono hb.size)
            cases hr : Vlan.right m ys
            · rw [hr] at hR
              first
                | (exfalso; revert hR; cases (!m == 0) <;> decide)
                | (clear hR; go_wp2_with fail; go_ret; exact ⟨rfl, hb⟩)
            · rw [hr] at hR
              cases hm0 : (m == 0)
              · rw [hm0] at hR
                first
                  | (exfalso; revert hR; decide)
                  | (clear hR; have hm1 : (m != 0) = true := by (simp at hm0 ⊢; exact hm0)
                     go_wp2_with fail; go_ret; exact ⟨rfl, hb⟩)
              · rw [hm0] at hR
                first
                  | (exfalso; revert hR; decide)
                  | (clear hR; have hm1 : (m != 0) = false := by (simp at hm0 ⊢; exact hm0)
                     go_wp2_with fail; go_ret; exact ⟨rfl, hb⟩)
        · have e1 : Vlan.outV n v = v := if_neg hvn
          rw [e1] at hout
          clear e1
          have HO := Lib.hid hout
          clear hout
          refine HO.out.mono ?_
          rintro e w3 ⟨rfl, hb3⟩
          simp only [if_true]
          go_wp2_with ((with_reducible refine at_store 36 (.tmp 9) (.tmp 33) ?_); refine wpList_store_own rfl 36 (.tmp 9) (.tmp 33) rfl w3.heap.size _ rfl rfl _ _ (rowIs_new _ _ _) info_eth rfl (by kernel_rfl) w3.heap.size (Nat.le_refl _) ?_)
          intro w4 r9 _ _ hb4
          have R9 := Lib.hid r9
          have hb5 : Below w2.heap.size w2 w4 := hb3.trans ((((Below.refl _ w3).alloc (Nat.le_refl _) _).trans hb4).mono hb3.size)
          have R5 := Lib.hid (R5.out.kept hb5)
          have HJ := Lib.hid (HJ.out.after hb5)
          have hb := hb.trans (hb5.mono hb.size)
          clear r9 hb3 hb4 hb5
          have HB := Lib.hid (Vlan.member_bounds HM.out)
          go_wp2_with (first
            | ((with_reducible refine at_load 24 (.tmp 5) ?_); refine wpList_load_own rfl 24 (.tmp 5) rfl _ rfl _ _ _ R5.out Try.underlying24 rfl info_port ?_)
            | ((with_reducible refine at_load 36 (.tmp 9) ?_); refine wpList_load_own rfl 36 (.tmp 9) rfl _ rfl _ _ _ R9.out Try.underlying36 rfl info_eth ?_))
          have hin := in_any m bo ys c2 d s ty (v) (Vlan.outP n v 3) body w4 HJ.out (by omega)
          rw [Vlan.inV_big m v (Vlan.member_bounds HM.out).1] at hin
          generalize hq : Vlan.member m ys _ = qq at hin
          have HQ := Lib.hid hq
          have HIN := Lib.hid hin
          clear hq hin
          have hB := HB.out
          cases qq
          all_goals
            refine HIN.out.mono ?_
            rintro e w5 ⟨rfl, hb6⟩
            simp only [Bool.false_eq_true, if_false, if_true]
            have R5 := Lib.hid (R5.out.kept hb6)
            have HJ := Lib.hid (HJ.out.after hb6)
            have g14 := (R9.out.kept hb6).cell 14
            have q0 : w5.cell? ⟨w.heap.size + 1, 0, none⟩ = some (.int .i64 m) := R5.out.cell 0
            have hb := hb.trans (hb6.mono hb.size)
            have g14' : w5.cell? ⟨w3.heap.size, 14, none⟩ = some (.int .i64 (v)) := g14
            clear g14
            go_wp2_with (((with_reducible refine at_load 24 (.tmp 5) ?_); refine wpList_load_own rfl 24 (.tmp 5) rfl _ rfl _ _ _ R5.out Try.underlying24 rfl info_port ?_))
            refine (member_any m bo ys c2 v _ HJ.out (by omega)).mono ?_
            rintro e w6 ⟨rfl, hb7⟩
            rw [HQ.out]
            go_wp2_with fail
            go_ret
            exact ⟨rfl, hb.trans (hb7.mono hb.size)⟩
  · have hfew : (decide (zs.length ≤ 200) && decide (ys.length ≤ 200)) = false := by
      rw [Bool.and_eq_false_iff, decide_eq_false_iff_not, decide_eq_false_iff_not]
      omega
    go_wp2_with (first
      | ((with_reducible refine at_load 24 (.tmp 4) ?_); refine wpList_load_own rfl 24 (.tmp 4) rfl _ rfl _ _ _ R4.out Try.underlying24 rfl info_port ?_)
      | ((with_reducible refine at_load 24 (.tmp 5) ?_); refine wpList_load_own rfl 24 (.tmp 5) rfl _ rfl _ _ _ R5.out Try.underlying24 rfl info_port ?_))
    refine (few_any _ _ _ _ _ _ _ _ _ hz hy).mono ?_
    rintro e w2 ⟨rfl, hb2⟩
    rw [hfew]
    go_wp2_with (go_at_call 9; refine (awake_any _).mono ?_; rintro e w3 ⟨rfl, hb3⟩)
    go_ret
    exact ⟨rfl, hb.trans ((hb2.trans (hb3.mono hb2.size)).mono hb.size)⟩
end Go.Proofs.Ytnglpoognlegfaa
