/- The walk of VlanMembers. By an AI agent. -/
import Derived.Test.YtnglpoognlegfaaVlanIn
import Derived.Test.YtnglpoognlegfaaEthOf
import Derived.Lib.QuietBelow
import Derived.BigQuiet
namespace Go.Proofs.Ytnglpoognlegfaa
open Go.RowKit Go.Sort

namespace Vlan
/-- what the statement says -/
theorem rightFrom_bounds (native : Int) : ∀ (zs : List Int) (last : Int), 0 ≤ last → rightFrom native last zs = true → ∀ v ∈ zs, last < v ∧ v ≤ 4094 ∧ v ≠ native
  | [], _, _, _, v, hv => by simp at hv
  | z :: zs, last, h0, h, v, hv => by
    simp only [rightFrom, Bool.and_eq_true, decide_eq_true_eq, Bool.not_eq_true', beq_eq_false_iff_ne] at h
    obtain ⟨⟨⟨h1, h2⟩, h3⟩, h4⟩ := h
    rcases List.mem_cons.1 hv with rfl | hv
    · exact ⟨h1, h2, h3⟩
    · have := rightFrom_bounds native zs z (by omega) h4 v hv
      exact ⟨by omega, this.2⟩

theorem member_bounds {native : Int} {zs : List Int} {v : Int} (h : member native zs v = true) : 1 ≤ v ∧ v ≤ 4094 := by
  simp only [member, right, Bool.and_eq_true, decide_eq_true_eq, Bool.not_eq_true', beq_eq_false_iff_ne, Bool.or_eq_true, beq_iff_eq] at h
  obtain ⟨⟨⟨⟨⟨h1, h2⟩, h3⟩, h4⟩, h5⟩, h6⟩ := h
  rcases h6 with rfl | h6
  · omega
  · have := rightFrom_bounds native zs 0 (by omega) h4 v h6
    omega
end Vlan

set_option maxHeartbeats 4000000 in
theorem vlanMembers_walk (native : Int) (ao : Option Addr) (zs : List Int) (cap : Nat) (d s : Nat → UInt8) (ty v pr : Int) (body : ByteArray) (w : World) (h : IntsAt w ao zs) (hz : zs.length ≤ 9223372036854775807) :
    Calls Try.prog 3 #[.agg #[.int .i64 native, .slice ao zs.length cap], .agg #[.int .u8 ((d 0).toNat : Int), .int .u8 ((d 1).toNat : Int), .int .u8 ((d 2).toNat : Int), .int .u8 ((d 3).toNat : Int), .int .u8 ((d 4).toNat : Int), .int .u8 ((d 5).toNat : Int), .int .u8 ((s 0).toNat : Int), .int .u8 ((s 1).toNat : Int), .int .u8 ((s 2).toNat : Int), .int .u8 ((s 3).toNat : Int), .int .u8 ((s 4).toNat : Int), .int .u8 ((s 5).toNat : Int), .int .i64 ty, .string body, .int .i64 v, .int .i64 pr]] w
      fun e w' => e = .returned (.bool true) ∧ Below w.heap.size w w' := by
  have HZ := Lib.hid h
  clear h
  go_enter Try.func3, Try.ntmps3
  go_wp2_with fail
  generalize hW : (w.alloc _).alloc _ = W
  have hb : Below w.heap.size w W := by rw [← hW]; exact below_alloc2 _ _ _
  have r2 : RowIs W w.heap.size 24 #[.int .i64 native, .slice ao zs.length cap] := by rw [← hW]; exact (rowIs_new w _ _).alloc _
  have r3 : RowIs W (w.heap.size + 1) 30 #[.int .u8 ((d 0).toNat : Int), .int .u8 ((d 1).toNat : Int), .int .u8 ((d 2).toNat : Int), .int .u8 ((d 3).toNat : Int), .int .u8 ((d 4).toNat : Int), .int .u8 ((d 5).toNat : Int), .int .u8 ((s 0).toNat : Int), .int .u8 ((s 1).toNat : Int), .int .u8 ((s 2).toNat : Int), .int .u8 ((s 3).toNat : Int), .int .u8 ((s 4).toNat : Int), .int .u8 ((s 5).toNat : Int), .int .i64 ty, .string body, .int .i64 v, .int .i64 pr] := by
    have := rowIs_new (w.alloc (.cells #[.int .i64 native, .slice ao zs.length cap] 24)) 30 #[.int .u8 ((d 0).toNat : Int), .int .u8 ((d 1).toNat : Int), .int .u8 ((d 2).toNat : Int), .int .u8 ((d 3).toNat : Int), .int .u8 ((d 4).toNat : Int), .int .u8 ((d 5).toNat : Int), .int .u8 ((s 0).toNat : Int), .int .u8 ((s 1).toNat : Int), .int .u8 ((s 2).toNat : Int), .int .u8 ((s 3).toNat : Int), .int .u8 ((s 4).toNat : Int), .int .u8 ((s 5).toNat : Int), .int .i64 ty, .string body, .int .i64 v, .int .i64 pr]
    rw [← hW]; simpa using this
  have HI := Lib.hid (HZ.out.after hb)
  clear hW HZ
  refine (awake_any _).mono ?_
  rintro e w1 ⟨rfl, hb1⟩
  have R2 := Lib.hid (r2.kept hb1)
  have R3 := Lib.hid (r3.kept hb1)
  have HI1 := Lib.hid (HI.out.after hb1)
  have hb := hb.trans (hb1.mono hb.size)
  clear r2 r3 hb1 HI
  by_cases h2 : zs.length ≤ 200
  · have hfew : (decide (zs.length ≤ 200) && decide (zs.length ≤ 200)) = true := by simp [h2]
    go_wp2_with (first
      | ((with_reducible refine at_load 24 (.tmp 2) ?_); refine wpList_load_own rfl 24 (.tmp 2) rfl _ rfl _ _ _ R2.out Try.underlying24 rfl info_port ?_)
      | (go_at_call 10; refine (few_any _ _ _ _ _ _ _ _ _ hz hz).mono ?_; rintro e w2 ⟨rfl, hb2⟩; rw [hfew]))
    have RR2 := R2.out.kept hb2
    have RR3 := R3.out.kept hb2
    have HI2 := Lib.hid (HI1.out.after hb2)
    have hb := hb.trans (hb2.mono hb.size)
    clear R2 R3 HI1 hb2
    have p0 : w2.cell? ⟨w.heap.size, 0, none⟩ = some (.int .i64 native) := RR2.cell 0
    have p1 : w2.cell? ⟨w.heap.size, 1, none⟩ = some (.slice ao zs.length cap) := RR2.cell 1
    have e0 : w2.cell? ⟨w.heap.size + 1, 0, none⟩ = some (.int .u8 ((d 0).toNat : Int)) := RR3.cell 0
    have e1 : w2.cell? ⟨w.heap.size + 1, 1, none⟩ = some (.int .u8 ((d 1).toNat : Int)) := RR3.cell 1
    have e2 : w2.cell? ⟨w.heap.size + 1, 2, none⟩ = some (.int .u8 ((d 2).toNat : Int)) := RR3.cell 2
    have e3 : w2.cell? ⟨w.heap.size + 1, 3, none⟩ = some (.int .u8 ((d 3).toNat : Int)) := RR3.cell 3
    have e4 : w2.cell? ⟨w.heap.size + 1, 4, none⟩ = some (.int .u8 ((d 4).toNat : Int)) := RR3.cell 4
    have e5 : w2.cell? ⟨w.heap.size + 1, 5, none⟩ = some (.int .u8 ((d 5).toNat : Int)) := RR3.cell 5
    have e6 : w2.cell? ⟨w.heap.size + 1, 6, none⟩ = some (.int .u8 ((s 0).toNat : Int)) := RR3.cell 6
    have e7 : w2.cell? ⟨w.heap.size + 1, 7, none⟩ = some (.int .u8 ((s 1).toNat : Int)) := RR3.cell 7
    have e8 : w2.cell? ⟨w.heap.size + 1, 8, none⟩ = some (.int .u8 ((s 2).toNat : Int)) := RR3.cell 8
    have e9 : w2.cell? ⟨w.heap.size + 1, 9, none⟩ = some (.int .u8 ((s 3).toNat : Int)) := RR3.cell 9
    have e10 : w2.cell? ⟨w.heap.size + 1, 10, none⟩ = some (.int .u8 ((s 4).toNat : Int)) := RR3.cell 10
    have e11 : w2.cell? ⟨w.heap.size + 1, 11, none⟩ = some (.int .u8 ((s 5).toNat : Int)) := RR3.cell 11
    have e12 : w2.cell? ⟨w.heap.size + 1, 12, none⟩ = some (.int .i64 ty) := RR3.cell 12
    have e13 : w2.cell? ⟨w.heap.size + 1, 13, none⟩ = some (.string body) := RR3.cell 13
    have e14 : w2.cell? ⟨w.heap.size + 1, 14, none⟩ = some (.int .i64 v) := RR3.cell 14
    have e15 : w2.cell? ⟨w.heap.size + 1, 15, none⟩ = some (.int .i64 pr) := RR3.cell 15
    have R2 := Lib.hid RR2
    have R3 := Lib.hid RR3
    clear RR2 RR3
    have kp0 := cell_regrown p0
    have kp1 := cell_regrown p1
    have k0 := cell_regrown e0
    have k1 := cell_regrown e1
    have k2 := cell_regrown e2
    have k3 := cell_regrown e3
    have k4 := cell_regrown e4
    have k5 := cell_regrown e5
    have k6 := cell_regrown e6
    have k7 := cell_regrown e7
    have k8 := cell_regrown e8
    have k9 := cell_regrown e9
    have k10 := cell_regrown e10
    have k11 := cell_regrown e11
    have k12 := cell_regrown e12
    have k13 := cell_regrown e13
    have k14 := cell_regrown e14
    have k15 := cell_regrown e15
    have cO : ∀ dd os, Calls Try.prog 12 #[.agg #[.int .u8 ((d 0).toNat : Int), .int .u8 ((d 1).toNat : Int), .int .u8 ((d 2).toNat : Int), .int .u8 ((d 3).toNat : Int), .int .u8 ((d 4).toNat : Int), .int .u8 ((d 5).toNat : Int), .int .u8 ((s 0).toNat : Int), .int .u8 ((s 1).toNat : Int), .int .u8 ((s 2).toNat : Int), .int .u8 ((s 3).toNat : Int), .int .u8 ((s 4).toNat : Int), .int .u8 ((s 5).toNat : Int), .int .i64 ty, .string body, .int .i64 v, .int .i64 pr]] (grow (redrawn w2 dd) os)
        fun e w' => e = .returned (.agg #[.int .u8 ((d 0).toNat : Int), .int .u8 ((d 1).toNat : Int), .int .u8 ((d 2).toNat : Int), .int .u8 ((d 3).toNat : Int), .int .u8 ((d 4).toNat : Int), .int .u8 ((d 5).toNat : Int), .int .u8 ((s 0).toNat : Int), .int .u8 ((s 1).toNat : Int), .int .u8 ((s 2).toNat : Int), .int .u8 ((s 3).toNat : Int), .int .u8 ((s 4).toNat : Int), .int .u8 ((s 5).toNat : Int), .int .i64 ty, .string body, .int .i64 v, .int .i64 pr]) ∧ ∃ p : Regrown, w' = grow (redrawn w2 p.d) p.os := fun dd os => Calls.regrown_of (of_any d s ty v pr body _)
    have cI : ∀ dd os, Calls Try.prog 11 #[.agg #[.int .i64 native, .slice ao zs.length cap], .agg #[.int .u8 ((d 0).toNat : Int), .int .u8 ((d 1).toNat : Int), .int .u8 ((d 2).toNat : Int), .int .u8 ((d 3).toNat : Int), .int .u8 ((d 4).toNat : Int), .int .u8 ((d 5).toNat : Int), .int .u8 ((s 0).toNat : Int), .int .u8 ((s 1).toNat : Int), .int .u8 ((s 2).toNat : Int), .int .u8 ((s 3).toNat : Int), .int .u8 ((s 4).toNat : Int), .int .u8 ((s 5).toNat : Int), .int .i64 ty, .string body, .int .i64 v, .int .i64 pr]] (grow (redrawn w2 dd) os)
        fun e w' => e = .returned (.tuple #[.int .i64 (if Vlan.member native zs (Vlan.inV native v) = true then Vlan.inV native v else 0), .int .i64 (if Vlan.member native zs (Vlan.inV native v) = true then 0 else 12)]) ∧ ∃ p : Regrown, w' = grow (redrawn w2 p.d) p.os :=
      fun dd os => Calls.regrown_of (in_any native ao zs cap d s ty v pr body _ (HI2.out.after (below_regrown w2 dd os)) (by omega))
    generalize hx : Vlan.inV native v = x at cI
    generalize hm : Vlan.member native zs x = m at cI
    have HX := Lib.hid hx
    have HM := Lib.hid hm
    clear hx hm
    cases m
    · simp only [Bool.false_eq_true, if_false] at cI
      have CI := Lib.hid cI
      have CO := Lib.hid cO
      clear cI cO
      refine wp_region_quiet_below (by kernel_rfl) (by kernel_rfl) ?_
      repeat (quiet_step (first | (with_reducible exact CO.out _ _) | (with_reducible exact CI.out _ _)))
      refine wpQuiet_nil ?_
      intro _ hw'
      obtain ⟨⟨dq, osq⟩, hw''⟩ := hw'
      subst hw''
      go_wp2_with fail
      go_ret
      exact ⟨rfl, hb.trans ((below_regrown w2 dq osq).mono hb.size)⟩
    · simp only [if_true] at cI
      have CI := Lib.hid cI
      have CO := Lib.hid cO
      clear cI cO
      have HMB := Lib.hid (Vlan.member_bounds HM.out)
      refine wp_region_quiet_below (by kernel_rfl) (by kernel_rfl) ?_
      repeat (quiet_step (first | (with_reducible exact CO.out _ _) | (with_reducible exact CI.out _ _)))
      refine wpQuiet_nil ?_
      intro _ hw'
      obtain ⟨⟨dq, osq⟩, hw''⟩ := hw'
      subst hw''
      have hb3 := below_regrown w2 dq osq
      generalize grow (redrawn w2 dq) osq = w3 at hb3 ⊢
      have R2b := Lib.hid (R2.out.kept hb3)
      have HI3 := Lib.hid (HI2.out.after hb3)
      clear kp0 kp1 k0 k1 k2 k3 k4 k5 k6 k7 k8 k9 k10 k11 k12 k13 k14 k15 e0 e1 e2 e3 e4 e5 e6 e7 e8 e9 e10 e11 e12 e13 e15
      have f14 := cell_of_below hb3 e14
      have q0 := cell_of_below hb3 p0
      go_wp2_with ((with_reducible refine at_load 24 (.tmp 2) ?_); refine wpList_load_own rfl 24 (.tmp 2) rfl _ rfl _ _ _ R2b.out Try.underlying24 rfl info_port ?_)
      refine (member_any native ao zs cap x _ HI3.out (by omega)).mono ?_
      rintro e w4 ⟨rfl, hb4⟩
      rw [HM.out]
      have g14 := cell_of_below hb4 f14
      have g0 := cell_of_below hb4 q0
      have hmb := HMB.out
      have hcase : (v == x) = true ∨ ((v == x) = false ∧ v ≤ 0 ∧ (x == native) = true) := by
        have hx := HX.out
        unfold Vlan.inV at hx
        split at hx
        · rename_i hv
          by_cases hvx : v = x
          · exact Or.inl (by simpa using hvx)
          · exact Or.inr ⟨by simpa using hvx, by omega, by simpa using hx.symm⟩
        · exact Or.inl (by simpa using hx)
      clear f14 q0 e14 p0 p1
      rcases hcase with hA | ⟨hB1, hB2, hB3⟩
      · go_wp2_with fail
        go_ret
        exact ⟨rfl, hb.trans ((hb3.trans (hb4.mono hb3.size)).mono hb.size)⟩
      · go_wp2_with fail
        go_ret
        exact ⟨rfl, hb.trans ((hb3.trans (hb4.mono hb3.size)).mono hb.size)⟩
  · have hfew : (decide (zs.length ≤ 200) && decide (zs.length ≤ 200)) = false := by simp [h2]
    go_wp2_with (first
      | ((with_reducible refine at_load 24 (.tmp 2) ?_); refine wpList_load_own rfl 24 (.tmp 2) rfl _ rfl _ _ _ R2.out Try.underlying24 rfl info_port ?_)
      | (go_at_call 10; refine (few_any _ _ _ _ _ _ _ _ _ hz hz).mono ?_; rintro e w2 ⟨rfl, hb2⟩; rw [hfew])
      | (go_at_call 9; refine (awake_any _).mono ?_; rintro e w3 ⟨rfl, hb3⟩))
    go_ret
    exact ⟨rfl, hb.trans ((hb2.trans (hb3.mono hb2.size)).mono hb.size)⟩
end Go.Proofs.Ytnglpoognlegfaa
