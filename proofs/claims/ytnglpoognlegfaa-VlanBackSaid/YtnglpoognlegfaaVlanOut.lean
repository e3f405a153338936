/- vlan.Out. By an AI agent. -/
import Derived.Test.YtnglpoognlegfaaVlanIn
namespace Go.Proofs.Ytnglpoognlegfaa
open Go.RowKit
namespace Vlan
/-- the VLAN and the priority with which a frame goes out -/
def outV (native v : Int) : Int := if v = native then -1 else v
def outP (native v prio : Int) : Int := if v = native then 0 else prio % 8
theorem tmod8 (p : Int) : -7 ≤ p.tmod 8 ∧ p.tmod 8 ≤ 7 := by
  rcases (show p < 0 ∨ 0 ≤ p from by omega) with h | h
  · have h1 : p.tmod 8 = -((-p) % 8) := by
      rw [show p = -(-p) from by omega, Int.neg_tmod, Int.tmod_eq_emod_of_nonneg (by omega)]
      simp
    omega
  · rw [Int.tmod_eq_emod_of_nonneg h]; omega
theorem tmod8_mod (p : Int) : p.tmod 8 % 8 = p % 8 := by
  rcases (show p < 0 ∨ 0 ≤ p from by omega) with h | h
  · have h1 : p.tmod 8 = -((-p) % 8) := by
      rw [show p = -(-p) from by omega, Int.neg_tmod, Int.tmod_eq_emod_of_nonneg (by omega)]
      simp
    omega
  · rw [Int.tmod_eq_emod_of_nonneg h]; omega
end Vlan

theorem info_frame : (Try.prog.info? 28).map (·.size) = some 14 := by kernel_rfl

set_option maxHeartbeats 2000000 in
theorem out_any (native : Int) (ao : Option Addr) (zs : List Int) (cap : Nat) (v : Int) (d s : Nat → UInt8) (ty : Int) (body : ByteArray) (prio : Int) (w : World) (h : IntsAt w ao zs) (hz : zs.length ≤ 1000000) :
    Calls Try.prog 17 #[.agg #[.int .i64 native, .slice ao zs.length cap], .int .i64 v, .agg #[.int .u8 ((d 0).toNat : Int), .int .u8 ((d 1).toNat : Int), .int .u8 ((d 2).toNat : Int), .int .u8 ((d 3).toNat : Int), .int .u8 ((d 4).toNat : Int), .int .u8 ((d 5).toNat : Int), .int .u8 ((s 0).toNat : Int), .int .u8 ((s 1).toNat : Int), .int .u8 ((s 2).toNat : Int), .int .u8 ((s 3).toNat : Int), .int .u8 ((s 4).toNat : Int), .int .u8 ((s 5).toNat : Int), .int .i64 ty, .string body], .int .i64 prio] w
      fun e w' => e = .returned (if Vlan.member native zs v = true then .tuple #[.agg #[.int .u8 ((d 0).toNat : Int), .int .u8 ((d 1).toNat : Int), .int .u8 ((d 2).toNat : Int), .int .u8 ((d 3).toNat : Int), .int .u8 ((d 4).toNat : Int), .int .u8 ((d 5).toNat : Int), .int .u8 ((s 0).toNat : Int), .int .u8 ((s 1).toNat : Int), .int .u8 ((s 2).toNat : Int), .int .u8 ((s 3).toNat : Int), .int .u8 ((s 4).toNat : Int), .int .u8 ((s 5).toNat : Int), .int .i64 ty, .string body, .int .i64 (Vlan.outV native v), .int .i64 (Vlan.outP native v prio)], .bool true]
        else .tuple #[.agg #[.int .u8 0, .int .u8 0, .int .u8 0, .int .u8 0, .int .u8 0, .int .u8 0, .int .u8 0, .int .u8 0, .int .u8 0, .int .u8 0, .int .u8 0, .int .u8 0, .int .i64 0, .string ⟨#[]⟩, .int .i64 0, .int .i64 0], .bool false]) ∧ Below w.heap.size w w' := by
  have HZ := Lib.hid h
  clear h
  have ht := Vlan.tmod8 prio
  obtain ⟨ht1, ht2⟩ := ht
  have HT := Lib.hid (Vlan.tmod8_mod prio)
  generalize hm : Vlan.member native zs v = m
  have HM := Lib.hid hm
  clear hm
  have key : (m = false) ∨ (m = true ∧ (v == native) = false ∧ Vlan.outV native v = v ∧ Vlan.outP native v prio = prio.tmod 8 % 8) ∨ (m = true ∧ (v == native) = true ∧ Vlan.outV native v = -1 ∧ Vlan.outP native v prio = 0) := by
    cases m
    · exact Or.inl rfl
    · cases hn : (v == native)
      · exact Or.inr (Or.inl ⟨rfl, rfl, if_neg (by simpa using hn), by rw [HT.out]; exact if_neg (by simpa using hn)⟩)
      · exact Or.inr (Or.inr ⟨rfl, rfl, if_pos (by simpa using hn), if_pos (by simpa using hn)⟩)
  clear HT
  rcases key with rfl | ⟨rfl, hn, e1, e2⟩ | ⟨rfl, hn, e1, e2⟩
  all_goals first | (rw [e1, e2]; clear e1 e2) | skip
  all_goals
    simp only [Bool.false_eq_true, if_false, if_true]
    go_enter Try.func17, Try.ntmps17
    go_wp2_with fail
    generalize hW : ((w.alloc _).alloc _).alloc _ = W
    have hb : Below w.heap.size w W := by rw [← hW]; exact (((Below.refl _ _).alloc (Nat.le_refl _) _).alloc (by simp) _).alloc (by simp; omega) _
    have r4 : RowIs W w.heap.size 24 #[.int .i64 native, .slice ao zs.length cap] := by rw [← hW]; exact ((rowIs_new w _ _).alloc _).alloc _
    have r6 : RowIs W (w.heap.size + 1) 28 #[.int .u8 ((d 0).toNat : Int), .int .u8 ((d 1).toNat : Int), .int .u8 ((d 2).toNat : Int), .int .u8 ((d 3).toNat : Int), .int .u8 ((d 4).toNat : Int), .int .u8 ((d 5).toNat : Int), .int .u8 ((s 0).toNat : Int), .int .u8 ((s 1).toNat : Int), .int .u8 ((s 2).toNat : Int), .int .u8 ((s 3).toNat : Int), .int .u8 ((s 4).toNat : Int), .int .u8 ((s 5).toNat : Int), .int .i64 ty, .string body] := by
      have := (rowIs_new (w.alloc (.cells #[.int .i64 native, .slice ao zs.length cap] 24)) 28 #[.int .u8 ((d 0).toNat : Int), .int .u8 ((d 1).toNat : Int), .int .u8 ((d 2).toNat : Int), .int .u8 ((d 3).toNat : Int), .int .u8 ((d 4).toNat : Int), .int .u8 ((d 5).toNat : Int), .int .u8 ((s 0).toNat : Int), .int .u8 ((s 1).toNat : Int), .int .u8 ((s 2).toNat : Int), .int .u8 ((s 3).toNat : Int), .int .u8 ((s 4).toNat : Int), .int .u8 ((s 5).toNat : Int), .int .i64 ty, .string body])
      rw [← hW]; exact RowIs.alloc (by simpa using this) _
    have r8 : RowIs W (w.heap.size + 1 + 1) 36 #[.int .u8 0, .int .u8 0, .int .u8 0, .int .u8 0, .int .u8 0, .int .u8 0, .int .u8 0, .int .u8 0, .int .u8 0, .int .u8 0, .int .u8 0, .int .u8 0, .int .i64 0, .string ⟨#[]⟩, .int .i64 0, .int .i64 0] := by
      have := (rowIs_new ((w.alloc (.cells #[.int .i64 native, .slice ao zs.length cap] 24)).alloc (.cells #[.int .u8 ((d 0).toNat : Int), .int .u8 ((d 1).toNat : Int), .int .u8 ((d 2).toNat : Int), .int .u8 ((d 3).toNat : Int), .int .u8 ((d 4).toNat : Int), .int .u8 ((d 5).toNat : Int), .int .u8 ((s 0).toNat : Int), .int .u8 ((s 1).toNat : Int), .int .u8 ((s 2).toNat : Int), .int .u8 ((s 3).toNat : Int), .int .u8 ((s 4).toNat : Int), .int .u8 ((s 5).toNat : Int), .int .i64 ty, .string body] 28)) 36 #[.int .u8 0, .int .u8 0, .int .u8 0, .int .u8 0, .int .u8 0, .int .u8 0, .int .u8 0, .int .u8 0, .int .u8 0, .int .u8 0, .int .u8 0, .int .u8 0, .int .i64 0, .string ⟨#[]⟩, .int .i64 0, .int .i64 0])
      rw [← hW]; simpa using this
    have HI := Lib.hid (HZ.out.after hb)
    clear hW HZ
    refine (member_any _ ao zs cap _ _ HI.out hz).mono ?_
    rintro e w1 ⟨rfl, hb1⟩
    rw [HM.out]
    have R4 := Lib.hid (r4.kept hb1)
    have R6 := Lib.hid (r6.kept hb1)
    have R8 := Lib.hid (r8.kept hb1)
    have c0 : w1.cell? ⟨w.heap.size, 0, none⟩ = some (.int .i64 native) := R4.out.cell 0
    have hb := hb.trans (hb1.mono hb.size)
    clear r4 r6 r8 hb1
    go_wp2_with (first
      | ((with_reducible refine at_load 28 (.tmp 6) ?_); refine wpList_load_own rfl 28 (.tmp 6) rfl _ rfl _ _ _ R6.out Try.underlying28 rfl info_frame ?_)
      | ((with_reducible refine at_store 36 (.tmp 8) (.tmp 15) ?_); refine wpList_store_own rfl 36 (.tmp 8) (.tmp 15) rfl (w.heap.size + 1 + 1) _ rfl rfl _ _ R8.out info_eth rfl (by kernel_rfl) w.heap.size (by omega) ?_)
      | ((with_reducible refine at_store 36 (.tmp 8) (.tmp 22) ?_); refine wpList_store_own rfl 36 (.tmp 8) (.tmp 22) rfl (w.heap.size + 1 + 1) _ rfl rfl _ _ R8.out info_eth rfl (by kernel_rfl) w.heap.size (by omega) ?_)
      | ((with_reducible refine at_store 36 (.tmp 8) (.tmp 29) ?_); refine wpList_store_own rfl 36 (.tmp 8) (.tmp 29) rfl (w.heap.size + 1 + 1) _ rfl rfl _ _ R8.out info_eth rfl (by kernel_rfl) w.heap.size (by omega) ?_))
    intro w2 hR _ _ hb2
    have HR := Lib.hid hR
    clear hR
    go_wp2_with fail
    refine bodyPost_ret (results_row_tmp1 Try.results17 _ _ (w.heap.size + 1 + 1) _ _ _ rfl HR.out Try.underlying36 rfl info_eth) rfl ?_
    exact ⟨rfl, hb.trans hb2⟩
end Go.Proofs.Ytnglpoognlegfaa
