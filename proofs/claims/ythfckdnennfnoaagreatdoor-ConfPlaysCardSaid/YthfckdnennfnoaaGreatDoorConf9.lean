/- conf.line: the deferred closure. By an AI agent. -/
import Derived.Test.YthfckdnennfnoaaGreatDoorConf7
import Derived.Test.YthfckdnennfnoaaGreatDoorConf8
import Derived.Defers
import Derived.Recover
import Derived.Laws.Pointers
namespace Go.Proofs.YthfckdnennfnoaaGreatDoor
open Go.RowKit Go.Sort Grow

theorem Only.fresh {bs cs : List Nat} {w w' w'' : World} (h : Only bs w w') (k : Only cs w' w'') (hc : ∀ c ∈ cs, c ∈ bs ∨ w.heap.size ≤ c) : Only bs w w'' :=
  ⟨Nat.le_trans h.1 k.1, fun j hj hn => (k.2 j (Nat.lt_of_lt_of_le hj h.1) (fun hm => by
    rcases hc j hm with h1 | h1
    · exact hn h1
    · omega)).trans (h.2 j hj hn)⟩
theorem assert_bad (w : World) : (Instr.typeAssert (.iface 99 (.agg #[])) 20 99 true).run Tryz.prog w = .ok (.tuple #[.agg #[], .bool true]) w := by
  unfold Instr.typeAssert
  simp [run_underlying Tryz.underlying99]
theorem assert_nil (w : World) : (Instr.typeAssert .nilIface 20 99 true).run Tryz.prog w = .ok (.tuple #[.agg #[], .bool false]) w := by
  unfold Instr.typeAssert
  simp [run_underlying Tryz.underlying99, Tryz.zeroValue99]
set_option maxRecDepth 100000 in
theorem line_catch (H : Nat) (x : Value) (w : World) (h : RowIs w H 4 #[x]) :
    CallsD Tryz.prog 35 #[.pointer (some ⟨H, 0, none⟩)] (.panicking Cf.ch) w fun e u' w' =>
      e = .returned (.tuple #[]) ∧ u' = .panicking [{ v := .iface 99 (.agg #[]), recovered := true }] ∧ RowIs w' H 4 #[.bool false] ∧ Only [H] w w' ∧ Below H w w' := by
  have hc : w.cell? ⟨H, 0, none⟩ = some x := h.cell 0
  have hz : w.frozen? ⟨H, 0, none⟩ = false := h.free 0
  have hlt := h.lt
  have hne : H ≠ w.heap.size := by omega
  refine callsD_of_wpS Tryz.func35 rfl fun c₀ cs hu => ?_
  unfold Cf.ch at hu
  apply wpS_seq
  apply wpS_region
  simp [wpOpsS, go_sem, recoverD, hu, assert_bad, assert_nil, Tryz.ntmps35, Exit.thenS]
  have h1 : RowIs (w.alloc (.cells #[] 99)) H 4 #[x] := h.alloc _
  have ho : Only [H] w (w.alloc (.cells #[] 99)) := (Only.refl _ _).below ((Below.refl _ _).alloc (Nat.le_refl _) _)
  have hb1 : Below H w (w.alloc (.cells #[] 99)) := (Below.refl _ _).alloc (by omega) _
  generalize w.alloc (.cells #[] 99) = w1 at *
  have hc1 : w1.cell? ⟨H, 0, none⟩ = some x := h1.cell 0
  have hz1 : w1.frozen? ⟨H, 0, none⟩ = false := h1.free 0
  apply wpS_seq
  apply wpS_region
  simp [wpOpsS, go_sem, Exit.thenS]
  refine wpS_cond (t := true) (by simp [Act.eval, Array.replicate]) ?_
  simp only [if_true]
  apply wpS_region
  simp [wpOpsS, go_sem, hc1, hz1, bodyPostS, results, Tryz.results35]
  refine ⟨heap_setCell_same w1 H 0 _ _ _ h1, ho.store (List.mem_singleton.2 rfl) (fun j hj => Below.heap_setCell w1 _ _ j hj) (by simp [World.setCell]), hb1.setCell (p := ⟨H, 0, none⟩) (Nat.le_refl _) _⟩
set_option maxRecDepth 100000 in
theorem line_idle (H : Nat) (w : World) :
    CallsD Tryz.prog 35 #[.pointer (some ⟨H, 0, none⟩)] .returning w fun e u' w' => e = .returned (.tuple #[]) ∧ u' = .returning ∧ Below w.heap.size w w' := by
  refine callsD_of_wpS Tryz.func35 rfl fun c₀ cs hu => ?_
  apply wpS_seq
  apply wpS_region
  simp [wpOpsS, go_sem, recoverD, hu, assert_bad, assert_nil, Tryz.ntmps35, Exit.thenS]
  have hb : Below w.heap.size w (w.alloc (.cells #[] 99)) := (Below.refl _ _).alloc (Nat.le_refl _) _
  generalize w.alloc (.cells #[] 99) = w1 at *
  apply wpS_seq
  apply wpS_region
  simp [wpOpsS, go_sem, Exit.thenS]
  refine wpS_cond (t := false) (by simp [Act.eval, Array.replicate]) ?_
  simp only [Bool.false_eq_true, if_false]
  refine wpS_of_wp (wp_skip ?_)
  cases c₀
  simp_all [bodyPostS, results, Tryz.results35]

namespace Cf
theorem cut_size {s t : ByteArray} (h : cut s = some t) : t.size ≤ s.size := by
  unfold cut at h
  by_cases hc : s.data.toList.getLast? = some 10
  · rw [if_pos hc] at h
    obtain rfl := Option.some.inj h
    show s.data.toList.dropLast.toArray.size ≤ s.data.size
    rw [List.size_toArray, List.length_dropLast, Array.length_toList]
    omega
  · rw [if_neg hc] at h
    cases h
def lineBr (s : ByteArray) : Option Br := match cut s with
  | some t => bridgeOf (lists (Oct.pieces 32 t))
  | none => none
def linePt (s : ByteArray) : Option Pt := match cut s with
  | some t => portOf (lists (Oct.pieces 32 t))
  | none => none
theorem lineBr_no {s : ByteArray} (h : cut s = none) : lineBr s = none := by unfold lineBr; rw [h]
theorem lineBr_of {s t : ByteArray} (h : cut s = some t) : lineBr s = bridgeOf (lists (Oct.pieces 32 t)) := by unfold lineBr; rw [h]
theorem linePt_no {s : ByteArray} (h : cut s = none) : linePt s = none := by unfold linePt; rw [h]
theorem linePt_of {s t : ByteArray} (h : cut s = some t) : linePt s = portOf (lists (Oct.pieces 32 t)) := by unfold linePt; rw [h]
/-- of what lies below B only the block C has turned -/
def Turned (C B : Nat) (w w' : World) : Prop := w.heap.size ≤ w'.heap.size ∧ ∀ j, j < B → j ≠ C → w'.heap[j]? = w.heap[j]?
end Cf
set_option maxRecDepth 20000 in
set_option maxHeartbeats 4000000 in
theorem line_first (B C : Nat) (s : ByteArray) (hs : s.size < 9000) (id : List UInt8) (hid : id.length = 8) (a0 b0 c0 d0 pv : Value) (w : World) (hX : RowIs w C 33 (byteVals id ++ [a0, b0, c0, d0, pv]).toArray) (hBC : B ≤ C) :
    Calls Tryz.prog 16 #[.string s, .bool true, .pointer (some ⟨C, 0, none⟩)] w fun e w' => e = .returned (.bool (Cf.lineBr s).isSome) ∧ (∀ b, Cf.lineBr s = some b → RowIs w' C 33 (Cf.bcells b pv)) ∧ Only [C] w w' ∧ Below B w w' := by
  have hmf : ∀ (fn : Fn) (first cap : Array Value) (w : World), (Instr.makeFunc fn first cap).run Tryz.prog w = .ok (.func fn first cap) w := fun _ _ _ _ => rfl
  have hCw := hX.lt
  cases hcut : Cf.cut s with
  | none =>
    have HCT := Lib.hid (cut_any s (by omega))
    have HCN := Lib.hid hcut
    clear hcut
    go_enter_defers Tryz.func16, Tryz.ntmps16
    go_wp2_with fail
    have HK1 : Hid (RowIs (w.alloc (.cells #[.bool false] 4)) w.heap.size 4 #[.bool false]) := rowIs_new w _ _
    have HB1 : Hid (Below w.heap.size w (w.alloc (.cells #[.bool false] 4))) := (Below.refl _ _).alloc (Nat.le_refl _) _
    generalize w.alloc (.cells #[.bool false] 4) = w1 at *
    refine (HCT.out _).mono ?_
    rintro e w' ⟨he, rfl⟩
    unfold Cf.CutAns at he
    rw [HCN.out] at he
    obtain rfl := he
    go_wp2_with fail
    refine (must_not _).mono ?_
    rintro e w' ⟨rfl, rfl⟩
    go_wp2_with fail
    refine leaves_cons (f := 35) (args := #[.pointer (some ⟨w.heap.size, 0, none⟩)]) (by simp) (by simp [go_sem]) ?_
    refine (line_catch w.heap.size _ _ HK1.out).mono ?_
    rintro e u' w9 ⟨rfl, rfl, hk9, ho9, hb8⟩
    have hc9 : w9.cell? ⟨w.heap.size, 0, none⟩ = some (.bool false) := hk9.cell 0
    have hO9 : Only [C] w w9 := ((Only.refl [C] w).below HB1.out).fresh ho9 (by simp)
    have hb9 : Below B w w9 := ((HB1.out.mono (by omega)).trans (hb8.mono (by omega)))
    simp [Leaves, settle, results, Tryz.results16, go_sem, hc9]
    rw [(Cf.lineBr_no HCN.out)]
    exact ⟨rfl, fun b h => (by cases h), hO9, hb9⟩
  | some t =>
    have HCT := Lib.hid (cut_any s (by omega))
    have HCN := Lib.hid hcut
    have HTZ : Hid (t.size < 1000000) := by have := Cf.cut_size hcut; show _ < _; omega
    have HTS0 : Hid (t.size ≤ 100000) := by have := Cf.cut_size hcut; show _ ≤ _; omega
    have HPL : Hid ((Oct.pieces 32 t).length < 10000) := by have := Cf.cut_size hcut; have := Cf.pieces_len 32 t; show _ < _; omega
    clear hcut
    go_enter_defers Tryz.func16, Tryz.ntmps16
    go_wp2_with fail
    have HK1 : Hid (RowIs (w.alloc (.cells #[.bool false] 4)) w.heap.size 4 #[.bool false]) := rowIs_new w _ _
    have HX1 := Lib.hid (hX.alloc (.cells #[.bool false] 4))
    have HB1 : Hid (Below w.heap.size w (w.alloc (.cells #[.bool false] 4))) := (Below.refl _ _).alloc (Nat.le_refl _) _
    have hs1 : (w.alloc (.cells #[.bool false] 4)).heap.size = w.heap.size + 1 := by simp
    generalize w.alloc (.cells #[.bool false] 4) = w1 at *
    refine (HCT.out _).mono ?_
    rintro e w' ⟨he, rfl⟩
    unfold Cf.CutAns at he
    rw [HCN.out] at he
    obtain rfl := he
    -- the line has its end
    go_wp2_with fail
    refine (must_ok _).mono ?_
    rintro e w' ⟨rfl, rfl⟩
    go_wp2_with fail
    refine (split_any t 32 _ HTZ.out).mono ?_
    rintro e w2 ⟨rfl, rfl⟩
    have HS2 : Hid (RowIs (w1.alloc (.cells (Strs.all (Oct.pieces 32 t)).toArray 9)) (w.heap.size + 1) 9 (Strs.all (Oct.pieces 32 t)).toArray) := by
      show RowIs _ _ _ _
      rw [← hs1]
      exact rowIs_new w1 _ _
    have HK2 := Lib.hid (HK1.out.alloc (.cells (Strs.all (Oct.pieces 32 t)).toArray 9))
    have HX2 := Lib.hid (HX1.out.alloc (.cells (Strs.all (Oct.pieces 32 t)).toArray 9))
    have HB2 := Lib.hid (HB1.out.alloc (show w.heap.size ≤ w1.heap.size by omega) (.cells (Strs.all (Oct.pieces 32 t)).toArray 9))
    have hs2 : (w1.alloc (.cells (Strs.all (Oct.pieces 32 t)).toArray 9)).heap.size = w.heap.size + 2 := by simp [hs1]
    generalize w1.alloc (.cells (Strs.all (Oct.pieces 32 t)).toArray 9) = w2 at *
    rw [hs1]
    clear HK1 HX1 HB1 hs1
    go_upto_region 5 with fail
    have HP3 : Hid (Cf.PAt (w2.alloc (.cells #[.slice (some ⟨w.heap.size + 1, 0, none⟩) (Oct.pieces 32 t).length (Oct.pieces 32 t).length] 104)) (w.heap.size + 2) (w.heap.size + 1) (Oct.pieces 32 t) 0) := by
      refine ⟨by omega, Nat.zero_le _, HPL.out, HS2.out.alloc _, 0, fun _ => rfl, ?_⟩
      rw [← hs2]
      exact rowIs_new w2 _ _
    have HX3 := Lib.hid (HX2.out.alloc (.cells #[.slice (some ⟨w.heap.size + 1, 0, none⟩) (Oct.pieces 32 t).length (Oct.pieces 32 t).length] 104))
    have HK3 := Lib.hid (HK2.out.alloc (.cells #[.slice (some ⟨w.heap.size + 1, 0, none⟩) (Oct.pieces 32 t).length (Oct.pieces 32 t).length] 104))
    have HB3 := Lib.hid (HB2.out.alloc (show w.heap.size ≤ w2.heap.size by omega) (.cells #[.slice (some ⟨w.heap.size + 1, 0, none⟩) (Oct.pieces 32 t).length (Oct.pieces 32 t).length] 104))
    have HO3 : Hid (Only [C] w (w2.alloc (.cells #[.slice (some ⟨w.heap.size + 1, 0, none⟩) (Oct.pieces 32 t).length (Oct.pieces 32 t).length] 104))) := (Only.refl _ _).below HB3.out
    generalize w2.alloc (.cells #[.slice (some ⟨w.heap.size + 1, 0, none⟩) (Oct.pieces 32 t).length (Oct.pieces 32 t).length] 104) = w3 at *
    clear HX2 HK2 HB2 HS2 hs2
    go_wp2_with fail
    refine (bridge_any B (w.heap.size + 2) (w.heap.size + 1) C (Oct.pieces 32 t) id hid a0 b0 c0 d0 pv w3 HP3.out HX3.out (by omega) hBC (by omega) (by omega)).mono ?_
    rintro e w4 ⟨hans, hO, hb⟩
    have HK4 := Lib.hid (HK3.out.only hO (by simp; omega))
    have HO4 := Lib.hid (HO3.out.fresh hO (by simp))
    have HB4 := Lib.hid ((HB3.out.mono (show B ≤ w.heap.size by omega)).trans hb)
    clear hO hb HP3 HX3 HK3 HO3 HB3
    unfold Cf.BridgeAns at hans
    cases hbr : Cf.bridgeOf (Cf.lists (Oct.pieces 32 t)) with
    | none =>
      rw [hbr] at hans
      obtain rfl := hans
      have HBR := Lib.hid ((Cf.lineBr_of HCN.out).trans hbr)
      clear hbr
      go_wp2_with fail
      refine leaves_cons (f := 35) (args := #[.pointer (some ⟨w.heap.size, 0, none⟩)]) (by simp) (by simp [go_sem]) ?_
      refine (line_catch w.heap.size _ _ HK4.out).mono ?_
      rintro e u' w9 ⟨rfl, rfl, hk9, ho9, hb8⟩
      have hc9 : w9.cell? ⟨w.heap.size, 0, none⟩ = some (.bool false) := hk9.cell 0
      have hO9 : Only [C] w w9 := HO4.out.fresh ho9 (by simp)
      have hb9 : Below B w w9 := HB4.out.trans (hb8.mono (by omega))
      simp [Leaves, settle, results, Tryz.results16, go_sem, hc9]
      rw [HBR.out]
      exact ⟨rfl, fun b h => (by cases h), hO9, hb9⟩
    | some b =>
      rw [hbr] at hans
      obtain ⟨rfl, hx4⟩ := hans
      have HX4 := Lib.hid hx4
      have HBR := Lib.hid ((Cf.lineBr_of HCN.out).trans hbr)
      clear hbr hx4
      go_wp2_with ((with_reducible refine at_store 4 (.tmp 6) (.const (.bool true)) ?_); refine wpList_store_cell rfl 4 (.tmp 6) (.const (.bool true)) rfl w.heap.size 0 _ rfl rfl 4 _ HK4.out (by simp) (by kernel_rfl) rfl B (by omega) ?_)
      intro w5 hK hO hs hb
      have HK5 : Hid (RowIs w5 w.heap.size 4 #[.bool true]) := hK
      have HX5 := Lib.hid (show RowIs w5 C 33 _ from (hO _ (by omega)).trans HX4.out)
      have HO5 := Lib.hid (HO4.out.newer (by omega) hO hs)
      have HB5 := Lib.hid (HB4.out.trans hb)
      clear hK hO hs hb HK4 HX4 HO4 HB4
      go_wp2_with fail
      refine leaves_cons (f := 35) (args := #[.pointer (some ⟨w.heap.size, 0, none⟩)]) (by simp) (by simp [go_sem]) ?_
      refine (line_idle w.heap.size _).mono ?_
      rintro e u' w9 ⟨rfl, rfl, hb8⟩
      have hk9 := HK5.out.kept hb8
      have hc9 : w9.cell? ⟨w.heap.size, 0, none⟩ = some (.bool true) := hk9.cell 0
      have hO9 : Only [C] w w9 := HO5.out.below hb8
      have hb9 : Below B w w9 := HB5.out.trans (hb8.mono (Nat.le_trans (show B ≤ w.heap.size by omega) HO5.out.1))
      simp [Leaves, settle, results, Tryz.results16, go_sem, hc9]
      rw [HBR.out]
      refine ⟨rfl, fun b' h => ?_, hO9, hb9⟩
      obtain rfl := Option.some.inj h
      exact HX5.out.kept hb8
end Go.Proofs.YthfckdnennfnoaaGreatDoor
