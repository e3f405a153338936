/- vlan.Right, vlan.Member. By an AI agent. -/
import Derived.Test.YthfckdnennfnoaaGreatDoorInts
namespace Go.Proofs.YthfckdnennfnoaaGreatDoor
open Go.RowKit

namespace Vlan
/-- are tagged VLANs rising, within the limits, and none the native one? -/
def rightFrom (native : Int) : Int → List Int → Bool
  | _, [] => true
  | last, v :: l => decide (last < v) && decide (v ≤ 4094) && !(v == native) && rightFrom native v l
def right (native : Int) (zs : List Int) : Bool := decide (0 ≤ native) && decide (native ≤ 4094) && decide (zs.length ≤ 64) && rightFrom native 0 zs
def member (native : Int) (zs : List Int) (v : Int) : Bool := right native zs && !(v == 0) && (v == native || decide (v ∈ zs))
/-- what the closure says of a VLAN -/
def bad (native last v : Int) : Bool := decide (v ≤ last) || decide (4094 < v) || v == native

theorem rightFrom_cons (native last v : Int) (l : List Int) : rightFrom native last (v :: l) = (!bad native last v && rightFrom native v l) := by
  unfold bad
  rw [rightFrom]
  rw [Bool.eq_iff_iff]
  simp [Bool.or_eq_false_iff]
end Vlan

theorem closure_any (v last native : Int) (lb pb : Nat) (w : World) (hl : w.cell? ⟨lb, 0, none⟩ = some (.int .i64 last)) (hlf : w.frozen? ⟨lb, 0, none⟩ = false) (hp : w.cell? ⟨pb, 0, none⟩ = some (.int .i64 native)) :
    Calls Tryz.prog 65 #[.int .i64 v, .pointer (some ⟨lb, 0, none⟩), .pointer (some ⟨pb, 0, none⟩)] w fun e w' => e = .returned (.bool (Vlan.bad native last v)) ∧ w' = w.setCell ⟨lb, 0, none⟩ (.int .i64 v) := by
  cases h1 : decide (v ≤ last) <;> cases h2 : decide (4094 < v) <;> cases h3 : (v == native)
  all_goals
    go_enter Tryz.func65, Tryz.ntmps65
    go_wp2
    go_ret
    exact ⟨by simp only [Vlan.bad, h1, h2, h3]; rfl, rfl⟩

/-- did the closure say yes somewhere? -/
def IsFound (native : Int) (zs : List Int) (lb : Nat) (w : World) (e : Ending) (w' : World) : Prop := ∃ r : Int, e = .returned (.int .i64 r) ∧ -1 ≤ r ∧ r ≤ 1000000 ∧ (0 ≤ r ↔ Vlan.rightFrom native 0 zs = false) ∧ Below lb w w'

set_option maxHeartbeats 1000000 in
theorem indexFunc_any (ao : Option Addr) (zs : List Int) (cap : Nat) (native : Int) (lb pb : Nat) (w : World) (h : IntsAt w ao zs) (hz : zs.length ≤ 1000000)
    (hR : RowIs w lb 3 #[.int .i64 0]) (hp : w.cell? ⟨pb, 0, none⟩ = some (.int .i64 native)) (hlp : pb < lb) (hla : ∀ b off, ao = some ⟨b, off, none⟩ → 0 < zs.length → b < lb) :
    Calls Tryz.prog 67 #[.slice ao zs.length cap, .func (.func 65) #[] #[.pointer (some ⟨lb, 0, none⟩), .pointer (some ⟨pb, 0, none⟩)]] w (IsFound native zs lb w) := by
  have HA := Lib.hid hla
  clear hla
  rcases h with rfl | ⟨b, off, rfl, hc⟩
  · go_enter Tryz.func67, Tryz.ntmps67
    go_wp2
    refine wp_loop_rounds 1 ?_
    rw [rounds_succ]
    go_wp2
    go_ret
    exact ⟨-1, rfl, by omega, by omega, by simp [Vlan.rightFrom], Below.refl _ _⟩
  · have HC := Lib.hid hc
    have HR := Lib.hid hR
    clear hc hR
    go_enter Tryz.func67, Tryz.ntmps67
    go_wp2_with fail
    go_loopw [8] (fun i wr => ∃ (k : Nat) (last : Int), k ≤ zs.length ∧ i = .int .i64 k ∧ Hid (RowIs wr lb 3 #[.int .i64 last]) ∧ Below lb w wr ∧ Hid (Vlan.rightFrom native 0 zs = Vlan.rightFrom native last (zs.drop k))) (fun i _ => zs.length - (intOf i).toNat)
    case atStart => exact ⟨0, 0, Nat.zero_le _, rfl, HR, Below.refl _ _, rfl⟩
    case round =>
      obtain ⟨k, last, hk, rfl, HRr, hbel, hrf⟩ := hrel
      by_cases hlt : k < zs.length
      · have hcell : wr.cell? ⟨b, off + k, none⟩ = some (.int .i64 (zs.getD k 0)) := by
          rw [hbel.cell (p := ⟨b, off + k, none⟩) (HA.out b off rfl (by omega))]
          exact HC.out k hlt
        have hpr : wr.cell? ⟨pb, 0, none⟩ = some (.int .i64 native) := by
          rw [hbel.cell (p := ⟨pb, 0, none⟩) hlp]; exact hp
        have hdrop : zs.drop k = zs.getD k 0 :: zs.drop (k + 1) := by
          rw [List.drop_eq_getElem_cons hlt, List.getD, List.getElem?_eq_getElem hlt]; rfl
        have hl := HRr.out.cell 0
        have hlf := HRr.out.free 0
        generalize zs.getD k 0 = v at hcell hdrop
        have hcl := closure_any v last native lb pb wr (by simpa using hl) hlf hpr
        have HCL := Lib.hid hcl
        have HD := Lib.hid hdrop
        have hb2 : Below lb w (wr.setCell ⟨lb, 0, none⟩ (.int .i64 v)) := hbel.setCell (p := ⟨lb, 0, none⟩) (Nat.le_refl _) _
        have HR2 : Hid (RowIs (wr.setCell ⟨lb, 0, none⟩ (.int .i64 v)) lb 3 #[.int .i64 v]) := heap_setCell_same wr lb 0 _ _ _ HRr.out
        clear hcl hdrop hl hlf hpr
        cases hq : Vlan.bad native last v
        · go_wp2_with fail
          refine HCL.out.mono ?_
          rintro e w1 ⟨rfl, rfl⟩
          go_wp2_with fail
          refine ⟨⟨k + 1, v, by omega, by go_num, HR2, hb2, ?_⟩, by simp [intOf]; omega⟩
          show _ = _
          rw [hrf.out, HD.out, Vlan.rightFrom_cons, hq]
          rfl
        · go_wp2_with fail
          refine HCL.out.mono ?_
          rintro e w1 ⟨rfl, rfl⟩
          go_wp2_with fail
          go_ret
          refine ⟨k, rfl, by omega, by omega, ⟨fun _ => ?_, fun _ => by omega⟩, hb2⟩
          rw [hrf.out, HD.out, Vlan.rightFrom_cons, hq]
          rfl
      · go_wp2_with fail
        go_ret
        have hall : zs.drop k = [] := List.drop_eq_nil_of_le (by omega)
        have h := hrf.out
        rw [hall] at h
        exact ⟨-1, rfl, by omega, by omega, by rw [h]; simp [Vlan.rightFrom], hbel⟩

theorem containsFunc_any (ao : Option Addr) (zs : List Int) (cap : Nat) (native : Int) (lb pb : Nat) (w : World) (h : IntsAt w ao zs) (hz : zs.length ≤ 1000000)
    (hR : RowIs w lb 3 #[.int .i64 0]) (hp : w.cell? ⟨pb, 0, none⟩ = some (.int .i64 native)) (hlp : pb < lb) (hla : ∀ b off, ao = some ⟨b, off, none⟩ → 0 < zs.length → b < lb) :
    Calls Tryz.prog 53 #[.slice ao zs.length cap, .func (.func 65) #[] #[.pointer (some ⟨lb, 0, none⟩), .pointer (some ⟨pb, 0, none⟩)]] w
      fun e w' => e = .returned (.bool (!Vlan.rightFrom native 0 zs)) ∧ Below lb w w' := by
  have HI := Lib.hid (indexFunc_any ao zs cap native lb pb w h hz hR hp hlp hla)
  clear h hR hp hla
  go_enter Tryz.func53, Tryz.ntmps53
  go_wp2_with fail
  refine HI.out.mono ?_
  rintro e w' ⟨r, rfl, h1, h2, h3, hb⟩
  have H3 := Lib.hid h3
  clear h3
  go_wp2_with fail
  go_ret
  refine ⟨ret_bool (a := decide (0 ≤ r)) ?_, hb⟩
  have h3 := H3.out
  cases hq : Vlan.rightFrom native 0 zs
  · rw [hq] at h3
    simp only [Bool.not_false]
    exact decide_eq_true (h3.2 rfl)
  · rw [hq] at h3
    simp only [Bool.not_true]
    exact decide_eq_false (fun h => by have := h3.1 h; cases this)

set_option maxHeartbeats 1000000 in
theorem right_any (native : Int) (ao : Option Addr) (zs : List Int) (cap : Nat) (w : World) (h : IntsAt w ao zs) (hz : zs.length ≤ 1000000) :
    Calls Tryz.prog 47 #[.agg #[.int .i64 native, .slice ao zs.length cap]] w fun e w' => e = .returned (.bool (Vlan.right native zs)) ∧ Below w.heap.size w w' := by
  have hb1 : Below w.heap.size w (w.alloc (.cells #[.int .i64 native, .slice ao zs.length cap] 67)) := (Below.refl _ _).alloc (Nat.le_refl _) _
  by_cases h1 : native < 0
  · have e : Vlan.right native zs = false := by unfold Vlan.right; rw [decide_eq_false (show ¬ 0 ≤ native by omega)]; rfl
    rw [e]
    go_enter Tryz.func47, Tryz.ntmps47
    go_wp2_with fail
    go_ret
    exact ⟨rfl, hb1⟩
  by_cases h2 : 4094 < native
  · have e : Vlan.right native zs = false := by unfold Vlan.right; rw [decide_eq_false (show ¬ native ≤ 4094 by omega)]; simp
    rw [e]
    go_enter Tryz.func47, Tryz.ntmps47
    go_wp2_with fail
    go_ret
    exact ⟨rfl, hb1⟩
  by_cases h3 : 64 < zs.length
  · have e : Vlan.right native zs = false := by unfold Vlan.right; rw [decide_eq_false (show ¬ zs.length ≤ 64 by omega)]; simp
    rw [e]
    go_enter Tryz.func47, Tryz.ntmps47
    go_wp2_with fail
    go_ret
    exact ⟨rfl, hb1⟩
  have e : Vlan.right native zs = Vlan.rightFrom native 0 zs := by
    unfold Vlan.right; rw [decide_eq_true (show 0 ≤ native by omega), decide_eq_true (show native ≤ 4094 by omega), decide_eq_true (show zs.length ≤ 64 by omega)]; rfl
  rw [e]
  have HZ := Lib.hid h
  clear h
  go_enter Tryz.func47, Tryz.ntmps47
  go_wp2_with fail
  have hb2 : Below w.heap.size w ((w.alloc (.cells #[.int .i64 native, .slice ao zs.length cap] 67)).alloc (.cells #[.int .i64 0] 3)) := hb1.alloc (by simp) _
  refine (containsFunc_any ao zs cap native (w.heap.size + 1) w.heap.size _ (HZ.out.after hb2) hz ?_ ?_ (by omega) (fun b off ha hp => by have := HZ.out.lt b off ha hp; omega)).mono ?_
  · have := rowIs_new (w.alloc (.cells #[.int .i64 native, .slice ao zs.length cap] 67)) 3 #[.int .i64 0]
    simpa using this
  · go_simp
  rintro e w1 ⟨rfl, hb3⟩
  go_wp2_with fail
  go_ret
  exact ⟨rfl, hb2.trans (hb3.mono (by omega))⟩

end Go.Proofs.YthfckdnennfnoaaGreatDoor
