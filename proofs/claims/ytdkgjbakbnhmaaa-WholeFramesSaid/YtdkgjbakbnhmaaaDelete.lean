/- slices.IndexFunc, slices.DeleteFunc over []uint32 with the closure 'is it n?'. By an AI agent. -/
import Derived.Test.YtdkgjbakbnhmaaaMaps
import Derived.Test.YtdkgjbakbnhmaaaStrs
import Derived.Lib.SliceRun
namespace Go.Proofs.Ytdkgjbakbnhmaaa
open Go.RowKit Go.Sort Grow

abbrev U32 (n : Nat) : Value := .int .u32 (n : Int)

theorem dropC_any (x n : Nat) (cb : Nat) (w : World) (hc : w.cell? ⟨cb, 0, none⟩ = some (U32 n)) :
    Calls Try.prog 29 #[U32 x, .pointer (some ⟨cb, 0, none⟩)] w fun e w' => e = .returned (.bool ((x : Int) == (n : Int))) ∧ w = w' := by
  go_enter Try.func29, Try.ntmps29
  go_wp2_with fail
  go_ret
  exact ⟨rfl, rfl⟩

set_option maxHeartbeats 1000000 in
theorem indexU_any (b cap n cb : Nat) (l1 l2 : List Nat) (w : World) (hn : ∀ x ∈ l1, x ≠ n) (hz : (l1 ++ n :: l2).length ≤ 1000000)
    (hc : ∀ i (h : i < (l1 ++ n :: l2).length), w.cell? ⟨b, i, none⟩ = some (U32 (l1 ++ n :: l2)[i])) (hcb : w.cell? ⟨cb, 0, none⟩ = some (U32 n)) :
    Calls Try.prog 37 #[.slice (some ⟨b, 0, none⟩) (l1 ++ n :: l2).length cap, .func (.func 29) #[] #[.pointer (some ⟨cb, 0, none⟩)]] w fun e w' => e = .returned (.int .i64 (l1.length : Nat)) ∧ w = w' := by
  have hlen : l1.length < (l1 ++ n :: l2).length := by simp
  have hget : ∀ i (h : i < (l1 ++ n :: l2).length), i < l1.length → (l1 ++ n :: l2)[i] ≠ n := fun i h hi => by
    rw [List.getElem_append_left hi]
    exact hn _ (List.getElem_mem _)
  have hat : (l1 ++ n :: l2)[l1.length]'hlen = n := by simp
  generalize l1 ++ n :: l2 = ns at *
  generalize l1.length = p at *
  have HC := Lib.hid hc
  have HG := Lib.hid hget
  have HAT := Lib.hid hat
  have DC := Lib.hid fun x => dropC_any x n cb w hcb
  clear hc hget hat hcb hn
  go_enter Try.func37, Try.ntmps37
  go_wp2_with fail
  go_loop [8] (fun i => ∃ k : Nat, k ≤ p ∧ i = .int .i64 k) (fun i => ns.length - (intOf i).toNat)
  case atStart => exact ⟨0, Nat.zero_le _, rfl⟩
  case round =>
    obtain ⟨k, hk, rfl⟩ := hrel
    have hkn : k < ns.length := by omega
    have hcell := HC.out k hkn
    rcases Nat.lt_or_eq_of_le hk with hlt | rfl
    · have hne := HG.out k hkn hlt
      generalize ns[k] = x at hcell hne
      have DX := Lib.hid (DC.out x)
      have hf : ((x : Int) == (n : Int)) = false := beq_eq_false_iff_ne.2 (by omega)
      clear hne
      go_wp2_with fail
      refine DX.out.mono ?_
      rintro e w1 ⟨rfl, rfl⟩
      go_wp2_with fail
      exact ⟨⟨k + 1, by omega, by go_num⟩, by simp [intOf]; omega⟩
    · rw [HAT.out] at hcell
      have DX := Lib.hid (DC.out n)
      go_wp2_with fail
      refine DX.out.mono ?_
      rintro e w1 ⟨rfl, rfl⟩
      go_wp2_with fail
      go_ret
      exact ⟨rfl, rfl⟩

theorem setCells_one (w : World) (b o : Nat) (v : Value) : w.setCells b o [v] = w.setCell ⟨b, o, none⟩ v := rfl

set_option maxRecDepth 20000 in
set_option maxHeartbeats 2000000 in
theorem deleteU_any (B g cap n cb : Nat) (l1 l2 : List Nat) (w : World) (hn1 : ∀ x ∈ l1, x ≠ n) (hn2 : ∀ x ∈ l2, x ≠ n) (hz : (l1 ++ n :: l2).length ≤ 1000000)
    (hown : w.ownsRow B 28 1 (.slice (some ⟨g, 0, none⟩) (l1 ++ n :: l2).length cap) (l1 ++ n :: l2).length ((l1 ++ n :: l2).map U32)) (hcb : w.cell? ⟨cb, 0, none⟩ = some (U32 n)) (hgc : cb ≠ g) :
    Calls Try.prog 28 #[.slice (some ⟨g, 0, none⟩) (l1 ++ n :: l2).length cap, .func (.func 29) #[] #[.pointer (some ⟨cb, 0, none⟩)]] w
      fun e w' => e = .returned (.slice (some ⟨g, 0, none⟩) (l1 ++ l2).length cap) ∧ w'.ownsRow B 28 1 (.slice (some ⟨g, 0, none⟩) (l1 ++ l2).length cap) (l1 ++ l2).length ((l1 ++ l2).map U32) ∧ (∀ j, j ≠ g → w'.heap[j]? = w.heap[j]?) ∧ w'.heap.size = w.heap.size ∧ Below B w w' := by
  obtain ⟨hl0, h | ⟨g', cap', cur, hv, hBg, hR, hle, hm, hcs, ht⟩⟩ := hown
  · cases h.1
  simp only [Value.slice.injEq, Option.some.injEq, Addr.mk.injEq, and_true, true_and] at hv
  obtain ⟨rfl, rfl⟩ := hv
  have hR : RowIs w g 28 cur := hR
  have hcur : ∀ i (h : i < (l1 ++ n :: l2).length), cur[i]? = some (U32 (l1 ++ n :: l2)[i]) := fun i h => by
    have e : ((l1 ++ n :: l2).map U32)[i]? = some (U32 (l1 ++ n :: l2)[i]) := by rw [List.getElem?_map, List.getElem?_eq_getElem h]; rfl
    rw [← ht, List.getElem?_take_of_lt (by omega), Array.getElem?_toList] at e
    exact e
  have hcell : ∀ i (h : i < (l1 ++ n :: l2).length), w.cell? ⟨g, i, none⟩ = some (U32 (l1 ++ n :: l2)[i]) := fun i h => by rw [hR.cell]; exact hcur i h
  have IX := Lib.hid (indexU_any g cap n cb l1 l2 w hn1 hz hcell hcb)
  have hL : (l1 ++ n :: l2).length = l1.length + 1 + l2.length := by simp; omega
  have hcap : l1.length + 1 + l2.length ≤ cap := by omega
  have hcap2 : ¬ cap = l1.length + l2.length := by omega
  have hzL : l1.length + 1 + l2.length ≤ 1000000 := by omega
  obtain ⟨f, hf⟩ : ∃ f : Nat → Nat, ∀ q (h : q < l2.length), f q = l2[q] := ⟨fun q => l2.getD q 0, fun q h => by show l2.getD q 0 = _; rw [List.getD, List.getElem?_eq_getElem h]; rfl⟩
  have H2 : Hid (∀ q, q < l2.length → cur[l1.length + 1 + q]? = some (U32 (f q)) ∧ f q ≠ n ∧ ((l1 ++ l2).map U32).getD (l1.length + q) (U32 0) = U32 (f q)) := fun q h => by
    rw [hf q h]
    refine ⟨?_, hn2 _ (List.getElem_mem _), ?_⟩
    · rw [hcur _ (by omega)]
      congr 2
      rw [List.getElem_append_right (by omega)]
      simp [show l1.length + 1 + q - l1.length = q + 1 by omega]
    · rw [List.getD, List.getElem?_map, List.getElem?_append_right (by omega), Nat.add_sub_cancel_left, List.getElem?_eq_getElem h]
      rfl
  have H1 : Hid (∀ i, i < l1.length → cur[i]? = some (((l1 ++ l2).map U32).getD i (U32 0))) := fun i h => by
    rw [hcur _ (by omega), List.getElem_append_left h]
    rw [List.getD, List.getElem?_map, List.getElem?_append_left h, List.getElem?_eq_getElem h]
    rfl
  have HM := Lib.hid hm
  have HCS := Lib.hid hcs
  have HR := Lib.hid hR
  have HCB := Lib.hid hcb
  have HML : Hid (((l1 ++ l2).map U32).length = l1.length + l2.length) := by show _ = _; simp
  clear hm hcs hR hcb hcur hcell ht hl0 hn1 hn2 hz hle hf
  rw [hL] at IX ⊢
  have hLL : (l1 ++ l2).length = l1.length + l2.length := by simp
  rw [hLL]
  clear hL hLL
  generalize (l1 ++ l2).map U32 = R at *
  generalize l1.length = p at *
  generalize l2.length = m at *
  go_enter Try.func28, Try.ntmps28
  go_wp2_with fail
  refine IX.out.mono ?_
  rintro e w1 ⟨rfl, rfl⟩
  have hm1 : ((p : Int) == -1) = false := beq_eq_false_iff_ne.2 (by omega)
  go_wp2_with fail
  go_loopw [5, 6] (fun i j wr => ∃ (q : Nat) (cu : Array Value), q ≤ m ∧ i = .int .i64 ((p + q : Nat) : Int) ∧ j = .int .i64 ((p + 1 + q : Nat) : Int) ∧ Hid (RowIs wr g 28 cu) ∧ Hid (cu.size = cur.size) ∧ Hid (∀ x, x < p + q → cu[x]? = some (R.getD x (U32 0))) ∧ Hid (∀ x, p + q ≤ x → cu[x]? = cur[x]?) ∧ Hid (∀ y, y ≠ g → wr.heap[y]? = w.heap[y]?) ∧ Hid (wr.heap.size = w.heap.size) ∧ Below B w wr) (fun _ j _ => p + 1 + m - (intOf j).toNat)
  case atStart => exact ⟨0, cur, Nat.zero_le _, rfl, by simp, HR, rfl, H1.out, fun _ _ => rfl, fun _ _ => rfl, rfl, Below.refl _ _⟩
  case round =>
    obtain ⟨q, cu, hq, rfl, rfl, hRu, hsu, hlo, hhi, hoth, hsz, hbW⟩ := hrel
    by_cases hqm : q < m
    · obtain ⟨h2a, h2b, h2c⟩ := H2.out q hqm
      have hcell : wr.cell? ⟨g, p + 1 + q, none⟩ = some (U32 (f q)) := by rw [hRu.out.cell, hhi.out _ (by omega), h2a]
      have hcb : wr.cell? ⟨cb, 0, none⟩ = some (U32 n) := by
        have h := HCB.out
        simp only [World.cell?] at h ⊢
        rw [hoth.out cb hgc]
        exact h
      have DX := Lib.hid (dropC_any (f q) n cb wr hcb)
      have hfx : (((f q : Nat) : Int) == (n : Int)) = false := beq_eq_false_iff_ne.2 (by omega)
      have H2C := Lib.hid h2c
      generalize f q = x at *
      clear h2a h2b h2c hcb
      go_wp2_with fail
      refine DX.out.mono ?_
      rintro e w5 ⟨rfl, rfl⟩
      have hcs := hsu.out
      have hcs2 := HCS.out
      go_wp2_with ((with_reducible refine at_store 28 (.tmp 33) (.tmp 32) ?_); refine wpList_store_cell rfl 28 (.tmp 33) (.tmp 32) rfl g (p + q) _ rfl rfl 28 _ hRu.out (by omega) (by kernel_rfl) rfl B hBg ?_)
      intro w6 hR6 hoth6 hsz6 hb6
      have HR6 := Lib.hid hR6
      have HO6 := Lib.hid hoth6
      clear hR6 hoth6
      go_wp2_with fail
      refine ⟨⟨q + 1, _, by omega, by go_num, by go_num, HR6.out, ?_, ?_, ?_, ?_, ?_, hbW.trans hb6⟩, by simp [intOf]; omega⟩
      · show _ = _
        rw [Array.size_setIfInBounds]
        exact hsu.out
      · intro y hy
        by_cases hyq : y = p + q
        · subst hyq
          rw [Array.getElem?_setIfInBounds_self_of_lt (by omega), H2C.out]
        · rw [Array.getElem?_setIfInBounds_ne (Ne.symm hyq)]
          exact hlo.out y (by omega)
      · intro y hy
        rw [Array.getElem?_setIfInBounds_ne (by omega)]
        exact hhi.out y (by omega)
      · intro y hy
        exact (HO6.out y hy).trans (hoth.out y hy)
      · exact hsz6.trans hsz.out
    · obtain rfl : q = m := by omega
      have hcs := hsu.out
      have hcs2 := HCS.out
      have hisS : ∀ j, j < 1 → (wr.cell? ⟨g, p + q + j, none⟩).isSome = true := fun j hj => by
        obtain rfl : j = 0 := by omega
        rw [Nat.add_zero, hRu.out.cell, Array.getElem?_eq_getElem (by omega)]
        rfl
      have hclr : ∀ (ty : TypeId) (c : Nat), (Builtin.clear_ #[39] ty #[.slice (some ⟨g, p + q, none⟩) (p + 1 + q - (p + q)) c]).run Try.prog wr = .ok (.tuple #[]) (wr.setCell ⟨g, p + q, none⟩ (U32 0)) := fun ty c => by
        rw [show p + 1 + q - (p + q) = 1 by omega]
        exact Lib.run_clear_slice (P := Try.prog) wr 39 28 ty (.int .u32 0) Try.underlying39 (by intro w; go_simp) rfl rfl g (p + q) 1 c (by decide) hisS (fun j hj => hRu.out.free _)
      have hRz : RowIs (wr.setCell ⟨g, p + q, none⟩ (U32 0)) g 28 (cu.setIfInBounds (p + q) (U32 0)) := heap_setCell_same wr g (p + q) _ _ _ hRu.out
      have hoz : ∀ j, j ≠ g → (wr.setCell ⟨g, p + q, none⟩ (U32 0)).heap[j]? = wr.heap[j]? := fun j hj => Below.heap_setCell wr _ _ j hj
      have hsz2 : (wr.setCell ⟨g, p + q, none⟩ (U32 0)).heap.size = wr.heap.size := by simp [World.setCell]
      have hbz : Below B wr (wr.setCell ⟨g, p + q, none⟩ (U32 0)) := ⟨rfl, rfl, rfl, Nat.le_of_eq hsz2.symm, fun j hj => hoz j (by omega)⟩
      clear hisS
      generalize wr.setCell ⟨g, p + q, none⟩ (U32 0) = wz at *
      have HRZ := Lib.hid hRz
      have HOZ := Lib.hid hoz
      clear hRz hoz
      go_wp2_with fail
      go_ret
      refine ⟨rfl, ⟨by rw [HML.out]; omega, .inr ⟨g, cap, _, rfl, hBg, HRZ.out, by omega, HM.out, by rw [Array.size_setIfInBounds]; omega, ?_⟩⟩, fun j hj => (HOZ.out j hj).trans (hoth.out j hj), hsz2.trans hsz.out, hbW.trans hbz⟩
      apply List.ext_getElem?
      intro y
      rw [Nat.mul_one]
      rcases Nat.lt_or_ge y (p + q) with hy | hy
      · rw [List.getElem?_take_of_lt hy, Array.getElem?_toList, Array.getElem?_setIfInBounds_ne (by omega), hlo.out y hy, List.getD, List.getElem?_eq_getElem (by rw [HML.out]; exact hy)]
        rfl
      · rw [List.getElem?_eq_none (by rw [List.length_take]; omega), List.getElem?_eq_none (by rw [HML.out]; exact hy)]
end Go.Proofs.Ytdkgjbakbnhmaaa
