/- causeyref18.Dist. By an AI agent. -/
import Derived.Test.YtcmokhpnooldgaaLn15
import Derived.Test.YtcmokhpnooldgaaLq0
namespace Go.Proofs.Ytcmokhpnooldgaa
open Go.RowKit Go.WideShapes Go.Sort Grow

set_option maxRecDepth 20000 in
set_option maxHeartbeats 8000000 in
theorem refDist18 (v : NV) (N : LN) (w : World) (h : NetAt w v N) (hl : N.links.length ≤ 1000) (hok : N.Ok) (s : Nat) (hs : s < N.ids.length) :
    Calls Try.prog 37 #[.agg #[.slice v.ai N.ids.length v.ci, .slice v.ac N.costs.length v.cc, .slice v.al N.links.length v.cl], .int .i64 s] w fun e w' => (∃ g, e = .returned (.slice (some ⟨g, 0, none⟩) N.ids.length N.ids.length) ∧ RowIs w' g 3 (intsA (distE N s)) ∧ w.heap.size ≤ g) ∧ Below w.heap.size w w' := by
  have HOK := Lib.hid hok
  have HLEN := Lib.hid hok.len
  have HDL := Lib.hid (dirs_len N)
  have hn16 := hok.n16
  clear hok
  have HN := Lib.hid h
  clear h
  go_enter Try.func37, Try.ntmps37
  go_upto_region 1 with fail
  generalize hW : w.alloc _ = w1
  have hbW : Below w.heap.size w w1 := by rw [← hW]; exact (Below.refl _ _).alloc (Nat.le_refl _) _
  have R0 : Hid (RowIs w1 w.heap.size 26 #[.slice v.ai N.ids.length v.ci, .slice v.ac N.costs.length v.cc, .slice v.al N.links.length v.cl]) := by subst hW; exact rowIs_new w _ _
  clear hW
  have c0 : w1.cell? ⟨w.heap.size, 0, none⟩ = some (.slice v.ai N.ids.length v.ci) := R0.out.cell 0
  have hmk := run_make_ints N.ids.length (by omega) w1
  go_upto_region 2 with fail
  have RA := Lib.hid (rowIs_new w1 3 (intsA (List.replicate N.ids.length 0)))
  have hbk : Below w1.heap.size w1 (w1.alloc (.cells (intsA (List.replicate N.ids.length 0)) 3)) := (Below.refl _ _).alloc (Nat.le_refl _) _
  have hwg : w.heap.size < w1.heap.size := R0.out.lt
  have HK : Hid (∀ W, Below w1.heap.size w1 W → RowIs W w.heap.size 26 #[.slice v.ai N.ids.length v.ci, .slice v.ac N.costs.length v.cc, .slice v.al N.links.length v.cl] ∧ NetAt W v N) := fun W hb => ⟨R0.out.kept hb, HN.out.kept (hbW.trans (hb.mono hbW.size))⟩
  have HEND : Hid (∀ W, Below w1.heap.size w1 W → Below w.heap.size w W) := fun W hb => hbW.trans (hb.mono hbW.size)
  clear hmk R0 hbW HN c0
  rw [fillP_zero] at RA hbk
  rw [fillP_zero]
  generalize w1.alloc (.cells (intsA (fillP N.ids.length 0)) 3) = w2 at *
  have HLG : Hid (w1.heap.size + 1 ≤ w2.heap.size) := RA.out.lt
  generalize w1.heap.size = g at *
  go_wp2_with fail
  go_loopw [6] (fun s6 wr => ∃ k : Nat, k ≤ N.ids.length ∧ s6 = .int .i64 k ∧ Hid (RowIs wr g 3 (intsA (fillP N.ids.length k))) ∧ Below g w1 wr) (fun s6 _ => N.ids.length - (intOf s6).toNat)
  case atStart => exact ⟨0, Nat.zero_le _, rfl, RA, hbk⟩
  case round =>
    clear RA hbk HLG
    rename World => wr
    obtain ⟨k, hk, rfl, RA, hbr⟩ := hrel
    by_cases hlt : k < N.ids.length
    · have HSET := Lib.hid (fillP_set hlt)
      have hx0 : (0 : Int) ≤ (k : Int) := by omega
      have hx1 : (k : Int) < (N.ids.length : Int) := by omega
      go_wp2_with ((with_reducible refine at_store 3 (.tmp 26) (.const (.int .i64 (-1))) ?_); refine wpList_store_cell rfl 3 (.tmp 26) (.const (.int .i64 (-1))) rfl g k _ rfl rfl 3 _ RA.out (by rw [intsA_size, fillP_len]; exact hlt) (by kernel_rfl) rfl g (Nat.le_refl _) ?_)
      intro w5 hR5 ho5 hs5 hb5
      rw [intsA_set, HSET.out] at hR5
      have RA5 := Lib.hid hR5
      replace hbr := hbr.trans hb5
      clear hR5 ho5 hs5 hb5 RA HSET
      go_wp2_with fail
      exact ⟨⟨k + 1, by omega, by go_num, RA5, hbr⟩, by simp [intOf]; omega⟩
    · obtain rfl : k = N.ids.length := by omega
      clear hlt hk
      have hx0 : (0 : Int) ≤ (s : Int) := by omega
      have hx1 : (s : Int) < (N.ids.length : Int) := by omega
      go_wp2_with ((with_reducible refine at_store 3 (.tmp 29) (.const (.int .i64 0)) ?_); refine wpList_store_cell rfl 3 (.tmp 29) (.const (.int .i64 0)) rfl g s _ rfl rfl 3 _ RA.out (by rw [intsA_size, fillP_len]; exact hs) (by kernel_rfl) rfl g (Nat.le_refl _) ?_)
      intro w5 hR5 ho5 hs5 hb5
      rw [intsA_set, fillP_all] at hR5
      have RA5 : Hid (RowIs w5 g 3 (intsA (allE N s 0 0))) := hR5
      replace hbr := hbr.trans hb5
      clear hR5 ho5 hs5 hb5 RA
      go_wp2_with fail
      go_loopw [7, 8, 9, 10, 11, 12, 13] (fun s7 _ _ _ _ _ _ wr => ∃ r : Nat, r ≤ N.ids.length ∧ s7 = .int .i64 r ∧ Hid (RowIs wr g 3 (intsA (allE N s r 0))) ∧ Below g w1 wr) (fun s7 _ _ _ _ _ _ _ => N.ids.length - (intOf s7).toNat)
      case atStart => exact ⟨0, Nat.zero_le _, rfl, RA5, hbr⟩
      case round =>
        clear RA5 hbr
        rename World => wr
        obtain ⟨r, hr', rfl, HA, hbr⟩ := hrel
        by_cases hr : r < N.ids.length
        · go_wp2_with fail
          go_loopw [8, 9, 10, 11, 12, 13] (fun s8 _ _ _ _ _ wr => ∃ m : Nat, m ≤ N.links.length ∧ s8 = .int .i64 m ∧ Hid (RowIs wr g 3 (intsA (allE N s r (2 * m)))) ∧ Below g w1 wr) (fun s8 _ _ _ _ _ _ => N.links.length - (intOf s8).toNat)
          case atStart => exact ⟨0, Nat.zero_le _, rfl, HA, hbr⟩
          case round =>
            clear HA hbr
            rename World => wr
            obtain ⟨m, hm, rfl, HA, hbr⟩ := hrel
            obtain ⟨hr0, hn0⟩ := HK.out wr hbr
            have R0' := Lib.hid hr0
            have HN' := Lib.hid hn0
            clear hr0 hn0
            have hgw : g < wr.heap.size := HA.out.lt
            by_cases hlt : m < N.links.length
            · as_aux_lemma =>
              obtain ⟨b, off, eal, hbl, hrg⟩ := HN'.out.lkr hlt
              have HRG := Lib.hid hrg
              have hmem : N.lk m ∈ N.dirs := List.mem_of_getElem? (dirs_get hlt).1
              have h1 := HOK.out.from_lt hmem
              have h2 := HOK.out.to_lt hmem
              have hc1 := HOK.out.cost_le hmem
              have hc2 := HOK.out.cost_le (dirs_turn hmem)
              obtain ⟨i, ei⟩ := Int.eq_ofNat_of_zero_le h1.1
              obtain ⟨p, ep⟩ := Int.eq_ofNat_of_zero_le h1.2.2.1
              obtain ⟨j, ej⟩ := Int.eq_ofNat_of_zero_le h2.1
              obtain ⟨qq, eq⟩ := Int.eq_ofNat_of_zero_le h2.2.2.1
              have c2 : wr.cell? ⟨w.heap.size, 2, none⟩ = some (.slice (some ⟨b, off, none⟩) N.links.length v.cl) := by rw [← eal]; exact R0'.out.cell 2
              have HD1 : Hid (allE N s r (2 * m + 0 + 1) = stE N (allE N s r (2 * m + 0)) (N.lk m)) := allE_succ s r (dirs_get hlt).1
              have HD2 : Hid (allE N s r (2 * m + 1 + 1) = stE N (allE N s r (2 * m + 1)) (N.lk m).turn) := allE_succ s r (dirs_get hlt).2
              generalize N.lk m = x at *
              obtain ⟨xa, xp, xb, xq⟩ := x
              simp only at ei ep ej eq
              subst ei ep ej eq
              have hi : i < N.ids.length := by simpa [Lk.i] using h1.2.1
              have hj : j < N.ids.length := by simpa [Lk.j] using h2.2.1
              have hpi : p < (N.cs i).length := by simpa [Lk.i] using h1.2.2.2
              have hpj : qq < (N.cs j).length := by simpa [Lk.j] using h2.2.2.2
              have hcstj : 1 ≤ (N.cs j).getD qq 0 ∧ (N.cs j).getD qq 0 ≤ 65535 := hc1
              have hcsti : 1 ≤ (N.cs i).getD p 0 ∧ (N.cs i).getD p 0 ≤ 65535 := hc2
              have hx0 : (0 : Int) ≤ (m : Int) := by omega
              have hx1 : (m : Int) < (N.links.length : Int) := by omega
              clear h1 h2 hc1 hc2 hmem eal hrg
              have R6 := Lib.hid (rowIs_new wr 37 #[.int .i64 0, .int .i64 0, .int .i64 0, .int .i64 0])
              go_wp2_with (first
                | ((with_reducible refine at_load 37 (.tmp 46) ?_); refine wpList_load_mid18 rfl 37 (.tmp 46) rfl b (off + m * 4) rfl (Lk.vals ⟨i, p, j, qq⟩) _ HRG.out Try.underlying37 rfl (by kernel_rfl) ?_)
                | ((with_reducible refine at_store 37 (.tmp 9) (.tmp 47) ?_); refine wpList_store_own rfl 37 (.tmp 9) (.tmp 47) rfl wr.heap.size _ rfl rfl _ _ R6.out (by kernel_rfl) rfl (by simp [Lk.vals, Value.oneCell']) wr.heap.size (Nat.le_refl _) ?_))
              intro wl hRl hol hsl hbl'
              have hbx : Below wr.heap.size wr wl := ((Below.refl _ _).alloc (Nat.le_refl _) _).trans hbl'
              have RL : Hid (RowIs wl wr.heap.size 37 #[.int .i64 i, .int .i64 p, .int .i64 j, .int .i64 qq]) := hRl
              have HA4 := Lib.hid (HA.out.kept hbx)
              have hbr4 := hbr.trans (hbx.mono (Nat.le_of_lt hgw))
              have hlg : wr.heap.size ≠ g := by omega
              clear hRl hol hsl hbl' hbx R6 HRG c2 R0' HN' HA hbr hgw
              generalize wr.heap.size = lb at *
              go_wp2_with fail
              go_loopw [10, 11, 12, 13] (fun s10 _ _ _ wr => ∃ e : Nat, e ≤ 2 ∧ s10 = .int .i64 e ∧ Hid (RowIs wr g 3 (intsA (allE N s r (2 * m + e)))) ∧ Hid (RowIs wr lb 37 #[.int .i64 i, .int .i64 p, .int .i64 j, .int .i64 qq]) ∧ Below g w1 wr) (fun s10 _ _ _ _ => 2 - (intOf s10).toNat)
              case atStart => exact ⟨0, by omega, rfl, HA4, RL, hbr4⟩
              case round =>
                clear HA4 RL hbr4 wl
                rename World => wr
                obtain ⟨e, he, rfl, HA, RL, hbr⟩ := hrel
                obtain ⟨hr0, hn0⟩ := HK.out wr hbr
                have R0' := Lib.hid hr0
                have HN' := Lib.hid hn0
                clear hr0 hn0
                have hgw : g < wr.heap.size := HA.out.lt
                rcases (show e = 0 ∨ e = 1 ∨ e = 2 by omega) with rfl | rfl | rfl
                · as_aux_lemma =>
                  have HST : Hid (allE N s r (2 * m + 0 + 1) = stE N (allE N s r (2 * m + 0)) ⟨i, p, j, qq⟩) := HD1.out
                  have HX := Lib.hid (allE_bd HOK.out hl s (Nat.le_of_lt hr) (show 2 * m + 0 ≤ N.dirs.length by rw [HDL.out]; omega) hi)
                  have HY := Lib.hid (allE_bd HOK.out hl s (Nat.le_of_lt hr) (show 2 * m + 0 ≤ N.dirs.length by rw [HDL.out]; omega) hj)
                  have HEL := Lib.hid (allE_len HOK.out s (k := r) (show 2 * m + 0 ≤ N.dirs.length by rw [HDL.out]; omega))
                  generalize hst : allE N s r (2 * m + 0 + 1) = st' at *
                  have HSE : Hid (allE N s r (2 * m + (0 + 1)) = st') := hst
                  clear hst
                  generalize allE N s r (2 * m + 0) = st at *
                  have ka : wr.cell? ⟨g, i, none⟩ = some (.int .i64 (st.getD i 0)) := by rw [HA.out.cell, intsA_get (by rw [HEL.out]; exact hi)]
                  have kb : wr.cell? ⟨g, j, none⟩ = some (.int .i64 (st.getD j 0)) := by rw [HA.out.cell, intsA_get (by rw [HEL.out]; exact hj)]
                  have HST : Hid (st' = if 0 ≤ st.getD i 0 ∧ (st.getD j 0 < 0 ∨ st.getD i 0 + (N.cs j).getD qq 0 < st.getD j 0) then st.set j (st.getD i 0 + (N.cs j).getD qq 0) else st) := HST
                  have hx := HX.out
                  have hy := HY.out
                  have hcc := hcstj
                  obtain ⟨cb, coff, ca, cci, eac, hcel, hci⟩ := HN'.out.cs (show j < N.costs.length by have := HLEN.out; omega)
                  obtain ⟨b2, off2, e2, hcq⟩ := ints_cell hci hpj
                  subst e2
                  have l0 := cell_regrown (show wr.cell? ⟨lb, 0, none⟩ = some (.int .i64 i) from RL.out.cell 0)
                  have l1 := cell_regrown (show wr.cell? ⟨lb, 1, none⟩ = some (.int .i64 p) from RL.out.cell 1)
                  have l2 := cell_regrown (show wr.cell? ⟨lb, 2, none⟩ = some (.int .i64 j) from RL.out.cell 2)
                  have l3 := cell_regrown (show wr.cell? ⟨lb, 3, none⟩ = some (.int .i64 qq) from RL.out.cell 3)
                  have c1 : wr.cell? ⟨w.heap.size, 1, none⟩ = some (.slice (some ⟨cb, coff, none⟩) N.costs.length v.cc) := by rw [← eac]; exact R0'.out.cell 1
                  have hxa0 : (0 : Int) ≤ (i : Int) := by omega
                  have hxa1 : (i : Int) < (N.ids.length : Int) := by omega
                  have hxb0 : (0 : Int) ≤ (j : Int) := by omega
                  have hxb1 : (j : Int) < (N.ids.length : Int) := by omega
                  have hxb2 : (j : Int) < (N.costs.length : Int) := by have := HLEN.out; omega
                  have hxp0 : (0 : Int) ≤ (qq : Int) := by omega
                  have hxp1 : (qq : Int) < ((N.cs j).length : Int) := by omega
                  have hjl : j < st.length := by rw [HEL.out]; exact hj
                  generalize st.getD i 0 = x at *
                  generalize st.getD j 0 = y at *
                  generalize (N.cs j).getD qq 0 = c at *
                  generalize (N.cs j).length = cl at *
                  clear HX HY HEL hci eac hcsti hcstj hpi hpj
                  have hw0 : IntKind.i64.wrap 0 = 0 := rfl
                  have hw1 : IntKind.i64.wrap 1 = 1 := rfl
                  have hw2 : IntKind.i64.wrap 2 = 2 := rfl
                  have hw3 : IntKind.i64.wrap 3 = 3 := rfl
                  go_upto_region 17 with fail
                  refine wp_region_mix 17 (by kernel_rfl) (by kernel_rfl) (by kernel_rfl) ?_
                  (refine mix_step (by kernel_rfl) (by kernel_rfl) (fun K hK => ?_); go_simp; (try (simp only [↓IntWalk.iteOmega]; go_simp)); (first | (refine hK _ ?_; clear hK K) | (apply Exists.intro; refine ⟨fun _ => ?_, hK _ ?_⟩; (first | fail); clear hK K)))
                  (refine mix_step (by kernel_rfl) (by kernel_rfl) (fun K hK => ?_); go_simp; (try (simp only [↓IntWalk.iteOmega]; go_simp)); (first | (refine hK _ ?_; clear hK K) | (apply Exists.intro; refine ⟨fun _ => ?_, hK _ ?_⟩; (first | fail); clear hK K)))
                  (refine mix_step (by kernel_rfl) (by kernel_rfl) (fun K hK => ?_); go_simp; (try (simp only [↓IntWalk.iteOmega]; go_simp)); (first | (refine hK _ ?_; clear hK K) | (apply Exists.intro; refine ⟨fun _ => ?_, hK _ ?_⟩; (first | fail); clear hK K)))
                  (refine mix_step (by kernel_rfl) (by kernel_rfl) (fun K hK => ?_); go_simp; (try (simp only [↓IntWalk.iteOmega]; go_simp)); (first | (refine hK _ ?_; clear hK K) | (apply Exists.intro; refine ⟨fun _ => ?_, hK _ ?_⟩; (first | fail); clear hK K)))
                  (refine mix_step (by kernel_rfl) (by kernel_rfl) (fun K hK => ?_); go_simp; (try (simp only [↓IntWalk.iteOmega]; go_simp)); (first | (refine hK _ ?_; clear hK K) | (apply Exists.intro; refine ⟨fun _ => ?_, hK _ ?_⟩; (first | fail); clear hK K)))
                  (refine mix_step (by kernel_rfl) (by kernel_rfl) (fun K hK => ?_); go_simp; (try (simp only [↓IntWalk.iteOmega]; go_simp)); (first | (refine hK _ ?_; clear hK K) | (apply Exists.intro; refine ⟨fun _ => ?_, hK _ ?_⟩; (first | fail); clear hK K)))
                  (refine mix_step (by kernel_rfl) (by kernel_rfl) (fun K hK => ?_); go_simp; (try (simp only [↓IntWalk.iteOmega]; go_simp)); (first | (refine hK _ ?_; clear hK K) | (apply Exists.intro; refine ⟨fun _ => ?_, hK _ ?_⟩; (first | fail); clear hK K)))
                  (refine mix_step (by kernel_rfl) (by kernel_rfl) (fun K hK => ?_); go_simp; (try (simp only [↓IntWalk.iteOmega]; go_simp)); (first | (refine hK _ ?_; clear hK K) | (apply Exists.intro; refine ⟨fun _ => ?_, hK _ ?_⟩; (first | fail); clear hK K)))
                  (refine mix_step (by kernel_rfl) (by kernel_rfl) (fun K hK => ?_); go_simp; (try (simp only [↓IntWalk.iteOmega]; go_simp)); (first | (refine hK _ ?_; clear hK K) | (apply Exists.intro; refine ⟨fun _ => ?_, hK _ ?_⟩; (first | fail); clear hK K)))
                  (refine mix_step (by kernel_rfl) (by kernel_rfl) (fun K hK => ?_); go_simp; (try (simp only [↓IntWalk.iteOmega]; go_simp)); (first | (refine hK _ ?_; clear hK K) | (apply Exists.intro; refine ⟨fun _ => ?_, hK _ ?_⟩; (first | fail); clear hK K)))
                  (refine mix_step (by kernel_rfl) (by kernel_rfl) (fun K hK => ?_); go_simp; (try (simp only [↓IntWalk.iteOmega]; go_simp)); (first | (refine hK _ ?_; clear hK K) | (apply Exists.intro; refine ⟨fun _ => ?_, hK _ ?_⟩; (first | fail); clear hK K)))
                  (refine mix_step (by kernel_rfl) (by kernel_rfl) (fun K hK => ?_); go_simp; (try (simp only [↓IntWalk.iteOmega]; go_simp)); (first | (refine hK _ ?_; clear hK K) | (apply Exists.intro; refine ⟨fun _ => ?_, hK _ ?_⟩; (first | fail); clear hK K)))
                  (refine mix_step (by kernel_rfl) (by kernel_rfl) (fun K hK => ?_); go_simp; (try (simp only [↓IntWalk.iteOmega]; go_simp)); (first | (refine hK _ ?_; clear hK K) | (apply Exists.intro; refine ⟨fun _ => ?_, hK _ ?_⟩; (first | fail); clear hK K)))
                  (refine mix_step (by kernel_rfl) (by kernel_rfl) (fun K hK => ?_); go_simp; (try (simp only [↓IntWalk.iteOmega]; go_simp)); (first | (refine hK _ ?_; clear hK K) | (apply Exists.intro; refine ⟨fun _ => ?_, hK _ ?_⟩; (first | fail); clear hK K)))
                  (refine mix_step (by kernel_rfl) (by kernel_rfl) (fun K hK => ?_); go_simp; (try (simp only [↓IntWalk.iteOmega]; go_simp)); (first | (refine hK _ ?_; clear hK K) | (apply Exists.intro; refine ⟨fun _ => ?_, hK _ ?_⟩; (first | fail); clear hK K)))
                  (refine mix_step (by kernel_rfl) (by kernel_rfl) (fun K hK => ?_); go_simp; (try (simp only [↓IntWalk.iteOmega]; go_simp)); (first | (refine hK _ ?_; clear hK K) | (apply Exists.intro; refine ⟨fun _ => ?_, hK _ ?_⟩; (first | fail); clear hK K)))
                  (refine mix_step (by kernel_rfl) (by kernel_rfl) (fun K hK => ?_); go_simp; (try (simp only [↓IntWalk.iteOmega]; go_simp)); (first | (refine hK _ ?_; clear hK K) | (apply Exists.intro; refine ⟨fun _ => ?_, hK _ ?_⟩; (first | fail); clear hK K)))
                  refine mix_nil ?_
                  rintro ⟨dq, osq⟩
                  have hb5 := below_regrown wr dq osq
                  refine (show wpList _ _ _ _ _ _ from ?_)
                  simp only [List.drop, Act.put, List.setIfInBounds_toArray, List.set]
                  replace RL := Lib.hid (RL.out.kept hb5)
                  have HA5 := Lib.hid (HA.out.kept hb5)
                  have ka := (hb5.cell (p := ⟨g, i, none⟩) (block_lt_of_cell ka)).trans ka
                  have kb := (hb5.cell (p := ⟨g, j, none⟩) (block_lt_of_cell kb)).trans kb
                  have c1 := (hb5.cell (p := ⟨w.heap.size, 1, none⟩) (block_lt_of_cell c1)).trans c1
                  have hcel := (hb5.cell (p := ⟨cb, coff + j, none⟩) (block_lt_of_cell hcel)).trans hcel
                  have hcq := (hb5.cell (p := ⟨b2, off2 + qq, none⟩) (block_lt_of_cell hcq)).trans hcq
                  replace hbr := hbr.trans (hb5.mono (Nat.le_of_lt hgw))
                  have hgw5 : g < (grow (redrawn wr dq) osq).heap.size := HA5.out.lt
                  clear hb5 l0 l1 l2 l3 HA hw0 hw1 hw2 hw3
                  generalize grow (redrawn wr dq) osq = w5 at *
                  clear R0' HN' hgw
                  have hwr : IntKind.i64.wrap (x + c) = x + c := by rw [IntKind.wrap_i64]; omega
                  by_cases hx0 : x < 0
                  · rw [if_neg (show ¬ (0 ≤ x ∧ (y < 0 ∨ x + c < y)) by omega)] at HST
                    have d0 : decide (0 ≤ x) = false := decide_eq_false (by omega)
                    go_upto_region 18 with fail
                    go_quiet (fail)
                    have hbq : Below w5.heap.size w5 (w5.drewN nq) := below_drewN (Below.refl _ _) _
                    replace RL := Lib.hid (RL.out.kept hbq)
                    have HA6 := Lib.hid (HA5.out.kept hbq)
                    have hgw6 : g < (w5.drewN nq).heap.size := HA6.out.lt
                    replace hbr := hbr.trans (hbq.mono (Nat.le_of_lt hgw5))
                    have ka := (hbq.cell (p := ⟨g, i, none⟩) (block_lt_of_cell ka)).trans ka
                    have c1 := (hbq.cell (p := ⟨w.heap.size, 1, none⟩) (block_lt_of_cell c1)).trans c1
                    have hcel := (hbq.cell (p := ⟨cb, coff + j, none⟩) (block_lt_of_cell hcel)).trans hcel
                    have hcq := (hbq.cell (p := ⟨b2, off2 + qq, none⟩) (block_lt_of_cell hcq)).trans hcq
                    clear hbq HA5 kb
                    generalize w5.drewN nq = w6 at *
                    clear ka c1 hcel hcq
                    go_wp2_with fail
                    exact ⟨⟨0 + 1, by omega, by go_num, by rw [HSE.out, HST.out]; exact HA6, RL, hbr⟩, by simp [intOf]⟩
                  have d0 : decide (0 ≤ x) = true := decide_eq_true (by omega)
                  by_cases hy0 : y < 0
                  · rw [if_pos (show 0 ≤ x ∧ (y < 0 ∨ x + c < y) by omega)] at HST
                    have d1 : decide (y < 0) = true := decide_eq_true hy0
                    go_upto_region 18 with fail
                    go_quiet (fail)
                    have hbq : Below w5.heap.size w5 (w5.drewN nq) := below_drewN (Below.refl _ _) _
                    replace RL := Lib.hid (RL.out.kept hbq)
                    have HA6 := Lib.hid (HA5.out.kept hbq)
                    have hgw6 : g < (w5.drewN nq).heap.size := HA6.out.lt
                    replace hbr := hbr.trans (hbq.mono (Nat.le_of_lt hgw5))
                    have ka := (hbq.cell (p := ⟨g, i, none⟩) (block_lt_of_cell ka)).trans ka
                    have c1 := (hbq.cell (p := ⟨w.heap.size, 1, none⟩) (block_lt_of_cell c1)).trans c1
                    have hcel := (hbq.cell (p := ⟨cb, coff + j, none⟩) (block_lt_of_cell hcel)).trans hcel
                    have hcq := (hbq.cell (p := ⟨b2, off2 + qq, none⟩) (block_lt_of_cell hcq)).trans hcq
                    clear hbq HA5 kb
                    generalize w5.drewN nq = w6 at *
                    go_upto_region 19 with fail
                    have f1 := cell_regrown ka
                    have f2 := cell_regrown c1
                    have f3 := cell_regrown hcel
                    have f4 := cell_regrown hcq
                    refine wp_region_mix 16 (by kernel_rfl) (by kernel_rfl) (by kernel_rfl) ?_
                    (refine mix_step (by kernel_rfl) (by kernel_rfl) (fun K hK => ?_); go_simp; (try (simp only [↓IntWalk.iteOmega]; go_simp)); (first | (refine hK _ ?_; clear hK K) | (apply Exists.intro; refine ⟨fun _ => ?_, hK _ ?_⟩; (first | fail); clear hK K)))
                    (refine mix_step (by kernel_rfl) (by kernel_rfl) (fun K hK => ?_); go_simp; (try (simp only [↓IntWalk.iteOmega]; go_simp)); (first | (refine hK _ ?_; clear hK K) | (apply Exists.intro; refine ⟨fun _ => ?_, hK _ ?_⟩; (first | fail); clear hK K)))
                    (refine mix_step (by kernel_rfl) (by kernel_rfl) (fun K hK => ?_); go_simp; (try (simp only [↓IntWalk.iteOmega]; go_simp)); (first | (refine hK _ ?_; clear hK K) | (apply Exists.intro; refine ⟨fun _ => ?_, hK _ ?_⟩; (first | fail); clear hK K)))
                    (refine mix_step (by kernel_rfl) (by kernel_rfl) (fun K hK => ?_); go_simp; (try (simp only [↓IntWalk.iteOmega]; go_simp)); (first | (refine hK _ ?_; clear hK K) | (apply Exists.intro; refine ⟨fun _ => ?_, hK _ ?_⟩; (first | fail); clear hK K)))
                    (refine mix_step (by kernel_rfl) (by kernel_rfl) (fun K hK => ?_); go_simp; (try (simp only [↓IntWalk.iteOmega]; go_simp)); (first | (refine hK _ ?_; clear hK K) | (apply Exists.intro; refine ⟨fun _ => ?_, hK _ ?_⟩; (first | fail); clear hK K)))
                    (refine mix_step (by kernel_rfl) (by kernel_rfl) (fun K hK => ?_); go_simp; (try (simp only [↓IntWalk.iteOmega]; go_simp)); (first | (refine hK _ ?_; clear hK K) | (apply Exists.intro; refine ⟨fun _ => ?_, hK _ ?_⟩; (first | fail); clear hK K)))
                    (refine mix_step (by kernel_rfl) (by kernel_rfl) (fun K hK => ?_); go_simp; (try (simp only [↓IntWalk.iteOmega]; go_simp)); (first | (refine hK _ ?_; clear hK K) | (apply Exists.intro; refine ⟨fun _ => ?_, hK _ ?_⟩; (first | fail); clear hK K)))
                    (refine mix_step (by kernel_rfl) (by kernel_rfl) (fun K hK => ?_); go_simp; (try (simp only [↓IntWalk.iteOmega]; go_simp)); (first | (refine hK _ ?_; clear hK K) | (apply Exists.intro; refine ⟨fun _ => ?_, hK _ ?_⟩; (first | fail); clear hK K)))
                    (refine mix_step (by kernel_rfl) (by kernel_rfl) (fun K hK => ?_); go_simp; (try (simp only [↓IntWalk.iteOmega]; go_simp)); (first | (refine hK _ ?_; clear hK K) | (apply Exists.intro; refine ⟨fun _ => ?_, hK _ ?_⟩; (first | fail); clear hK K)))
                    (refine mix_step (by kernel_rfl) (by kernel_rfl) (fun K hK => ?_); go_simp; (try (simp only [↓IntWalk.iteOmega]; go_simp)); (first | (refine hK _ ?_; clear hK K) | (apply Exists.intro; refine ⟨fun _ => ?_, hK _ ?_⟩; (first | fail); clear hK K)))
                    (refine mix_step (by kernel_rfl) (by kernel_rfl) (fun K hK => ?_); go_simp; (try (simp only [↓IntWalk.iteOmega]; go_simp)); (first | (refine hK _ ?_; clear hK K) | (apply Exists.intro; refine ⟨fun _ => ?_, hK _ ?_⟩; (first | fail); clear hK K)))
                    (refine mix_step (by kernel_rfl) (by kernel_rfl) (fun K hK => ?_); go_simp; (try (simp only [↓IntWalk.iteOmega]; go_simp)); (first | (refine hK _ ?_; clear hK K) | (apply Exists.intro; refine ⟨fun _ => ?_, hK _ ?_⟩; (first | fail); clear hK K)))
                    (refine mix_step (by kernel_rfl) (by kernel_rfl) (fun K hK => ?_); go_simp; (try (simp only [↓IntWalk.iteOmega]; go_simp)); (first | (refine hK _ ?_; clear hK K) | (apply Exists.intro; refine ⟨fun _ => ?_, hK _ ?_⟩; (first | fail); clear hK K)))
                    (refine mix_step (by kernel_rfl) (by kernel_rfl) (fun K hK => ?_); go_simp; (try (simp only [↓IntWalk.iteOmega]; go_simp)); (first | (refine hK _ ?_; clear hK K) | (apply Exists.intro; refine ⟨fun _ => ?_, hK _ ?_⟩; (first | fail); clear hK K)))
                    (refine mix_step (by kernel_rfl) (by kernel_rfl) (fun K hK => ?_); go_simp; (try (simp only [↓IntWalk.iteOmega]; go_simp)); (first | (refine hK _ ?_; clear hK K) | (apply Exists.intro; refine ⟨fun _ => ?_, hK _ ?_⟩; (first | fail); clear hK K)))
                    (refine mix_step (by kernel_rfl) (by kernel_rfl) (fun K hK => ?_); go_simp; (try (simp only [↓IntWalk.iteOmega]; go_simp)); (first | (refine hK _ ?_; clear hK K) | (apply Exists.intro; refine ⟨fun _ => ?_, hK _ ?_⟩; (first | fail); clear hK K)))
                    refine mix_nil ?_
                    rintro ⟨dq, osq⟩
                    have hb7 := below_regrown w6 dq osq
                    refine (show wpList _ _ _ _ _ _ from ?_)
                    simp only [List.drop, Act.put, List.setIfInBounds_toArray, List.set]
                    replace RL := Lib.hid (RL.out.kept hb7)
                    have HA7 := Lib.hid (HA6.out.kept hb7)
                    replace hbr := hbr.trans (hb7.mono (Nat.le_of_lt hgw6))
                    clear hb7 f1 f2 f3 f4 ka c1 hcel hcq HA6
                    generalize grow (redrawn w6 dq) osq = w7 at *
                    go_wp2_with ((with_reducible refine at_store 3 (.tmp 113) (.tmp 112) ?_); refine wpList_store_cell rfl 3 (.tmp 113) (.tmp 112) rfl g j _ rfl rfl 3 _ HA7.out (by rw [intsA_size]; exact hjl) (by kernel_rfl) rfl g (Nat.le_refl _) ?_)
                    intro w8 hR8 ho8 hs8 hb8
                    rw [intsA_set, ← HST.out] at hR8
                    have HA8 := Lib.hid hR8
                    replace RL := Lib.hid (rowIs_same RL.out (ho8 _ hlg))
                    replace hbr := hbr.trans hb8
                    clear hR8 ho8 hs8 hb8 HA7
                    go_wp2_with fail
                    exact ⟨⟨0 + 1, by omega, by go_num, by rw [HSE.out]; exact HA8, RL, hbr⟩, by simp [intOf]⟩
                  have d1 : decide (y < 0) = false := decide_eq_false hy0
                  by_cases hm : x + c < y
                  · rw [if_pos (show 0 ≤ x ∧ (y < 0 ∨ x + c < y) by omega)] at HST
                    have d2 : decide (x + c < y) = true := decide_eq_true hm
                    go_upto_region 18 with fail
                    go_quiet (fail)
                    have hbq : Below w5.heap.size w5 (w5.drewN nq) := below_drewN (Below.refl _ _) _
                    replace RL := Lib.hid (RL.out.kept hbq)
                    have HA6 := Lib.hid (HA5.out.kept hbq)
                    have hgw6 : g < (w5.drewN nq).heap.size := HA6.out.lt
                    replace hbr := hbr.trans (hbq.mono (Nat.le_of_lt hgw5))
                    have ka := (hbq.cell (p := ⟨g, i, none⟩) (block_lt_of_cell ka)).trans ka
                    have c1 := (hbq.cell (p := ⟨w.heap.size, 1, none⟩) (block_lt_of_cell c1)).trans c1
                    have hcel := (hbq.cell (p := ⟨cb, coff + j, none⟩) (block_lt_of_cell hcel)).trans hcel
                    have hcq := (hbq.cell (p := ⟨b2, off2 + qq, none⟩) (block_lt_of_cell hcq)).trans hcq
                    clear hbq HA5 kb
                    generalize w5.drewN nq = w6 at *
                    go_upto_region 19 with fail
                    have f1 := cell_regrown ka
                    have f2 := cell_regrown c1
                    have f3 := cell_regrown hcel
                    have f4 := cell_regrown hcq
                    refine wp_region_mix 16 (by kernel_rfl) (by kernel_rfl) (by kernel_rfl) ?_
                    (refine mix_step (by kernel_rfl) (by kernel_rfl) (fun K hK => ?_); go_simp; (try (simp only [↓IntWalk.iteOmega]; go_simp)); (first | (refine hK _ ?_; clear hK K) | (apply Exists.intro; refine ⟨fun _ => ?_, hK _ ?_⟩; (first | fail); clear hK K)))
                    (refine mix_step (by kernel_rfl) (by kernel_rfl) (fun K hK => ?_); go_simp; (try (simp only [↓IntWalk.iteOmega]; go_simp)); (first | (refine hK _ ?_; clear hK K) | (apply Exists.intro; refine ⟨fun _ => ?_, hK _ ?_⟩; (first | fail); clear hK K)))
                    (refine mix_step (by kernel_rfl) (by kernel_rfl) (fun K hK => ?_); go_simp; (try (simp only [↓IntWalk.iteOmega]; go_simp)); (first | (refine hK _ ?_; clear hK K) | (apply Exists.intro; refine ⟨fun _ => ?_, hK _ ?_⟩; (first | fail); clear hK K)))
                    (refine mix_step (by kernel_rfl) (by kernel_rfl) (fun K hK => ?_); go_simp; (try (simp only [↓IntWalk.iteOmega]; go_simp)); (first | (refine hK _ ?_; clear hK K) | (apply Exists.intro; refine ⟨fun _ => ?_, hK _ ?_⟩; (first | fail); clear hK K)))
                    (refine mix_step (by kernel_rfl) (by kernel_rfl) (fun K hK => ?_); go_simp; (try (simp only [↓IntWalk.iteOmega]; go_simp)); (first | (refine hK _ ?_; clear hK K) | (apply Exists.intro; refine ⟨fun _ => ?_, hK _ ?_⟩; (first | fail); clear hK K)))
                    (refine mix_step (by kernel_rfl) (by kernel_rfl) (fun K hK => ?_); go_simp; (try (simp only [↓IntWalk.iteOmega]; go_simp)); (first | (refine hK _ ?_; clear hK K) | (apply Exists.intro; refine ⟨fun _ => ?_, hK _ ?_⟩; (first | fail); clear hK K)))
                    (refine mix_step (by kernel_rfl) (by kernel_rfl) (fun K hK => ?_); go_simp; (try (simp only [↓IntWalk.iteOmega]; go_simp)); (first | (refine hK _ ?_; clear hK K) | (apply Exists.intro; refine ⟨fun _ => ?_, hK _ ?_⟩; (first | fail); clear hK K)))
                    (refine mix_step (by kernel_rfl) (by kernel_rfl) (fun K hK => ?_); go_simp; (try (simp only [↓IntWalk.iteOmega]; go_simp)); (first | (refine hK _ ?_; clear hK K) | (apply Exists.intro; refine ⟨fun _ => ?_, hK _ ?_⟩; (first | fail); clear hK K)))
                    (refine mix_step (by kernel_rfl) (by kernel_rfl) (fun K hK => ?_); go_simp; (try (simp only [↓IntWalk.iteOmega]; go_simp)); (first | (refine hK _ ?_; clear hK K) | (apply Exists.intro; refine ⟨fun _ => ?_, hK _ ?_⟩; (first | fail); clear hK K)))
                    (refine mix_step (by kernel_rfl) (by kernel_rfl) (fun K hK => ?_); go_simp; (try (simp only [↓IntWalk.iteOmega]; go_simp)); (first | (refine hK _ ?_; clear hK K) | (apply Exists.intro; refine ⟨fun _ => ?_, hK _ ?_⟩; (first | fail); clear hK K)))
                    (refine mix_step (by kernel_rfl) (by kernel_rfl) (fun K hK => ?_); go_simp; (try (simp only [↓IntWalk.iteOmega]; go_simp)); (first | (refine hK _ ?_; clear hK K) | (apply Exists.intro; refine ⟨fun _ => ?_, hK _ ?_⟩; (first | fail); clear hK K)))
                    (refine mix_step (by kernel_rfl) (by kernel_rfl) (fun K hK => ?_); go_simp; (try (simp only [↓IntWalk.iteOmega]; go_simp)); (first | (refine hK _ ?_; clear hK K) | (apply Exists.intro; refine ⟨fun _ => ?_, hK _ ?_⟩; (first | fail); clear hK K)))
                    (refine mix_step (by kernel_rfl) (by kernel_rfl) (fun K hK => ?_); go_simp; (try (simp only [↓IntWalk.iteOmega]; go_simp)); (first | (refine hK _ ?_; clear hK K) | (apply Exists.intro; refine ⟨fun _ => ?_, hK _ ?_⟩; (first | fail); clear hK K)))
                    (refine mix_step (by kernel_rfl) (by kernel_rfl) (fun K hK => ?_); go_simp; (try (simp only [↓IntWalk.iteOmega]; go_simp)); (first | (refine hK _ ?_; clear hK K) | (apply Exists.intro; refine ⟨fun _ => ?_, hK _ ?_⟩; (first | fail); clear hK K)))
                    (refine mix_step (by kernel_rfl) (by kernel_rfl) (fun K hK => ?_); go_simp; (try (simp only [↓IntWalk.iteOmega]; go_simp)); (first | (refine hK _ ?_; clear hK K) | (apply Exists.intro; refine ⟨fun _ => ?_, hK _ ?_⟩; (first | fail); clear hK K)))
                    (refine mix_step (by kernel_rfl) (by kernel_rfl) (fun K hK => ?_); go_simp; (try (simp only [↓IntWalk.iteOmega]; go_simp)); (first | (refine hK _ ?_; clear hK K) | (apply Exists.intro; refine ⟨fun _ => ?_, hK _ ?_⟩; (first | fail); clear hK K)))
                    refine mix_nil ?_
                    rintro ⟨dq, osq⟩
                    have hb7 := below_regrown w6 dq osq
                    refine (show wpList _ _ _ _ _ _ from ?_)
                    simp only [List.drop, Act.put, List.setIfInBounds_toArray, List.set]
                    replace RL := Lib.hid (RL.out.kept hb7)
                    have HA7 := Lib.hid (HA6.out.kept hb7)
                    replace hbr := hbr.trans (hb7.mono (Nat.le_of_lt hgw6))
                    clear hb7 f1 f2 f3 f4 ka c1 hcel hcq HA6
                    generalize grow (redrawn w6 dq) osq = w7 at *
                    go_wp2_with ((with_reducible refine at_store 3 (.tmp 113) (.tmp 112) ?_); refine wpList_store_cell rfl 3 (.tmp 113) (.tmp 112) rfl g j _ rfl rfl 3 _ HA7.out (by rw [intsA_size]; exact hjl) (by kernel_rfl) rfl g (Nat.le_refl _) ?_)
                    intro w8 hR8 ho8 hs8 hb8
                    rw [intsA_set, ← HST.out] at hR8
                    have HA8 := Lib.hid hR8
                    replace RL := Lib.hid (rowIs_same RL.out (ho8 _ hlg))
                    replace hbr := hbr.trans hb8
                    clear hR8 ho8 hs8 hb8 HA7
                    go_wp2_with fail
                    exact ⟨⟨0 + 1, by omega, by go_num, by rw [HSE.out]; exact HA8, RL, hbr⟩, by simp [intOf]⟩
                  · rw [if_neg (show ¬ (0 ≤ x ∧ (y < 0 ∨ x + c < y)) by omega)] at HST
                    have d2 : decide (x + c < y) = false := decide_eq_false hm
                    go_upto_region 18 with fail
                    go_quiet (fail)
                    have hbq : Below w5.heap.size w5 (w5.drewN nq) := below_drewN (Below.refl _ _) _
                    replace RL := Lib.hid (RL.out.kept hbq)
                    have HA6 := Lib.hid (HA5.out.kept hbq)
                    have hgw6 : g < (w5.drewN nq).heap.size := HA6.out.lt
                    replace hbr := hbr.trans (hbq.mono (Nat.le_of_lt hgw5))
                    have ka := (hbq.cell (p := ⟨g, i, none⟩) (block_lt_of_cell ka)).trans ka
                    have c1 := (hbq.cell (p := ⟨w.heap.size, 1, none⟩) (block_lt_of_cell c1)).trans c1
                    have hcel := (hbq.cell (p := ⟨cb, coff + j, none⟩) (block_lt_of_cell hcel)).trans hcel
                    have hcq := (hbq.cell (p := ⟨b2, off2 + qq, none⟩) (block_lt_of_cell hcq)).trans hcq
                    clear hbq HA5 kb
                    generalize w5.drewN nq = w6 at *
                    clear ka c1 hcel hcq
                    go_wp2_with fail
                    exact ⟨⟨0 + 1, by omega, by go_num, by rw [HSE.out, HST.out]; exact HA6, RL, hbr⟩, by simp [intOf]⟩
                · as_aux_lemma =>
                  have HST : Hid (allE N s r (2 * m + 1 + 1) = stE N (allE N s r (2 * m + 1)) ⟨j, qq, i, p⟩) := HD2.out
                  have HX := Lib.hid (allE_bd HOK.out hl s (Nat.le_of_lt hr) (show 2 * m + 1 ≤ N.dirs.length by rw [HDL.out]; omega) hj)
                  have HY := Lib.hid (allE_bd HOK.out hl s (Nat.le_of_lt hr) (show 2 * m + 1 ≤ N.dirs.length by rw [HDL.out]; omega) hi)
                  have HEL := Lib.hid (allE_len HOK.out s (k := r) (show 2 * m + 1 ≤ N.dirs.length by rw [HDL.out]; omega))
                  generalize hst : allE N s r (2 * m + 1 + 1) = st' at *
                  have HSE : Hid (allE N s r (2 * m + (1 + 1)) = st') := hst
                  clear hst
                  generalize allE N s r (2 * m + 1) = st at *
                  have ka : wr.cell? ⟨g, j, none⟩ = some (.int .i64 (st.getD j 0)) := by rw [HA.out.cell, intsA_get (by rw [HEL.out]; exact hj)]
                  have kb : wr.cell? ⟨g, i, none⟩ = some (.int .i64 (st.getD i 0)) := by rw [HA.out.cell, intsA_get (by rw [HEL.out]; exact hi)]
                  have HST : Hid (st' = if 0 ≤ st.getD j 0 ∧ (st.getD i 0 < 0 ∨ st.getD j 0 + (N.cs i).getD p 0 < st.getD i 0) then st.set i (st.getD j 0 + (N.cs i).getD p 0) else st) := HST
                  have hx := HX.out
                  have hy := HY.out
                  have hcc := hcsti
                  obtain ⟨cb, coff, ca, cci, eac, hcel, hci⟩ := HN'.out.cs (show i < N.costs.length by have := HLEN.out; omega)
                  obtain ⟨b2, off2, e2, hcq⟩ := ints_cell hci hpi
                  subst e2
                  have l0 := cell_regrown (show wr.cell? ⟨lb, 0, none⟩ = some (.int .i64 i) from RL.out.cell 0)
                  have l1 := cell_regrown (show wr.cell? ⟨lb, 1, none⟩ = some (.int .i64 p) from RL.out.cell 1)
                  have l2 := cell_regrown (show wr.cell? ⟨lb, 2, none⟩ = some (.int .i64 j) from RL.out.cell 2)
                  have l3 := cell_regrown (show wr.cell? ⟨lb, 3, none⟩ = some (.int .i64 qq) from RL.out.cell 3)
                  have c1 : wr.cell? ⟨w.heap.size, 1, none⟩ = some (.slice (some ⟨cb, coff, none⟩) N.costs.length v.cc) := by rw [← eac]; exact R0'.out.cell 1
                  have hxa0 : (0 : Int) ≤ (j : Int) := by omega
                  have hxa1 : (j : Int) < (N.ids.length : Int) := by omega
                  have hxb0 : (0 : Int) ≤ (i : Int) := by omega
                  have hxb1 : (i : Int) < (N.ids.length : Int) := by omega
                  have hxb2 : (i : Int) < (N.costs.length : Int) := by have := HLEN.out; omega
                  have hxp0 : (0 : Int) ≤ (p : Int) := by omega
                  have hxp1 : (p : Int) < ((N.cs i).length : Int) := by omega
                  have hjl : i < st.length := by rw [HEL.out]; exact hi
                  generalize st.getD j 0 = x at *
                  generalize st.getD i 0 = y at *
                  generalize (N.cs i).getD p 0 = c at *
                  generalize (N.cs i).length = cl at *
                  clear HX HY HEL hci eac hcsti hcstj hpi hpj
                  have hw0 : IntKind.i64.wrap 0 = 0 := rfl
                  have hw1 : IntKind.i64.wrap 1 = 1 := rfl
                  have hw2 : IntKind.i64.wrap 2 = 2 := rfl
                  have hw3 : IntKind.i64.wrap 3 = 3 := rfl
                  go_upto_region 17 with fail
                  refine wp_region_mix 17 (by kernel_rfl) (by kernel_rfl) (by kernel_rfl) ?_
                  (refine mix_step (by kernel_rfl) (by kernel_rfl) (fun K hK => ?_); go_simp; (try (simp only [↓IntWalk.iteOmega]; go_simp)); (first | (refine hK _ ?_; clear hK K) | (apply Exists.intro; refine ⟨fun _ => ?_, hK _ ?_⟩; (first | fail); clear hK K)))
                  (refine mix_step (by kernel_rfl) (by kernel_rfl) (fun K hK => ?_); go_simp; (try (simp only [↓IntWalk.iteOmega]; go_simp)); (first | (refine hK _ ?_; clear hK K) | (apply Exists.intro; refine ⟨fun _ => ?_, hK _ ?_⟩; (first | fail); clear hK K)))
                  (refine mix_step (by kernel_rfl) (by kernel_rfl) (fun K hK => ?_); go_simp; (try (simp only [↓IntWalk.iteOmega]; go_simp)); (first | (refine hK _ ?_; clear hK K) | (apply Exists.intro; refine ⟨fun _ => ?_, hK _ ?_⟩; (first | fail); clear hK K)))
                  (refine mix_step (by kernel_rfl) (by kernel_rfl) (fun K hK => ?_); go_simp; (try (simp only [↓IntWalk.iteOmega]; go_simp)); (first | (refine hK _ ?_; clear hK K) | (apply Exists.intro; refine ⟨fun _ => ?_, hK _ ?_⟩; (first | fail); clear hK K)))
                  (refine mix_step (by kernel_rfl) (by kernel_rfl) (fun K hK => ?_); go_simp; (try (simp only [↓IntWalk.iteOmega]; go_simp)); (first | (refine hK _ ?_; clear hK K) | (apply Exists.intro; refine ⟨fun _ => ?_, hK _ ?_⟩; (first | fail); clear hK K)))
                  (refine mix_step (by kernel_rfl) (by kernel_rfl) (fun K hK => ?_); go_simp; (try (simp only [↓IntWalk.iteOmega]; go_simp)); (first | (refine hK _ ?_; clear hK K) | (apply Exists.intro; refine ⟨fun _ => ?_, hK _ ?_⟩; (first | fail); clear hK K)))
                  (refine mix_step (by kernel_rfl) (by kernel_rfl) (fun K hK => ?_); go_simp; (try (simp only [↓IntWalk.iteOmega]; go_simp)); (first | (refine hK _ ?_; clear hK K) | (apply Exists.intro; refine ⟨fun _ => ?_, hK _ ?_⟩; (first | fail); clear hK K)))
                  (refine mix_step (by kernel_rfl) (by kernel_rfl) (fun K hK => ?_); go_simp; (try (simp only [↓IntWalk.iteOmega]; go_simp)); (first | (refine hK _ ?_; clear hK K) | (apply Exists.intro; refine ⟨fun _ => ?_, hK _ ?_⟩; (first | fail); clear hK K)))
                  (refine mix_step (by kernel_rfl) (by kernel_rfl) (fun K hK => ?_); go_simp; (try (simp only [↓IntWalk.iteOmega]; go_simp)); (first | (refine hK _ ?_; clear hK K) | (apply Exists.intro; refine ⟨fun _ => ?_, hK _ ?_⟩; (first | fail); clear hK K)))
                  (refine mix_step (by kernel_rfl) (by kernel_rfl) (fun K hK => ?_); go_simp; (try (simp only [↓IntWalk.iteOmega]; go_simp)); (first | (refine hK _ ?_; clear hK K) | (apply Exists.intro; refine ⟨fun _ => ?_, hK _ ?_⟩; (first | fail); clear hK K)))
                  (refine mix_step (by kernel_rfl) (by kernel_rfl) (fun K hK => ?_); go_simp; (try (simp only [↓IntWalk.iteOmega]; go_simp)); (first | (refine hK _ ?_; clear hK K) | (apply Exists.intro; refine ⟨fun _ => ?_, hK _ ?_⟩; (first | fail); clear hK K)))
                  (refine mix_step (by kernel_rfl) (by kernel_rfl) (fun K hK => ?_); go_simp; (try (simp only [↓IntWalk.iteOmega]; go_simp)); (first | (refine hK _ ?_; clear hK K) | (apply Exists.intro; refine ⟨fun _ => ?_, hK _ ?_⟩; (first | fail); clear hK K)))
                  (refine mix_step (by kernel_rfl) (by kernel_rfl) (fun K hK => ?_); go_simp; (try (simp only [↓IntWalk.iteOmega]; go_simp)); (first | (refine hK _ ?_; clear hK K) | (apply Exists.intro; refine ⟨fun _ => ?_, hK _ ?_⟩; (first | fail); clear hK K)))
                  (refine mix_step (by kernel_rfl) (by kernel_rfl) (fun K hK => ?_); go_simp; (try (simp only [↓IntWalk.iteOmega]; go_simp)); (first | (refine hK _ ?_; clear hK K) | (apply Exists.intro; refine ⟨fun _ => ?_, hK _ ?_⟩; (first | fail); clear hK K)))
                  (refine mix_step (by kernel_rfl) (by kernel_rfl) (fun K hK => ?_); go_simp; (try (simp only [↓IntWalk.iteOmega]; go_simp)); (first | (refine hK _ ?_; clear hK K) | (apply Exists.intro; refine ⟨fun _ => ?_, hK _ ?_⟩; (first | fail); clear hK K)))
                  (refine mix_step (by kernel_rfl) (by kernel_rfl) (fun K hK => ?_); go_simp; (try (simp only [↓IntWalk.iteOmega]; go_simp)); (first | (refine hK _ ?_; clear hK K) | (apply Exists.intro; refine ⟨fun _ => ?_, hK _ ?_⟩; (first | fail); clear hK K)))
                  (refine mix_step (by kernel_rfl) (by kernel_rfl) (fun K hK => ?_); go_simp; (try (simp only [↓IntWalk.iteOmega]; go_simp)); (first | (refine hK _ ?_; clear hK K) | (apply Exists.intro; refine ⟨fun _ => ?_, hK _ ?_⟩; (first | fail); clear hK K)))
                  refine mix_nil ?_
                  rintro ⟨dq, osq⟩
                  have hb5 := below_regrown wr dq osq
                  refine (show wpList _ _ _ _ _ _ from ?_)
                  simp only [List.drop, Act.put, List.setIfInBounds_toArray, List.set]
                  replace RL := Lib.hid (RL.out.kept hb5)
                  have HA5 := Lib.hid (HA.out.kept hb5)
                  have ka := (hb5.cell (p := ⟨g, j, none⟩) (block_lt_of_cell ka)).trans ka
                  have kb := (hb5.cell (p := ⟨g, i, none⟩) (block_lt_of_cell kb)).trans kb
                  have c1 := (hb5.cell (p := ⟨w.heap.size, 1, none⟩) (block_lt_of_cell c1)).trans c1
                  have hcel := (hb5.cell (p := ⟨cb, coff + i, none⟩) (block_lt_of_cell hcel)).trans hcel
                  have hcq := (hb5.cell (p := ⟨b2, off2 + p, none⟩) (block_lt_of_cell hcq)).trans hcq
                  replace hbr := hbr.trans (hb5.mono (Nat.le_of_lt hgw))
                  have hgw5 : g < (grow (redrawn wr dq) osq).heap.size := HA5.out.lt
                  clear hb5 l0 l1 l2 l3 HA hw0 hw1 hw2 hw3
                  generalize grow (redrawn wr dq) osq = w5 at *
                  clear R0' HN' hgw
                  have hwr : IntKind.i64.wrap (x + c) = x + c := by rw [IntKind.wrap_i64]; omega
                  by_cases hx0 : x < 0
                  · rw [if_neg (show ¬ (0 ≤ x ∧ (y < 0 ∨ x + c < y)) by omega)] at HST
                    have d0 : decide (0 ≤ x) = false := decide_eq_false (by omega)
                    go_upto_region 18 with fail
                    go_quiet (fail)
                    have hbq : Below w5.heap.size w5 (w5.drewN nq) := below_drewN (Below.refl _ _) _
                    replace RL := Lib.hid (RL.out.kept hbq)
                    have HA6 := Lib.hid (HA5.out.kept hbq)
                    have hgw6 : g < (w5.drewN nq).heap.size := HA6.out.lt
                    replace hbr := hbr.trans (hbq.mono (Nat.le_of_lt hgw5))
                    have ka := (hbq.cell (p := ⟨g, j, none⟩) (block_lt_of_cell ka)).trans ka
                    have c1 := (hbq.cell (p := ⟨w.heap.size, 1, none⟩) (block_lt_of_cell c1)).trans c1
                    have hcel := (hbq.cell (p := ⟨cb, coff + i, none⟩) (block_lt_of_cell hcel)).trans hcel
                    have hcq := (hbq.cell (p := ⟨b2, off2 + p, none⟩) (block_lt_of_cell hcq)).trans hcq
                    clear hbq HA5 kb
                    generalize w5.drewN nq = w6 at *
                    clear ka c1 hcel hcq
                    go_wp2_with fail
                    exact ⟨⟨1 + 1, by omega, by go_num, by rw [HSE.out, HST.out]; exact HA6, RL, hbr⟩, by simp [intOf]⟩
                  have d0 : decide (0 ≤ x) = true := decide_eq_true (by omega)
                  by_cases hy0 : y < 0
                  · rw [if_pos (show 0 ≤ x ∧ (y < 0 ∨ x + c < y) by omega)] at HST
                    have d1 : decide (y < 0) = true := decide_eq_true hy0
                    go_upto_region 18 with fail
                    go_quiet (fail)
                    have hbq : Below w5.heap.size w5 (w5.drewN nq) := below_drewN (Below.refl _ _) _
                    replace RL := Lib.hid (RL.out.kept hbq)
                    have HA6 := Lib.hid (HA5.out.kept hbq)
                    have hgw6 : g < (w5.drewN nq).heap.size := HA6.out.lt
                    replace hbr := hbr.trans (hbq.mono (Nat.le_of_lt hgw5))
                    have ka := (hbq.cell (p := ⟨g, j, none⟩) (block_lt_of_cell ka)).trans ka
                    have c1 := (hbq.cell (p := ⟨w.heap.size, 1, none⟩) (block_lt_of_cell c1)).trans c1
                    have hcel := (hbq.cell (p := ⟨cb, coff + i, none⟩) (block_lt_of_cell hcel)).trans hcel
                    have hcq := (hbq.cell (p := ⟨b2, off2 + p, none⟩) (block_lt_of_cell hcq)).trans hcq
                    clear hbq HA5 kb
                    generalize w5.drewN nq = w6 at *
                    go_upto_region 19 with fail
                    have f1 := cell_regrown ka
                    have f2 := cell_regrown c1
                    have f3 := cell_regrown hcel
                    have f4 := cell_regrown hcq
                    refine wp_region_mix 16 (by kernel_rfl) (by kernel_rfl) (by kernel_rfl) ?_
                    (refine mix_step (by kernel_rfl) (by kernel_rfl) (fun K hK => ?_); go_simp; (try (simp only [↓IntWalk.iteOmega]; go_simp)); (first | (refine hK _ ?_; clear hK K) | (apply Exists.intro; refine ⟨fun _ => ?_, hK _ ?_⟩; (first | fail); clear hK K)))
                    (refine mix_step (by kernel_rfl) (by kernel_rfl) (fun K hK => ?_); go_simp; (try (simp only [↓IntWalk.iteOmega]; go_simp)); (first | (refine hK _ ?_; clear hK K) | (apply Exists.intro; refine ⟨fun _ => ?_, hK _ ?_⟩; (first | fail); clear hK K)))
                    (refine mix_step (by kernel_rfl) (by kernel_rfl) (fun K hK => ?_); go_simp; (try (simp only [↓IntWalk.iteOmega]; go_simp)); (first | (refine hK _ ?_; clear hK K) | (apply Exists.intro; refine ⟨fun _ => ?_, hK _ ?_⟩; (first | fail); clear hK K)))
                    (refine mix_step (by kernel_rfl) (by kernel_rfl) (fun K hK => ?_); go_simp; (try (simp only [↓IntWalk.iteOmega]; go_simp)); (first | (refine hK _ ?_; clear hK K) | (apply Exists.intro; refine ⟨fun _ => ?_, hK _ ?_⟩; (first | fail); clear hK K)))
                    (refine mix_step (by kernel_rfl) (by kernel_rfl) (fun K hK => ?_); go_simp; (try (simp only [↓IntWalk.iteOmega]; go_simp)); (first | (refine hK _ ?_; clear hK K) | (apply Exists.intro; refine ⟨fun _ => ?_, hK _ ?_⟩; (first | fail); clear hK K)))
                    (refine mix_step (by kernel_rfl) (by kernel_rfl) (fun K hK => ?_); go_simp; (try (simp only [↓IntWalk.iteOmega]; go_simp)); (first | (refine hK _ ?_; clear hK K) | (apply Exists.intro; refine ⟨fun _ => ?_, hK _ ?_⟩; (first | fail); clear hK K)))
                    (refine mix_step (by kernel_rfl) (by kernel_rfl) (fun K hK => ?_); go_simp; (try (simp only [↓IntWalk.iteOmega]; go_simp)); (first | (refine hK _ ?_; clear hK K) | (apply Exists.intro; refine ⟨fun _ => ?_, hK _ ?_⟩; (first | fail); clear hK K)))
                    (refine mix_step (by kernel_rfl) (by kernel_rfl) (fun K hK => ?_); go_simp; (try (simp only [↓IntWalk.iteOmega]; go_simp)); (first | (refine hK _ ?_; clear hK K) | (apply Exists.intro; refine ⟨fun _ => ?_, hK _ ?_⟩; (first | fail); clear hK K)))
                    (refine mix_step (by kernel_rfl) (by kernel_rfl) (fun K hK => ?_); go_simp; (try (simp only [↓IntWalk.iteOmega]; go_simp)); (first | (refine hK _ ?_; clear hK K) | (apply Exists.intro; refine ⟨fun _ => ?_, hK _ ?_⟩; (first | fail); clear hK K)))
                    (refine mix_step (by kernel_rfl) (by kernel_rfl) (fun K hK => ?_); go_simp; (try (simp only [↓IntWalk.iteOmega]; go_simp)); (first | (refine hK _ ?_; clear hK K) | (apply Exists.intro; refine ⟨fun _ => ?_, hK _ ?_⟩; (first | fail); clear hK K)))
                    (refine mix_step (by kernel_rfl) (by kernel_rfl) (fun K hK => ?_); go_simp; (try (simp only [↓IntWalk.iteOmega]; go_simp)); (first | (refine hK _ ?_; clear hK K) | (apply Exists.intro; refine ⟨fun _ => ?_, hK _ ?_⟩; (first | fail); clear hK K)))
                    (refine mix_step (by kernel_rfl) (by kernel_rfl) (fun K hK => ?_); go_simp; (try (simp only [↓IntWalk.iteOmega]; go_simp)); (first | (refine hK _ ?_; clear hK K) | (apply Exists.intro; refine ⟨fun _ => ?_, hK _ ?_⟩; (first | fail); clear hK K)))
                    (refine mix_step (by kernel_rfl) (by kernel_rfl) (fun K hK => ?_); go_simp; (try (simp only [↓IntWalk.iteOmega]; go_simp)); (first | (refine hK _ ?_; clear hK K) | (apply Exists.intro; refine ⟨fun _ => ?_, hK _ ?_⟩; (first | fail); clear hK K)))
                    (refine mix_step (by kernel_rfl) (by kernel_rfl) (fun K hK => ?_); go_simp; (try (simp only [↓IntWalk.iteOmega]; go_simp)); (first | (refine hK _ ?_; clear hK K) | (apply Exists.intro; refine ⟨fun _ => ?_, hK _ ?_⟩; (first | fail); clear hK K)))
                    (refine mix_step (by kernel_rfl) (by kernel_rfl) (fun K hK => ?_); go_simp; (try (simp only [↓IntWalk.iteOmega]; go_simp)); (first | (refine hK _ ?_; clear hK K) | (apply Exists.intro; refine ⟨fun _ => ?_, hK _ ?_⟩; (first | fail); clear hK K)))
                    (refine mix_step (by kernel_rfl) (by kernel_rfl) (fun K hK => ?_); go_simp; (try (simp only [↓IntWalk.iteOmega]; go_simp)); (first | (refine hK _ ?_; clear hK K) | (apply Exists.intro; refine ⟨fun _ => ?_, hK _ ?_⟩; (first | fail); clear hK K)))
                    refine mix_nil ?_
                    rintro ⟨dq, osq⟩
                    have hb7 := below_regrown w6 dq osq
                    refine (show wpList _ _ _ _ _ _ from ?_)
                    simp only [List.drop, Act.put, List.setIfInBounds_toArray, List.set]
                    replace RL := Lib.hid (RL.out.kept hb7)
                    have HA7 := Lib.hid (HA6.out.kept hb7)
                    replace hbr := hbr.trans (hb7.mono (Nat.le_of_lt hgw6))
                    clear hb7 f1 f2 f3 f4 ka c1 hcel hcq HA6
                    generalize grow (redrawn w6 dq) osq = w7 at *
                    go_wp2_with ((with_reducible refine at_store 3 (.tmp 113) (.tmp 112) ?_); refine wpList_store_cell rfl 3 (.tmp 113) (.tmp 112) rfl g i _ rfl rfl 3 _ HA7.out (by rw [intsA_size]; exact hjl) (by kernel_rfl) rfl g (Nat.le_refl _) ?_)
                    intro w8 hR8 ho8 hs8 hb8
                    rw [intsA_set, ← HST.out] at hR8
                    have HA8 := Lib.hid hR8
                    replace RL := Lib.hid (rowIs_same RL.out (ho8 _ hlg))
                    replace hbr := hbr.trans hb8
                    clear hR8 ho8 hs8 hb8 HA7
                    go_wp2_with fail
                    exact ⟨⟨1 + 1, by omega, by go_num, by rw [HSE.out]; exact HA8, RL, hbr⟩, by simp [intOf]⟩
                  have d1 : decide (y < 0) = false := decide_eq_false hy0
                  by_cases hm : x + c < y
                  · rw [if_pos (show 0 ≤ x ∧ (y < 0 ∨ x + c < y) by omega)] at HST
                    have d2 : decide (x + c < y) = true := decide_eq_true hm
                    go_upto_region 18 with fail
                    go_quiet (fail)
                    have hbq : Below w5.heap.size w5 (w5.drewN nq) := below_drewN (Below.refl _ _) _
                    replace RL := Lib.hid (RL.out.kept hbq)
                    have HA6 := Lib.hid (HA5.out.kept hbq)
                    have hgw6 : g < (w5.drewN nq).heap.size := HA6.out.lt
                    replace hbr := hbr.trans (hbq.mono (Nat.le_of_lt hgw5))
                    have ka := (hbq.cell (p := ⟨g, j, none⟩) (block_lt_of_cell ka)).trans ka
                    have c1 := (hbq.cell (p := ⟨w.heap.size, 1, none⟩) (block_lt_of_cell c1)).trans c1
                    have hcel := (hbq.cell (p := ⟨cb, coff + i, none⟩) (block_lt_of_cell hcel)).trans hcel
                    have hcq := (hbq.cell (p := ⟨b2, off2 + p, none⟩) (block_lt_of_cell hcq)).trans hcq
                    clear hbq HA5 kb
                    generalize w5.drewN nq = w6 at *
                    go_upto_region 19 with fail
                    have f1 := cell_regrown ka
                    have f2 := cell_regrown c1
                    have f3 := cell_regrown hcel
                    have f4 := cell_regrown hcq
                    refine wp_region_mix 16 (by kernel_rfl) (by kernel_rfl) (by kernel_rfl) ?_
                    (refine mix_step (by kernel_rfl) (by kernel_rfl) (fun K hK => ?_); go_simp; (try (simp only [↓IntWalk.iteOmega]; go_simp)); (first | (refine hK _ ?_; clear hK K) | (apply Exists.intro; refine ⟨fun _ => ?_, hK _ ?_⟩; (first | fail); clear hK K)))
                    (refine mix_step (by kernel_rfl) (by kernel_rfl) (fun K hK => ?_); go_simp; (try (simp only [↓IntWalk.iteOmega]; go_simp)); (first | (refine hK _ ?_; clear hK K) | (apply Exists.intro; refine ⟨fun _ => ?_, hK _ ?_⟩; (first | fail); clear hK K)))
                    (refine mix_step (by kernel_rfl) (by kernel_rfl) (fun K hK => ?_); go_simp; (try (simp only [↓IntWalk.iteOmega]; go_simp)); (first | (refine hK _ ?_; clear hK K) | (apply Exists.intro; refine ⟨fun _ => ?_, hK _ ?_⟩; (first | fail); clear hK K)))
                    (refine mix_step (by kernel_rfl) (by kernel_rfl) (fun K hK => ?_); go_simp; (try (simp only [↓IntWalk.iteOmega]; go_simp)); (first | (refine hK _ ?_; clear hK K) | (apply Exists.intro; refine ⟨fun _ => ?_, hK _ ?_⟩; (first | fail); clear hK K)))
                    (refine mix_step (by kernel_rfl) (by kernel_rfl) (fun K hK => ?_); go_simp; (try (simp only [↓IntWalk.iteOmega]; go_simp)); (first | (refine hK _ ?_; clear hK K) | (apply Exists.intro; refine ⟨fun _ => ?_, hK _ ?_⟩; (first | fail); clear hK K)))
                    (refine mix_step (by kernel_rfl) (by kernel_rfl) (fun K hK => ?_); go_simp; (try (simp only [↓IntWalk.iteOmega]; go_simp)); (first | (refine hK _ ?_; clear hK K) | (apply Exists.intro; refine ⟨fun _ => ?_, hK _ ?_⟩; (first | fail); clear hK K)))
                    (refine mix_step (by kernel_rfl) (by kernel_rfl) (fun K hK => ?_); go_simp; (try (simp only [↓IntWalk.iteOmega]; go_simp)); (first | (refine hK _ ?_; clear hK K) | (apply Exists.intro; refine ⟨fun _ => ?_, hK _ ?_⟩; (first | fail); clear hK K)))
                    (refine mix_step (by kernel_rfl) (by kernel_rfl) (fun K hK => ?_); go_simp; (try (simp only [↓IntWalk.iteOmega]; go_simp)); (first | (refine hK _ ?_; clear hK K) | (apply Exists.intro; refine ⟨fun _ => ?_, hK _ ?_⟩; (first | fail); clear hK K)))
                    (refine mix_step (by kernel_rfl) (by kernel_rfl) (fun K hK => ?_); go_simp; (try (simp only [↓IntWalk.iteOmega]; go_simp)); (first | (refine hK _ ?_; clear hK K) | (apply Exists.intro; refine ⟨fun _ => ?_, hK _ ?_⟩; (first | fail); clear hK K)))
                    (refine mix_step (by kernel_rfl) (by kernel_rfl) (fun K hK => ?_); go_simp; (try (simp only [↓IntWalk.iteOmega]; go_simp)); (first | (refine hK _ ?_; clear hK K) | (apply Exists.intro; refine ⟨fun _ => ?_, hK _ ?_⟩; (first | fail); clear hK K)))
                    (refine mix_step (by kernel_rfl) (by kernel_rfl) (fun K hK => ?_); go_simp; (try (simp only [↓IntWalk.iteOmega]; go_simp)); (first | (refine hK _ ?_; clear hK K) | (apply Exists.intro; refine ⟨fun _ => ?_, hK _ ?_⟩; (first | fail); clear hK K)))
                    (refine mix_step (by kernel_rfl) (by kernel_rfl) (fun K hK => ?_); go_simp; (try (simp only [↓IntWalk.iteOmega]; go_simp)); (first | (refine hK _ ?_; clear hK K) | (apply Exists.intro; refine ⟨fun _ => ?_, hK _ ?_⟩; (first | fail); clear hK K)))
                    (refine mix_step (by kernel_rfl) (by kernel_rfl) (fun K hK => ?_); go_simp; (try (simp only [↓IntWalk.iteOmega]; go_simp)); (first | (refine hK _ ?_; clear hK K) | (apply Exists.intro; refine ⟨fun _ => ?_, hK _ ?_⟩; (first | fail); clear hK K)))
                    (refine mix_step (by kernel_rfl) (by kernel_rfl) (fun K hK => ?_); go_simp; (try (simp only [↓IntWalk.iteOmega]; go_simp)); (first | (refine hK _ ?_; clear hK K) | (apply Exists.intro; refine ⟨fun _ => ?_, hK _ ?_⟩; (first | fail); clear hK K)))
                    (refine mix_step (by kernel_rfl) (by kernel_rfl) (fun K hK => ?_); go_simp; (try (simp only [↓IntWalk.iteOmega]; go_simp)); (first | (refine hK _ ?_; clear hK K) | (apply Exists.intro; refine ⟨fun _ => ?_, hK _ ?_⟩; (first | fail); clear hK K)))
                    (refine mix_step (by kernel_rfl) (by kernel_rfl) (fun K hK => ?_); go_simp; (try (simp only [↓IntWalk.iteOmega]; go_simp)); (first | (refine hK _ ?_; clear hK K) | (apply Exists.intro; refine ⟨fun _ => ?_, hK _ ?_⟩; (first | fail); clear hK K)))
                    refine mix_nil ?_
                    rintro ⟨dq, osq⟩
                    have hb7 := below_regrown w6 dq osq
                    refine (show wpList _ _ _ _ _ _ from ?_)
                    simp only [List.drop, Act.put, List.setIfInBounds_toArray, List.set]
                    replace RL := Lib.hid (RL.out.kept hb7)
                    have HA7 := Lib.hid (HA6.out.kept hb7)
                    replace hbr := hbr.trans (hb7.mono (Nat.le_of_lt hgw6))
                    clear hb7 f1 f2 f3 f4 ka c1 hcel hcq HA6
                    generalize grow (redrawn w6 dq) osq = w7 at *
                    go_wp2_with ((with_reducible refine at_store 3 (.tmp 113) (.tmp 112) ?_); refine wpList_store_cell rfl 3 (.tmp 113) (.tmp 112) rfl g i _ rfl rfl 3 _ HA7.out (by rw [intsA_size]; exact hjl) (by kernel_rfl) rfl g (Nat.le_refl _) ?_)
                    intro w8 hR8 ho8 hs8 hb8
                    rw [intsA_set, ← HST.out] at hR8
                    have HA8 := Lib.hid hR8
                    replace RL := Lib.hid (rowIs_same RL.out (ho8 _ hlg))
                    replace hbr := hbr.trans hb8
                    clear hR8 ho8 hs8 hb8 HA7
                    go_wp2_with fail
                    exact ⟨⟨1 + 1, by omega, by go_num, by rw [HSE.out]; exact HA8, RL, hbr⟩, by simp [intOf]⟩
                  · rw [if_neg (show ¬ (0 ≤ x ∧ (y < 0 ∨ x + c < y)) by omega)] at HST
                    have d2 : decide (x + c < y) = false := decide_eq_false hm
                    go_upto_region 18 with fail
                    go_quiet (fail)
                    have hbq : Below w5.heap.size w5 (w5.drewN nq) := below_drewN (Below.refl _ _) _
                    replace RL := Lib.hid (RL.out.kept hbq)
                    have HA6 := Lib.hid (HA5.out.kept hbq)
                    have hgw6 : g < (w5.drewN nq).heap.size := HA6.out.lt
                    replace hbr := hbr.trans (hbq.mono (Nat.le_of_lt hgw5))
                    have ka := (hbq.cell (p := ⟨g, j, none⟩) (block_lt_of_cell ka)).trans ka
                    have c1 := (hbq.cell (p := ⟨w.heap.size, 1, none⟩) (block_lt_of_cell c1)).trans c1
                    have hcel := (hbq.cell (p := ⟨cb, coff + i, none⟩) (block_lt_of_cell hcel)).trans hcel
                    have hcq := (hbq.cell (p := ⟨b2, off2 + p, none⟩) (block_lt_of_cell hcq)).trans hcq
                    clear hbq HA5 kb
                    generalize w5.drewN nq = w6 at *
                    clear ka c1 hcel hcq
                    go_wp2_with fail
                    exact ⟨⟨1 + 1, by omega, by go_num, by rw [HSE.out, HST.out]; exact HA6, RL, hbr⟩, by simp [intOf]⟩
                · go_wp2_with fail
                  exact ⟨⟨m + 1, by omega, by go_num, HA, hbr⟩, by simp [intOf]; omega⟩
            · obtain rfl : m = N.links.length := by omega
              have HNX : Hid (RowIs wr g 3 (intsA (allE N s (r + 1) 0))) := by
                have := HA.out
                rw [allE_all] at this
                exact this
              have c2 : wr.cell? ⟨w.heap.size, 2, none⟩ = some (.slice v.al N.links.length v.cl) := R0'.out.cell 2
              go_wp2_with fail
              exact ⟨⟨r + 1, by omega, by go_num, HNX, hbr⟩, by simp [intOf]; omega⟩
        · obtain rfl : r = N.ids.length := by omega
          have hbe := HEND.out wr hbr
          go_wp2_with fail
          go_ret
          exact ⟨⟨g, rfl, HA.out, Nat.le_of_lt hwg⟩, hbe⟩
end Go.Proofs.Ytcmokhpnooldgaa
