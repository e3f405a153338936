/- LeastNear: the walk. By an AI agent. -/
import Derived.Test.YtfgbegnngpdnbaaLn15
import Derived.Test.YtfgbegnngpdnbaaGrowCall
namespace Go.Proofs.Ytfgbegnngpdnbaa
open Go.RowKit Go.WideShapes Go.Sort Grow

/-- an answer: these numbers in memory of its own -/
def ResAt (base n : Nat) (zs : List Int) : Fact := fun w u => ∃ g, u = .slice (some ⟨g, 0, none⟩) n n ∧ RowIs w g 3 (intsA zs) ∧ base ≤ g
theorem stable_res (base n : Nat) (zs : List Int) : Stable Bel (ResAt base n zs) := fun _ _ _ hb ⟨g, h, hr, hB⟩ => ⟨g, h, hr.kept hb, hB⟩

theorem Sol.root_dist {N : LN} {R : List Nat} {D q : List Int} (h : Sol N R D q) {i : Nat} (hi : i < N.ids.length) : (R.getD i 0 = i ↔ D.getD i 0 = 0) ∧ (R.getD i 0 = i ↔ q.getD i 0 = -1) := by
  have hw := h.dist.walk i hi
  have hn := hw.nonneg h.ok
  refine ⟨⟨fun e => ?_, fun e => (hn.2 e).symm⟩, ⟨fun e => h.ports.root i hi e, fun e => ?_⟩⟩
  · have := h.dist.least i 0 hi (by rw [e]; exact .nil)
    omega
  · by_cases hr : R.getD i 0 = i
    · exact hr
    · obtain ⟨d, hd, _, hq, _⟩ := h.ports.port i hi hr
      have := (h.ok.to_lt hd).2.2.1
      omega
theorem Sol.bd {N : LN} {R : List Nat} {D q : List Int} (h : Sol N R D q) {i : Nat} (hi : i < N.ids.length) : 0 ≤ D.getD i 0 ∧ D.getD i 0 ≤ 1000000 := by
  have hw := h.dist.walk i hi
  obtain ⟨l, c', hp, hle⟩ := hw.path h.ok
  have h3 := hp.short h.ok (h.roots.lt i hi)
  have h4 := h.dist.least i c' hi hp.walk
  have h5 := (hw.nonneg h.ok).1
  omega
theorem Sol.near {N : LN} {R : List Nat} {D q : List Int} (h : Sol N R D q) {d : Lk} (hd : d ∈ N.dirs) : R.getD d.i 0 = R.getD d.j 0 ∧ D.getD d.j 0 ≤ D.getD d.i 0 + N.cost d := by
  have h1 := h.ok.from_lt hd
  have h2 := h.ok.to_lt hd
  have e := h.roots.same h.ok h1.2.1 (conn_edge hd)
  refine ⟨e, h.dist.least d.j _ h2.2.1 ?_⟩
  rw [← e]
  exact .snoc (h.dist.walk d.i h1.2.1) hd

set_option maxRecDepth 20000 in
set_option maxHeartbeats 4000000 in
theorem leastNear_walk (v : NV) (N : LN) (w : World) (h : NetAt w v N) : Calls Try.prog 3 #[.agg #[.slice v.ai N.ids.length v.ci, .slice v.ac N.costs.length v.cc, .slice v.al N.links.length v.cl]] w fun e w' => e = .returned (.bool true) ∧ Below w.heap.size w w' := by
  have HN := Lib.hid h
  clear h
  go_enter Try.func3, Try.ntmps3
  go_upto_region 1 with fail
  generalize hW : w.alloc _ = w1
  have hbW : Below w.heap.size w w1 := by rw [← hW]; exact (Below.refl _ _).alloc (Nat.le_refl _) _
  have R0 : Hid (RowIs w1 w.heap.size 26 #[.slice v.ai N.ids.length v.ci, .slice v.ac N.costs.length v.cc, .slice v.al N.links.length v.cl]) := by subst hW; exact rowIs_new w _ _
  clear hW
  go_wp2_with fail
  refine (awake18 _).mono ?_
  rintro e w2 ⟨rfl, hb2⟩
  have R0 := Lib.hid (R0.out.kept hb2)
  have hbW := hbW.trans (hb2.mono hbW.size)
  clear hb2
  have HF := Lib.hid (few18 v N w2 (HN.out.kept hbW))
  cases hf : N.few
  · rw [LN.few1_no hf] at HF
    go_wp2_with ((with_reducible refine at_load 26 (.tmp 1) ?_); refine wpList_load_own rfl 26 (.tmp 1) rfl w.heap.size rfl _ _ _ R0.out Try.underlying26 rfl (by kernel_rfl) ?_)
    refine HF.out.mono ?_
    rintro e w3 ⟨rfl, hb3⟩
    have hbW := hbW.trans (hb3.mono hbW.size)
    clear hb3 HF R0
    go_wp2_with fail
    refine (awake18 _).mono ?_
    rintro e w4 ⟨rfl, hb4⟩
    go_wp2_with fail
    go_ret
    exact ⟨rfl, hbW.trans (hb4.mono hbW.size)⟩
  rw [LN.few1_yes hf] at HF
  have hll : N.links.length ≤ 300 := by
    unfold LN.few at hf
    simp only [Bool.and_eq_true, decide_eq_true_eq] at hf
    exact hf.2.2.1
  have hil : N.ids.length ≤ 50 := by
    unfold LN.few at hf
    simp only [Bool.and_eq_true, decide_eq_true_eq] at hf
    exact hf.1
  go_wp2_with ((with_reducible refine at_load 26 (.tmp 1) ?_); refine wpList_load_own rfl 26 (.tmp 1) rfl w.heap.size rfl _ _ _ R0.out Try.underlying26 rfl (by kernel_rfl) ?_)
  refine HF.out.mono ?_
  rintro e w3 ⟨rfl, hb3⟩
  have R0 := Lib.hid (R0.out.kept hb3)
  have hbW := hbW.trans (hb3.mono hbW.size)
  clear hb3 HF hf
  have HRR := Lib.hid (refRight18 v N w3 (HN.out.kept hbW) (by omega))
  cases hr : N.right
  · rw [hr] at HRR
    go_wp2_with ((with_reducible refine at_load 26 (.tmp 1) ?_); refine wpList_load_own rfl 26 (.tmp 1) rfl w.heap.size rfl _ _ _ R0.out Try.underlying26 rfl (by kernel_rfl) ?_)
    refine HRR.out.mono ?_
    rintro e w4 ⟨rfl, hb4⟩
    have hbW := hbW.trans (hb4.mono hbW.size)
    clear hb4 HRR R0
    go_wp2_with fail
    refine (awake18 _).mono ?_
    rintro e w5 ⟨rfl, hb5⟩
    go_wp2_with fail
    go_ret
    exact ⟨rfl, hbW.trans (hb5.mono hbW.size)⟩
  rw [hr] at HRR
  have HOK := Lib.hid (right_iff.1 hr)
  go_wp2_with ((with_reducible refine at_load 26 (.tmp 1) ?_); refine wpList_load_own rfl 26 (.tmp 1) rfl w.heap.size rfl _ _ _ R0.out Try.underlying26 rfl (by kernel_rfl) ?_)
  refine HRR.out.mono ?_
  rintro e w4 ⟨rfl, hb4⟩
  have R0 := Lib.hid (R0.out.kept hb4)
  have hbW := hbW.trans (hb4.mono hbW.size)
  clear hb4 HRR hr
  obtain ⟨R, D, q, hS⟩ := sol_ex HOK.out
  have HS := Lib.hid hS
  have hn16 := HOK.out.n16
  clear hS
  have HO := Lib.hid (of18 v N w4 (HN.out.kept hbW) (by omega) (by omega))
  go_wp2_with ((with_reducible refine at_load 26 (.tmp 1) ?_); refine wpList_load_own rfl 26 (.tmp 1) rfl w.heap.size rfl _ _ _ R0.out Try.underlying26 rfl (by kernel_rfl) ?_)
  refine HO.out.mono ?_
  rintro e w6 ⟨v6, rfl, hN6, hb6⟩
  have R0 := Lib.hid (R0.out.kept hb6)
  have HN6 := Lib.hid hN6
  have hbW := hbW.trans (hb6.mono hbW.size)
  clear hb6 hN6 HO
  have hwM : w.heap.size < w6.heap.size := R0.out.lt
  go_upto_region 4 with fail
  have hb7 : Below w6.heap.size w6 (w6.alloc (.cells #[.slice v6.ai N.ids.length v6.ci, .slice v6.ac N.costs.length v6.cc, .slice v6.al N.links.length v6.cl] 33)) := (Below.refl _ _).alloc (Nat.le_refl _) _
  have RM := Lib.hid (rowIs_new w6 33 #[.slice v6.ai N.ids.length v6.ci, .slice v6.ac N.costs.length v6.cc, .slice v6.al N.links.length v6.cl])
  have R0 := Lib.hid (R0.out.kept hb7)
  have HN6 := Lib.hid (HN6.out.kept hb7)
  have hbW := hbW.trans (hb7.mono hbW.size)
  clear hb7
  generalize w6.alloc (.cells #[.slice v6.ai N.ids.length v6.ci, .slice v6.ac N.costs.length v6.cc, .slice v6.al N.links.length v6.cl] 33) = w8 at *
  generalize w6.heap.size = M at *
  have HRY : Hid (∀ W, Below w8.heap.size w8 W → Calls Try.prog 11 #[.agg #[.slice v6.ai N.ids.length v6.ci, .slice v6.ac N.costs.length v6.cc, .slice v6.al N.links.length v6.cl]] W fun e w' => (∃ g, e = .returned (.slice (some ⟨g, 0, none⟩) N.ids.length N.ids.length) ∧ RowIs w' g 3 (intsA (natI R)) ∧ W.heap.size ≤ g) ∧ Below W.heap.size W w') := fun W hb => roots_yes v6 N W (HN6.out.kept hb) (by omega) HOK.out R HS.out.roots
  have HDY : Hid (∀ W, Below w8.heap.size w8 W → Calls Try.prog 12 #[.agg #[.slice v6.ai N.ids.length v6.ci, .slice v6.ac N.costs.length v6.cc, .slice v6.al N.links.length v6.cl]] W fun e w' => (∃ g, e = .returned (.slice (some ⟨g, 0, none⟩) N.ids.length N.ids.length) ∧ RowIs w' g 3 (intsA D) ∧ W.heap.size ≤ g) ∧ Below W.heap.size W w') := fun W hb => dist_yes v6 N W (HN6.out.kept hb) (by omega) HOK.out R HS.out.roots D HS.out.dist
  have HPY : Hid (∀ W, Below w8.heap.size w8 W → Calls Try.prog 13 #[.agg #[.slice v6.ai N.ids.length v6.ci, .slice v6.ac N.costs.length v6.cc, .slice v6.al N.links.length v6.cl]] W fun e w' => (∃ g, e = .returned (.slice (some ⟨g, 0, none⟩) N.ids.length N.ids.length) ∧ RowIs w' g 3 (intsA q) ∧ W.heap.size ≤ g) ∧ Below W.heap.size W w') := fun W hb => ports_yes v6 N W (HN6.out.kept hb) (by omega) HOK.out R HS.out.roots D HS.out.dist q HS.out.ports
  refine wp_region_mix 6 (by kernel_rfl) (by kernel_rfl) (by kernel_rfl) ?_
  refine mix_exact (.agg #[.slice v6.ai N.ids.length v6.ci, .slice v6.ac N.costs.length v6.cc, .slice v6.al N.links.length v6.cl]) rfl (exact_load_row rfl rfl (by simp) RM.out Try.underlying33 rfl (by kernel_rfl)) ?_
  refine mix_special (ResAt w8.heap.size N.ids.length (natI R)) 26 rfl rfl (stable_res _ _ _) (owes_call (xs := [25]) (vs := [.agg #[.slice v6.ai N.ids.length v6.ci, .slice v6.ac N.costs.length v6.cc, .slice v6.al N.links.length v6.cl]]) rfl (by simp) rfl Try.func11 (by kernel_rfl) (by kernel_rfl) (fun w' hb => (HRY.out w' hb).mono (by
    rintro e w'' ⟨⟨g, rfl, h1, h2⟩, hb'⟩
    exact ⟨_, rfl, hb', g, rfl, h1, Nat.le_trans hb.size h2⟩))) ?_
  refine mix_exact (.agg #[.slice v6.ai N.ids.length v6.ci, .slice v6.ac N.costs.length v6.cc, .slice v6.al N.links.length v6.cl]) rfl (exact_load_row rfl rfl (by simp) RM.out Try.underlying33 rfl (by kernel_rfl)) ?_
  refine mix_special (ResAt w8.heap.size N.ids.length D) 28 rfl rfl (stable_res _ _ _) (owes_call (xs := [27]) (vs := [.agg #[.slice v6.ai N.ids.length v6.ci, .slice v6.ac N.costs.length v6.cc, .slice v6.al N.links.length v6.cl]]) rfl (by simp) rfl Try.func12 (by kernel_rfl) (by kernel_rfl) (fun w' hb => (HDY.out w' hb).mono (by
    rintro e w'' ⟨⟨g, rfl, h1, h2⟩, hb'⟩
    exact ⟨_, rfl, hb', g, rfl, h1, Nat.le_trans hb.size h2⟩))) ?_
  refine mix_exact (.agg #[.slice v6.ai N.ids.length v6.ci, .slice v6.ac N.costs.length v6.cc, .slice v6.al N.links.length v6.cl]) rfl (exact_load_row rfl rfl (by simp) RM.out Try.underlying33 rfl (by kernel_rfl)) ?_
  refine mix_special (ResAt w8.heap.size N.ids.length q) 30 rfl rfl (stable_res _ _ _) (owes_call (xs := [29]) (vs := [.agg #[.slice v6.ai N.ids.length v6.ci, .slice v6.ac N.costs.length v6.cc, .slice v6.al N.links.length v6.cl]]) rfl (by simp) rfl Try.func13 (by kernel_rfl) (by kernel_rfl) (fun w' hb => (HPY.out w' hb).mono (by
    rintro e w'' ⟨⟨g, rfl, h1, h2⟩, hb'⟩
    exact ⟨_, rfl, hb', g, rfl, h1, Nat.le_trans hb.size h2⟩))) ?_
  refine mix_nil ?_
  rintro ⟨dq, osq⟩
  have hb9 := below_regrown w8 dq osq
  rintro u26 ⟨gr, rfl, hgr, _⟩ u28 ⟨gd, rfl, hgd, _⟩ u30 ⟨gq, rfl, hgq, _⟩
  have HGR := Lib.hid hgr
  have HGD := Lib.hid hgd
  have HGQ := Lib.hid hgq
  have R0 := Lib.hid (R0.out.kept hb9)
  have hbW := hbW.trans (hb9.mono hbW.size)
  clear hgr hgd hgq HRY HDY HPY hb9 HN6 RM
  refine (show wpList _ _ _ _ _ _ from ?_)
  simp only [List.drop, Act.put, List.setIfInBounds_toArray, List.set]
  generalize grow (redrawn w8 dq) osq = w9 at *
  have hn0 : ((N.ids.length : Int) == (N.ids.length : Int)) = true := by simp
  have HRL : Hid (R.length = N.ids.length) := HS.out.roots.len
  have HDL : Hid (D.length = N.ids.length) := HS.out.dist.len
  have HQL : Hid (q.length = N.ids.length) := HS.out.ports.len
  have HLEN := Lib.hid HOK.out.len
  have c0 : w9.cell? ⟨w.heap.size, 0, none⟩ = some (.slice v.ai N.ids.length v.ci) := R0.out.cell 0
  go_wp2_with fail
  clear c0 hn0
  go_loopw [7, 8] (fun s7 _ wr => ∃ k : Nat, k ≤ N.links.length ∧ s7 = .int .i64 k ∧ Hid (RowIs wr w.heap.size 26 #[.slice v.ai N.ids.length v.ci, .slice v.ac N.costs.length v.cc, .slice v.al N.links.length v.cl]) ∧ Hid (RowIs wr gr 3 (intsA (natI R))) ∧ Hid (RowIs wr gd 3 (intsA D)) ∧ Hid (RowIs wr gq 3 (intsA q)) ∧ Below w.heap.size w wr) (fun s7 _ _ => N.links.length - (intOf s7).toNat)
  case atStart => exact ⟨0, Nat.zero_le _, rfl, R0, HGR, HGD, HGQ, hbW⟩
  case round =>
    clear R0 HGR HGD HGQ hbW
    rename World => wr
    obtain ⟨k, hk, rfl, R0, HGR, HGD, HGQ, hbr⟩ := hrel
    by_cases hlt : k < N.links.length
    · as_aux_lemma =>
      obtain ⟨b, off, eal, hbl, hrg⟩ := (HN.out.kept hbr).lkr hlt
      have HRG := Lib.hid hrg
      have hmem : N.lk k ∈ N.dirs := List.mem_of_getElem? (dirs_get hlt).1
      have h1 := HOK.out.from_lt hmem
      have h2 := HOK.out.to_lt hmem
      have hn1 := HS.out.near hmem
      have hn2 := HS.out.near (dirs_turn hmem)
      have hc1 := HOK.out.cost_le hmem
      have hc2 := HOK.out.cost_le (dirs_turn hmem)
      obtain ⟨i, ei⟩ := Int.eq_ofNat_of_zero_le h1.1
      obtain ⟨p, ep⟩ := Int.eq_ofNat_of_zero_le h1.2.2.1
      obtain ⟨j, ej⟩ := Int.eq_ofNat_of_zero_le h2.1
      obtain ⟨qq, eq⟩ := Int.eq_ofNat_of_zero_le h2.2.2.1
      have c2 : wr.cell? ⟨w.heap.size, 2, none⟩ = some (.slice (some ⟨b, off, none⟩) N.links.length v.cl) := by rw [← eal]; exact R0.out.cell 2
      generalize N.lk k = x at *
      obtain ⟨xa, xp, xb, xq⟩ := x
      simp only at ei ep ej eq
      subst ei ep ej eq
      have hi : i < N.ids.length := by simpa [Lk.i] using h1.2.1
      have hj : j < N.ids.length := by simpa [Lk.j] using h2.2.1
      have hpi : p < (N.cs i).length := by simpa [Lk.i] using h1.2.2.2
      have hqj : qq < (N.cs j).length := by simpa [Lk.j] using h2.2.2.2
      have hR : R.getD i 0 = R.getD j 0 := hn1.1
      have hD1 : D.getD j 0 ≤ D.getD i 0 + (N.cs j).getD qq 0 := hn1.2
      have hD2 : D.getD i 0 ≤ D.getD j 0 + (N.cs i).getD p 0 := hn2.2
      have hc1' : 1 ≤ (N.cs j).getD qq 0 ∧ (N.cs j).getD qq 0 ≤ 65535 := hc1
      have hc2' : 1 ≤ (N.cs i).getD p 0 ∧ (N.cs i).getD p 0 ≤ 65535 := hc2
      have hdi := HS.out.bd hi
      have hdj := HS.out.bd hj
      clear h1 h2 hn1 hn2 hc1 hc2 hmem eal hrg
      have hx0 : (0 : Int) ≤ (k : Int) := by omega
      have hx1 : (k : Int) < (N.links.length : Int) := by omega
      have R6 := Lib.hid (rowIs_new wr 37 #[.int .i64 0, .int .i64 0, .int .i64 0, .int .i64 0])
      go_wp2_with (first
        | ((with_reducible refine at_load 37 (.tmp 61) ?_); refine wpList_load_mid18 rfl 37 (.tmp 61) rfl b (off + k * 4) rfl (Lk.vals ⟨i, p, j, qq⟩) _ HRG.out Try.underlying37 rfl (by kernel_rfl) ?_)
        | ((with_reducible refine at_store 37 (.tmp 8) (.tmp 62) ?_); refine wpList_store_own rfl 37 (.tmp 8) (.tmp 62) rfl wr.heap.size _ rfl rfl _ _ R6.out (by kernel_rfl) rfl (by simp [Lk.vals, Value.oneCell']) wr.heap.size (Nat.le_refl _) ?_))
      intro wl hRl hol hsl hbl'
      have hbx : Below wr.heap.size wr wl := ((Below.refl _ _).alloc (Nat.le_refl _) _).trans hbl'
      have RL : Hid (RowIs wl wr.heap.size 37 #[.int .i64 i, .int .i64 p, .int .i64 j, .int .i64 qq]) := hRl
      have R0 := Lib.hid (R0.out.kept hbx)
      have HGR := Lib.hid (HGR.out.kept hbx)
      have HGD := Lib.hid (HGD.out.kept hbx)
      have HGQ := Lib.hid (HGQ.out.kept hbx)
      have hbr := hbr.trans (hbx.mono hbr.size)
      clear hRl hol hsl hbl' hbx R6 HRG c2
      generalize wr.heap.size = lb at *
      have l0 : wl.cell? ⟨lb, 0, none⟩ = some (.int .i64 i) := RL.out.cell 0
      have l1 : wl.cell? ⟨lb, 1, none⟩ = some (.int .i64 p) := RL.out.cell 1
      have l2 : wl.cell? ⟨lb, 2, none⟩ = some (.int .i64 j) := RL.out.cell 2
      have l3 : wl.cell? ⟨lb, 3, none⟩ = some (.int .i64 qq) := RL.out.cell 3
      have r1 : wl.cell? ⟨gr, i, none⟩ = some (.int .i64 (R.getD i 0 : Nat)) := by rw [HGR.out.cell, intsA_get (by rw [natI_len, HRL.out]; exact hi), natI_get (by rw [HRL.out]; exact hi)]
      have r2 : wl.cell? ⟨gr, j, none⟩ = some (.int .i64 (R.getD i 0 : Nat)) := by rw [HGR.out.cell, intsA_get (by rw [natI_len, HRL.out]; exact hj), natI_get (by rw [HRL.out]; exact hj), hR]
      have d1 : wl.cell? ⟨gd, i, none⟩ = some (.int .i64 (D.getD i 0)) := by rw [HGD.out.cell, intsA_get (by rw [HDL.out]; exact hi)]
      have d2 : wl.cell? ⟨gd, j, none⟩ = some (.int .i64 (D.getD j 0)) := by rw [HGD.out.cell, intsA_get (by rw [HDL.out]; exact hj)]
      obtain ⟨cb, coff, ca, cci, eac, hcc, hci⟩ := (HN.out.kept hbr).cs (show i < N.costs.length by have := HLEN.out; omega)
      obtain ⟨cb', coff', ca', cci', eac', hcc', hci'⟩ := (HN.out.kept hbr).cs (show j < N.costs.length by have := HLEN.out; omega)
      rw [eac] at eac'
      simp only [Option.some.injEq, Addr.mk.injEq, and_true] at eac'
      obtain ⟨rfl, rfl⟩ := eac'
      obtain ⟨bi, offi, ei, hcq⟩ := ints_cell hci hpi
      obtain ⟨bj, offj, ej, hcq'⟩ := ints_cell hci' hqj
      subst ei ej
      have c1 : wl.cell? ⟨w.heap.size, 1, none⟩ = some (.slice (some ⟨cb, coff, none⟩) N.costs.length v.cc) := by rw [← eac]; exact R0.out.cell 1
      have hy0 : (0 : Int) ≤ (i : Int) := by omega
      have hy1 : (i : Int) < (N.ids.length : Int) := by omega
      have hy2 : (0 : Int) ≤ (j : Int) := by omega
      have hy3 : (j : Int) < (N.ids.length : Int) := by omega
      have hy4 : (i : Int) < (N.costs.length : Int) := by have := HLEN.out; omega
      have hy5 : (j : Int) < (N.costs.length : Int) := by have := HLEN.out; omega
      have hy6 : (0 : Int) ≤ (p : Int) := by omega
      have hy7 : (p : Int) < ((N.cs i).length : Int) := by omega
      have hy8 : (0 : Int) ≤ (qq : Int) := by omega
      have hy9 : (qq : Int) < ((N.cs j).length : Int) := by omega
      clear hR hci hci' eac
      generalize R.getD i 0 = rr at *
      generalize D.getD i 0 = di at *
      generalize D.getD j 0 = dj at *
      generalize (N.cs i).getD p 0 = ci at *
      generalize (N.cs j).getD qq 0 = cj at *
      generalize (N.cs i).length = li at *
      generalize (N.cs j).length = lj at *
      have e2 : decide (dj + ci < di) = false := decide_eq_false (by omega)
      have e3 : decide (di + cj < dj) = false := decide_eq_false (by omega)
      have hw1 : IntKind.i64.wrap (dj + ci) = dj + ci := by rw [IntKind.wrap_i64]; omega
      have hw2 : IntKind.i64.wrap (di + cj) = di + cj := by rw [IntKind.wrap_i64]; omega
      go_upto_region 11 with fail
      go_quiet (fail)
      have hbq : Below wl.heap.size wl (wl.drewN nq) := below_drewN (Below.refl _ _) _
      have R0 := Lib.hid (R0.out.kept hbq)
      have HGR := Lib.hid (HGR.out.kept hbq)
      have HGD := Lib.hid (HGD.out.kept hbq)
      have HGQ := Lib.hid (HGQ.out.kept hbq)
      have hbr := hbr.trans (hbq.mono hbr.size)
      clear hbq l0 l1 l2 l3 r1 r2 d1 d2 hcc hcc' hcq hcq' c1
      generalize wl.drewN nq = wm at *
      go_wp2_with fail
      exact ⟨⟨k + 1, by omega, by go_num, R0, HGR, HGD, HGQ, hbr⟩, by simp [intOf]; omega⟩
    · obtain rfl : k = N.links.length := by omega
      have c2 : wr.cell? ⟨w.heap.size, 2, none⟩ = some (.slice v.al N.links.length v.cl) := R0.out.cell 2
      go_wp2_with fail
      clear c2
      go_loopw [9] (fun s9 wr => ∃ i : Nat, i ≤ N.ids.length ∧ s9 = .int .i64 i ∧ Hid (RowIs wr w.heap.size 26 #[.slice v.ai N.ids.length v.ci, .slice v.ac N.costs.length v.cc, .slice v.al N.links.length v.cl]) ∧ Hid (RowIs wr gr 3 (intsA (natI R))) ∧ Hid (RowIs wr gd 3 (intsA D)) ∧ Hid (RowIs wr gq 3 (intsA q)) ∧ Below w.heap.size w wr) (fun s9 _ => N.ids.length - (intOf s9).toNat)
      case atStart => exact ⟨0, Nat.zero_le _, rfl, R0, HGR, HGD, HGQ, hbr⟩
      case round =>
        clear R0 HGR HGD HGQ hbr
        rename World => wq
        obtain ⟨i, hi', rfl, R0, HGR, HGD, HGQ, hbr⟩ := hrel
        by_cases hi : i < N.ids.length
        · as_aux_lemma =>
          have hrt := HS.out.root_dist hi
          have hri := HS.out.roots.lt i hi
          have hle := HS.out.roots.least i i hi (.refl i)
          obtain ⟨b, off, eai, hbl, hrgi⟩ := (HN.out.kept hbr).idr hi
          obtain ⟨b', off', eai', hbl', hrgr⟩ := (HN.out.kept hbr).idr hri
          rw [eai] at eai'
          simp only [Option.some.injEq, Addr.mk.injEq, and_true] at eai'
          obtain ⟨rfl, rfl⟩ := eai'
          have f0 := cell_regrown (show wq.cell? ⟨w.heap.size, 0, none⟩ = some (.slice (some ⟨b, off, none⟩) N.ids.length v.ci) by rw [← eai]; exact R0.out.cell 0)
          have f1 := cell_regrown (show wq.cell? ⟨gr, i, none⟩ = some (.int .i64 (R.getD i 0 : Nat)) by rw [HGR.out.cell, intsA_get (by rw [natI_len, HRL.out]; exact hi), natI_get (by rw [HRL.out]; exact hi)])
          have f2 := cell_regrown (show wq.cell? ⟨gd, i, none⟩ = some (.int .i64 (D.getD i 0)) by rw [HGD.out.cell, intsA_get (by rw [HDL.out]; exact hi)])
          have f3 := cell_regrown (show wq.cell? ⟨gq, i, none⟩ = some (.int .i64 (q.getD i 0)) by rw [HGQ.out.cell, intsA_get (by rw [HQL.out]; exact hi)])
          have HRI := Lib.hid hrgi
          have HRR := Lib.hid hrgr
          have CL := Lib.hid (fun (z : Regrown) => less_any (N.id i).f (N.id (R.getD i 0)).f (grow (redrawn wq z.d) z.os))
          have hle' : Ord.lt (N.id i).l (N.id (R.getD i 0)).l = false := hle
          clear hle eai hrgi hrgr hbl'
          have hx0 : (0 : Int) ≤ (i : Int) := by omega
          have hx1 : (i : Int) < (N.ids.length : Int) := by omega
          have hx2 : (0 : Int) ≤ (R.getD i 0 : Nat) := by omega
          have hx3 : ((R.getD i 0 : Nat) : Int) < (N.ids.length : Int) := by omega
          generalize N.id i = ii at *
          generalize N.id (R.getD i 0) = ir at *
          have hlt2 : Ord.lt [ii.f 0, ii.f 1, ii.f 2, ii.f 3, ii.f 4, ii.f 5, ii.f 6, ii.f 7] [ir.f 0, ir.f 1, ir.f 2, ir.f 3, ir.f 4, ir.f 5, ir.f 6, ir.f 7] = false := hle'
          rw [hlt2] at CL
          clear hlt2 hle'
          generalize R.getD i 0 = rr at *
          generalize D.getD i 0 = di at *
          generalize q.getD i 0 = qi at *
          have hcase : ∃ bo : Bool, ((rr : Int) == (i : Int)) = bo ∧ (di == 0) = bo ∧ (qi == -1) = bo := by
            by_cases e : rr = i
            · exact ⟨true, by rw [e]; simp, by rw [hrt.1.1 e]; rfl, by rw [hrt.2.1 e]; rfl⟩
            · refine ⟨false, ?_, ?_, ?_⟩
              · rw [beq_eq_false_iff_ne]; omega
              · rw [beq_eq_false_iff_ne]; exact fun h => e (hrt.1.2 h)
              · rw [beq_eq_false_iff_ne]; exact fun h => e (hrt.2.2 h)
          obtain ⟨bo, e1, e2, e3⟩ := hcase
          clear hrt
          cases bo
          all_goals
            go_upto_region 16 with fail
            refine wp_region_mix 42 (by kernel_rfl) (by kernel_rfl) (by kernel_rfl) ?_
            (refine mix_step (by kernel_rfl) (by kernel_rfl) (fun K hK => ?_); go_simp; (try (simp only [↓IntWalk.iteOmega]; go_simp)); (first | (refine hK _ ?_; clear hK K) | (apply Exists.intro; refine ⟨fun _ => ?_, hK _ ?_⟩; (first | fail); clear hK K)))
            (refine mix_step (by kernel_rfl) (by kernel_rfl) (fun K hK => ?_); go_simp; (try (simp only [↓IntWalk.iteOmega]; go_simp)); (first | (refine hK _ ?_; clear hK K) | (apply Exists.intro; refine ⟨fun _ => ?_, hK _ ?_⟩; (first | fail); clear hK K)))
            (refine mix_step (by kernel_rfl) (by kernel_rfl) (fun K hK => ?_); go_simp; (try (simp only [↓IntWalk.iteOmega]; go_simp)); (first | (refine hK _ ?_; clear hK K) | (apply Exists.intro; refine ⟨fun _ => ?_, hK _ ?_⟩; (first | fail); clear hK K)))
            (refine mix_step (by kernel_rfl) (by kernel_rfl) (fun K hK => ?_); go_simp; (try (simp only [↓IntWalk.iteOmega]; go_simp)); (first | (refine hK _ ?_; clear hK K) | (apply Exists.intro; refine ⟨fun _ => ?_, hK _ ?_⟩; (first | fail); clear hK K)))
            (refine mix_step (by kernel_rfl) (by kernel_rfl) (fun K hK => ?_); go_simp; (try (simp only [↓IntWalk.iteOmega]; go_simp)); (first | (refine hK _ ?_; clear hK K) | (apply Exists.intro; refine ⟨fun _ => ?_, hK _ ?_⟩; (first | fail); clear hK K)))
            (refine mix_step (by kernel_rfl) (by kernel_rfl) (fun K hK => ?_); go_simp; (try (simp only [↓IntWalk.iteOmega]; go_simp)); (first | (refine hK _ ?_; clear hK K) | (apply Exists.intro; refine ⟨fun _ => ?_, hK _ ?_⟩; (first | fail); clear hK K)))
            (refine mix_step (by kernel_rfl) (by kernel_rfl) (fun K hK => ?_); go_simp; (try (simp only [↓IntWalk.iteOmega]; go_simp)); (first | (refine hK _ ?_; clear hK K) | (apply Exists.intro; refine ⟨fun _ => ?_, hK _ ?_⟩; (first | fail); clear hK K)))
            (refine mix_step (by kernel_rfl) (by kernel_rfl) (fun K hK => ?_); go_simp; (try (simp only [↓IntWalk.iteOmega]; go_simp)); (first | (refine hK _ ?_; clear hK K) | (apply Exists.intro; refine ⟨fun _ => ?_, hK _ ?_⟩; (first | fail); clear hK K)))
            (refine mix_step (by kernel_rfl) (by kernel_rfl) (fun K hK => ?_); go_simp; (try (simp only [↓IntWalk.iteOmega]; go_simp)); (first | (refine hK _ ?_; clear hK K) | (apply Exists.intro; refine ⟨fun _ => ?_, hK _ ?_⟩; (first | fail); clear hK K)))
            (refine mix_step (by kernel_rfl) (by kernel_rfl) (fun K hK => ?_); go_simp; (try (simp only [↓IntWalk.iteOmega]; go_simp)); (first | (refine hK _ ?_; clear hK K) | (apply Exists.intro; refine ⟨fun _ => ?_, hK _ ?_⟩; (first | fail); clear hK K)))
            (refine mix_step (by kernel_rfl) (by kernel_rfl) (fun K hK => ?_); go_simp; (try (simp only [↓IntWalk.iteOmega]; go_simp)); (first | (refine hK _ ?_; clear hK K) | (apply Exists.intro; refine ⟨fun _ => ?_, hK _ ?_⟩; (first | fail); clear hK K)))
            (refine mix_step (by kernel_rfl) (by kernel_rfl) (fun K hK => ?_); go_simp; (try (simp only [↓IntWalk.iteOmega]; go_simp)); (first | (refine hK _ ?_; clear hK K) | (apply Exists.intro; refine ⟨fun _ => ?_, hK _ ?_⟩; (first | fail); clear hK K)))
            (refine mix_step (by kernel_rfl) (by kernel_rfl) (fun K hK => ?_); go_simp; (try (simp only [↓IntWalk.iteOmega]; go_simp)); (first | (refine hK _ ?_; clear hK K) | (apply Exists.intro; refine ⟨fun _ => ?_, hK _ ?_⟩; (first | fail); clear hK K)))
            (refine mix_step (by kernel_rfl) (by kernel_rfl) (fun K hK => ?_); go_simp; (try (simp only [↓IntWalk.iteOmega]; go_simp)); (first | (refine hK _ ?_; clear hK K) | (apply Exists.intro; refine ⟨fun _ => ?_, hK _ ?_⟩; (first | fail); clear hK K)))
            (refine mix_step (by kernel_rfl) (by kernel_rfl) (fun K hK => ?_); go_simp; (try (simp only [↓IntWalk.iteOmega]; go_simp)); (first | (refine hK _ ?_; clear hK K) | (apply Exists.intro; refine ⟨fun _ => ?_, hK _ ?_⟩; (first | fail); clear hK K)))
            (refine mix_step (by kernel_rfl) (by kernel_rfl) (fun K hK => ?_); go_simp; (try (simp only [↓IntWalk.iteOmega]; go_simp)); (first | (refine hK _ ?_; clear hK K) | (apply Exists.intro; refine ⟨fun _ => ?_, hK _ ?_⟩; (first | fail); clear hK K)))
            (refine mix_step (by kernel_rfl) (by kernel_rfl) (fun K hK => ?_); go_simp; (try (simp only [↓IntWalk.iteOmega]; go_simp)); (first | (refine hK _ ?_; clear hK K) | (apply Exists.intro; refine ⟨fun _ => ?_, hK _ ?_⟩; (first | fail); clear hK K)))
            (refine mix_step (by kernel_rfl) (by kernel_rfl) (fun K hK => ?_); go_simp; (try (simp only [↓IntWalk.iteOmega]; go_simp)); (first | (refine hK _ ?_; clear hK K) | (apply Exists.intro; refine ⟨fun _ => ?_, hK _ ?_⟩; (first | fail); clear hK K)))
            (refine mix_step (by kernel_rfl) (by kernel_rfl) (fun K hK => ?_); go_simp; (try (simp only [↓IntWalk.iteOmega]; go_simp)); (first | (refine hK _ ?_; clear hK K) | (apply Exists.intro; refine ⟨fun _ => ?_, hK _ ?_⟩; (first | fail); clear hK K)))
            (refine mix_step (by kernel_rfl) (by kernel_rfl) (fun K hK => ?_); go_simp; (try (simp only [↓IntWalk.iteOmega]; go_simp)); (first | (refine hK _ ?_; clear hK K) | (apply Exists.intro; refine ⟨fun _ => ?_, hK _ ?_⟩; (first | fail); clear hK K)))
            (refine mix_step (by kernel_rfl) (by kernel_rfl) (fun K hK => ?_); go_simp; (try (simp only [↓IntWalk.iteOmega]; go_simp)); (first | (refine hK _ ?_; clear hK K) | (apply Exists.intro; refine ⟨fun _ => ?_, hK _ ?_⟩; (first | fail); clear hK K)))
            (refine mix_step (by kernel_rfl) (by kernel_rfl) (fun K hK => ?_); go_simp; (try (simp only [↓IntWalk.iteOmega]; go_simp)); (first | (refine hK _ ?_; clear hK K) | (apply Exists.intro; refine ⟨fun _ => ?_, hK _ ?_⟩; (first | fail); clear hK K)))
            (refine mix_step (by kernel_rfl) (by kernel_rfl) (fun K hK => ?_); go_simp; (try (simp only [↓IntWalk.iteOmega]; go_simp)); (first | (refine hK _ ?_; clear hK K) | (apply Exists.intro; refine ⟨fun _ => ?_, hK _ ?_⟩; (first | fail); clear hK K)))
            (refine mix_step (by kernel_rfl) (by kernel_rfl) (fun K hK => ?_); go_simp; (try (simp only [↓IntWalk.iteOmega]; go_simp)); (first | (refine hK _ ?_; clear hK K) | (apply Exists.intro; refine ⟨fun _ => ?_, hK _ ?_⟩; (first | fail); clear hK K)))
            (refine mix_step (by kernel_rfl) (by kernel_rfl) (fun K hK => ?_); go_simp; (try (simp only [↓IntWalk.iteOmega]; go_simp)); (first | (refine hK _ ?_; clear hK K) | (apply Exists.intro; refine ⟨fun _ => ?_, hK _ ?_⟩; (first | fail); clear hK K)))
            (refine mix_step (by kernel_rfl) (by kernel_rfl) (fun K hK => ?_); go_simp; (try (simp only [↓IntWalk.iteOmega]; go_simp)); (first | (refine hK _ ?_; clear hK K) | (apply Exists.intro; refine ⟨fun _ => ?_, hK _ ?_⟩; (first | fail); clear hK K)))
            (refine mix_step (by kernel_rfl) (by kernel_rfl) (fun K hK => ?_); go_simp; (try (simp only [↓IntWalk.iteOmega]; go_simp)); (first | (refine hK _ ?_; clear hK K) | (apply Exists.intro; refine ⟨fun _ => ?_, hK _ ?_⟩; (first | fail); clear hK K)))
            (refine mix_step (by kernel_rfl) (by kernel_rfl) (fun K hK => ?_); go_simp; (try (simp only [↓IntWalk.iteOmega]; go_simp)); (first | (refine hK _ ?_; clear hK K) | (apply Exists.intro; refine ⟨fun _ => ?_, hK _ ?_⟩; (first | fail); clear hK K)))
            (refine mix_step (by kernel_rfl) (by kernel_rfl) (fun K hK => ?_); go_simp; (try (simp only [↓IntWalk.iteOmega]; go_simp)); (first | (refine hK _ ?_; clear hK K) | (apply Exists.intro; refine ⟨fun _ => ?_, hK _ ?_⟩; (first | fail); clear hK K)))
            (refine mix_step (by kernel_rfl) (by kernel_rfl) (fun K hK => ?_); go_simp; (try (simp only [↓IntWalk.iteOmega]; go_simp)); (first | (refine hK _ ?_; clear hK K) | (apply Exists.intro; refine ⟨fun _ => ?_, hK _ ?_⟩; (first | fail); clear hK K)))
            (refine mix_step (by kernel_rfl) (by kernel_rfl) (fun K hK => ?_); go_simp; (try (simp only [↓IntWalk.iteOmega]; go_simp)); (first | (refine hK _ ?_; clear hK K) | (apply Exists.intro; refine ⟨fun _ => ?_, hK _ ?_⟩; (first | fail); clear hK K)))
            refine mix_exact (.agg #[.int .u8 ((ii.f 0).toNat : Int), .int .u8 ((ii.f 1).toNat : Int), .int .u8 ((ii.f 2).toNat : Int), .int .u8 ((ii.f 3).toNat : Int), .int .u8 ((ii.f 4).toNat : Int), .int .u8 ((ii.f 5).toNat : Int), .int .u8 ((ii.f 6).toNat : Int), .int .u8 ((ii.f 7).toNat : Int)]) rfl (exact_load_range (sub := Id8.vals ii) rfl rfl (by simp) HRI.out hbl Try.underlying39 rfl (by kernel_rfl)) ?_
            (refine mix_step (by kernel_rfl) (by kernel_rfl) (fun K hK => ?_); go_simp; (try (simp only [↓IntWalk.iteOmega]; go_simp)); (first | (refine hK _ ?_; clear hK K) | (apply Exists.intro; refine ⟨fun _ => ?_, hK _ ?_⟩; (first | fail); clear hK K)))
            (refine mix_step (by kernel_rfl) (by kernel_rfl) (fun K hK => ?_); go_simp; (try (simp only [↓IntWalk.iteOmega]; go_simp)); (first | (refine hK _ ?_; clear hK K) | (apply Exists.intro; refine ⟨fun _ => ?_, hK _ ?_⟩; (first | fail); clear hK K)))
            (refine mix_step (by kernel_rfl) (by kernel_rfl) (fun K hK => ?_); go_simp; (try (simp only [↓IntWalk.iteOmega]; go_simp)); (first | (refine hK _ ?_; clear hK K) | (apply Exists.intro; refine ⟨fun _ => ?_, hK _ ?_⟩; (first | fail); clear hK K)))
            (refine mix_step (by kernel_rfl) (by kernel_rfl) (fun K hK => ?_); go_simp; (try (simp only [↓IntWalk.iteOmega]; go_simp)); (first | (refine hK _ ?_; clear hK K) | (apply Exists.intro; refine ⟨fun _ => ?_, hK _ ?_⟩; (first | fail); clear hK K)))
            (refine mix_step (by kernel_rfl) (by kernel_rfl) (fun K hK => ?_); go_simp; (try (simp only [↓IntWalk.iteOmega]; go_simp)); (first | (refine hK _ ?_; clear hK K) | (apply Exists.intro; refine ⟨fun _ => ?_, hK _ ?_⟩; (first | fail); clear hK K)))
            (refine mix_step (by kernel_rfl) (by kernel_rfl) (fun K hK => ?_); go_simp; (try (simp only [↓IntWalk.iteOmega]; go_simp)); (first | (refine hK _ ?_; clear hK K) | (apply Exists.intro; refine ⟨fun _ => ?_, hK _ ?_⟩; (first | fail); clear hK K)))
            (refine mix_step (by kernel_rfl) (by kernel_rfl) (fun K hK => ?_); go_simp; (try (simp only [↓IntWalk.iteOmega]; go_simp)); (first | (refine hK _ ?_; clear hK K) | (apply Exists.intro; refine ⟨fun _ => ?_, hK _ ?_⟩; (first | fail); clear hK K)))
            refine mix_exact (.agg #[.int .u8 ((ir.f 0).toNat : Int), .int .u8 ((ir.f 1).toNat : Int), .int .u8 ((ir.f 2).toNat : Int), .int .u8 ((ir.f 3).toNat : Int), .int .u8 ((ir.f 4).toNat : Int), .int .u8 ((ir.f 5).toNat : Int), .int .u8 ((ir.f 6).toNat : Int), .int .u8 ((ir.f 7).toNat : Int)]) rfl (exact_load_range (sub := Id8.vals ir) rfl rfl (by simp) HRR.out hbl Try.underlying39 rfl (by kernel_rfl)) ?_
            (refine mix_step (by kernel_rfl) (by kernel_rfl) (fun K hK => ?_); go_simp; (try (simp only [↓IntWalk.iteOmega]; go_simp)); (first | (refine hK _ ?_; clear hK K) | (apply Exists.intro; refine ⟨fun _ => ?_, hK _ ?_⟩; (first | exact CL.out _); clear hK K)))
            (refine mix_step (by kernel_rfl) (by kernel_rfl) (fun K hK => ?_); go_simp; (try (simp only [↓IntWalk.iteOmega]; go_simp)); (first | (refine hK _ ?_; clear hK K) | (apply Exists.intro; refine ⟨fun _ => ?_, hK _ ?_⟩; (first | fail); clear hK K)))
            refine mix_nil ?_
            rintro ⟨dq, osq⟩
            have hb5 := below_regrown wq dq osq
            refine (show wpList _ _ _ _ _ _ from ?_)
            simp only [List.drop, Act.put, List.setIfInBounds_toArray, List.set]
            have R0 := Lib.hid (R0.out.kept hb5)
            have HGR := Lib.hid (HGR.out.kept hb5)
            have HGD := Lib.hid (HGD.out.kept hb5)
            have HGQ := Lib.hid (HGQ.out.kept hb5)
            have hbr := hbr.trans (hb5.mono hbr.size)
            clear f0 f1 f2 f3 CL hb5 HRI HRR hbl e1 e2 e3
            generalize grow (redrawn wq dq) osq = w5 at *
            go_wp2_with fail
            exact ⟨⟨i + 1, by omega, by go_num, R0, HGR, HGD, HGQ, hbr⟩, by simp [intOf]; omega⟩
        · obtain rfl : i = N.ids.length := by omega
          go_wp2_with fail
          go_ret
          exact ⟨rfl, hbr⟩
end Go.Proofs.Ytfgbegnngpdnbaa
