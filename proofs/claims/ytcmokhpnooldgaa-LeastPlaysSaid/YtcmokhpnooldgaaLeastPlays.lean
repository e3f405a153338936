/- LeastPlays: the walk. By an AI agent. -/
import Derived.Test.YtcmokhpnooldgaaLq5
namespace Go.Proofs.Ytcmokhpnooldgaa
open Go.RowKit Go.WideShapes Go.Sort Grow

set_option maxRecDepth 20000 in
set_option maxHeartbeats 8000000 in
theorem leastPlays_walk (v : NV) (N : LN) (b p : Int) (w : World) (h : NetAt w v N) : Calls Try.prog 4 #[.agg #[.slice v.ai N.ids.length v.ci, .slice v.ac N.costs.length v.cc, .slice v.al N.links.length v.cl], .int .i64 b, .int .i64 p] w fun e w' => e = .returned (.bool true) ∧ Below w.heap.size w w' := by
  have HN := Lib.hid h
  clear h
  go_enter Try.func4, Try.ntmps4
  go_upto_region 1 with fail
  generalize hW : w.alloc _ = w1
  have hbW : Below w.heap.size w w1 := by rw [← hW]; exact (Below.refl _ _).alloc (Nat.le_refl _) _
  have R0 : Hid (RowIs w1 w.heap.size 26 #[.slice v.ai N.ids.length v.ci, .slice v.ac N.costs.length v.cc, .slice v.al N.links.length v.cl]) := by subst hW; exact rowIs_new w _ _
  clear hW
  go_wp2_with fail
  refine (awake18 _).mono ?_
  rintro e w2 ⟨rfl, hb2⟩
  have R0 := Lib.hid (R0.out.kept hb2)
  have hbW := hbW.trans (hb2.mono hbW.size)
  clear hb2
  have HF := Lib.hid (few18 v N w2 (HN.out.kept hbW))
  cases hf : N.few
  · rw [LN.few1_no hf] at HF
    go_wp2_with ((with_reducible refine at_load 26 (.tmp 3) ?_); refine wpList_load_own rfl 26 (.tmp 3) rfl w.heap.size rfl _ _ _ R0.out Try.underlying26 rfl (by kernel_rfl) ?_)
    refine HF.out.mono ?_
    rintro e w3 ⟨rfl, hb3⟩
    have hbW := hbW.trans (hb3.mono hbW.size)
    clear hb3 HF R0
    go_wp2_with fail
    refine (awake18 _).mono ?_
    rintro e w4 ⟨rfl, hb4⟩
    go_wp2_with fail
    go_ret
    exact ⟨rfl, hbW.trans (hb4.mono hbW.size)⟩
  rw [LN.few1_yes hf] at HF
  have hll : N.links.length ≤ 300 := by
    unfold LN.few at hf
    simp only [Bool.and_eq_true, decide_eq_true_eq] at hf
    exact hf.2.2.1
  have hil : N.ids.length ≤ 50 := by
    unfold LN.few at hf
    simp only [Bool.and_eq_true, decide_eq_true_eq] at hf
    exact hf.1
  go_wp2_with ((with_reducible refine at_load 26 (.tmp 3) ?_); refine wpList_load_own rfl 26 (.tmp 3) rfl w.heap.size rfl _ _ _ R0.out Try.underlying26 rfl (by kernel_rfl) ?_)
  refine HF.out.mono ?_
  rintro e w3 ⟨rfl, hb3⟩
  have R0 := Lib.hid (R0.out.kept hb3)
  have hbW := hbW.trans (hb3.mono hbW.size)
  clear hb3 HF hf
  have HO := Lib.hid (of18 v N w3 (HN.out.kept hbW) (by omega) (by omega))
  go_wp2_with ((with_reducible refine at_load 26 (.tmp 3) ?_); refine wpList_load_own rfl 26 (.tmp 3) rfl w.heap.size rfl _ _ _ R0.out Try.underlying26 rfl (by kernel_rfl) ?_)
  refine HO.out.mono ?_
  rintro e w6 ⟨v6, rfl, hN6, hb6⟩
  replace R0 := Lib.hid (R0.out.kept hb6)
  have HN6 := Lib.hid hN6
  replace hbW := hbW.trans (hb6.mono hbW.size)
  clear hb6 hN6 HO
  have hwM : w.heap.size < w6.heap.size := R0.out.lt
  go_upto_region 4 with fail
  have hb7 : Below w6.heap.size w6 (w6.alloc (.cells #[.slice v6.ai N.ids.length v6.ci, .slice v6.ac N.costs.length v6.cc, .slice v6.al N.links.length v6.cl] 32)) := (Below.refl _ _).alloc (Nat.le_refl _) _
  have RM := Lib.hid (rowIs_new w6 32 #[.slice v6.ai N.ids.length v6.ci, .slice v6.ac N.costs.length v6.cc, .slice v6.al N.links.length v6.cl])
  replace R0 := Lib.hid (R0.out.kept hb7)
  replace HN6 := Lib.hid (HN6.out.kept hb7)
  replace hbW := hbW.trans (hb7.mono hbW.size)
  clear hb7
  generalize w6.alloc (.cells #[.slice v6.ai N.ids.length v6.ci, .slice v6.ac N.costs.length v6.cc, .slice v6.al N.links.length v6.cl] 32) = w8 at *
  generalize w6.heap.size = M at *
  have C1 : Hid (∀ (k : Regrown), Calls Try.prog 12 #[.agg #[.slice v6.ai N.ids.length v6.ci, .slice v6.ac N.costs.length v6.cc, .slice v6.al N.links.length v6.cl]] (grow (redrawn w8 k.d) k.os) fun e w' => e = .returned (.bool N.right) ∧ Below (grow (redrawn w8 k.d) k.os).heap.size (grow (redrawn w8 k.d) k.os) w') := fun k => right18 v6 N _ (HN6.out.kept (below_regrown w8 k.d k.os)) (by omega)
  have C2 : Hid (∀ (k : Regrown), Calls Try.prog 17 #[.agg #[.slice v.ai N.ids.length v.ci, .slice v.ac N.costs.length v.cc, .slice v.al N.links.length v.cl]] (grow (redrawn w8 k.d) k.os) fun e w' => e = .returned (.bool N.right) ∧ Below (grow (redrawn w8 k.d) k.os).heap.size (grow (redrawn w8 k.d) k.os) w') := fun k => refRight18 v N _ (HN.out.kept (hbW.trans ((below_regrown w8 k.d k.os).mono hbW.size))) (by omega)
  go_cut [28] (fun u wx => u = .bool false ∧ Below w8.heap.size w8 wx)
  case first =>
    as_aux_lemma =>
    cases hr : N.right
    all_goals
      rw [hr] at C1 C2
      clear hr
      refine wp_region_mix 5 (by kernel_rfl) (by kernel_rfl) (by kernel_rfl) ?_
      refine mix_exact (.agg #[.slice v6.ai N.ids.length v6.ci, .slice v6.ac N.costs.length v6.cc, .slice v6.al N.links.length v6.cl]) rfl (exact_load_row rfl rfl (by simp) RM.out Try.underlying32 rfl (by kernel_rfl)) ?_
      (refine mix_step (by kernel_rfl) (by kernel_rfl) (fun K hK => ?_); go_simp; (try (simp only [↓IntWalk.iteOmega]; go_simp)); (first | (refine hK _ ?_; clear hK K) | (apply Exists.intro; refine ⟨fun _ => ?_, hK _ ?_⟩; (first | exact C1.out _); clear hK K)))
      refine mix_exact (.agg #[.slice v.ai N.ids.length v.ci, .slice v.ac N.costs.length v.cc, .slice v.al N.links.length v.cl]) rfl (exact_load_row rfl rfl (by simp) R0.out Try.underlying26 rfl (by kernel_rfl)) ?_
      (refine mix_step (by kernel_rfl) (by kernel_rfl) (fun K hK => ?_); go_simp; (try (simp only [↓IntWalk.iteOmega]; go_simp)); (first | (refine hK _ ?_; clear hK K) | (apply Exists.intro; refine ⟨fun _ => ?_, hK _ ?_⟩; (first | exact C2.out _); clear hK K)))
      (refine mix_step (by kernel_rfl) (by kernel_rfl) (fun K hK => ?_); go_simp; (try (simp only [↓IntWalk.iteOmega]; go_simp)); (first | (refine hK _ ?_; clear hK K) | (apply Exists.intro; refine ⟨fun _ => ?_, hK _ ?_⟩; (first | fail); clear hK K)))
      refine mix_nil ?_
      rintro ⟨dq, osq⟩
      have hb9 := below_regrown w8 dq osq
      refine (show wpList _ _ _ _ _ _ from ?_)
      simp only [List.drop, Act.put, List.setIfInBounds_toArray, List.set]
      go_wp2_with fail
      go_meet
      exact ⟨rfl, hb9⟩
  case rest =>
  obtain ⟨rfl, hb9⟩ := hcut
  rename World => w9
  replace R0 := Lib.hid (R0.out.kept hb9)
  replace RM := Lib.hid (RM.out.kept hb9)
  replace HN6 := Lib.hid (HN6.out.kept hb9)
  replace hbW := hbW.trans (hb9.mono hbW.size)
  clear hb9 C1 C2
  have HRT := Lib.hid (refRight18 v N w9 (HN.out.kept hbW) (by omega))
  cases hr : N.right
  · rw [hr] at HRT
    go_wp2_with ((with_reducible refine at_load 26 (.tmp 3) ?_); refine wpList_load_own rfl 26 (.tmp 3) rfl w.heap.size rfl _ _ _ R0.out Try.underlying26 rfl (by kernel_rfl) ?_)
    refine HRT.out.mono ?_
    rintro e w10 ⟨rfl, hbk⟩
    replace R0 := Lib.hid (R0.out.kept hbk)
    replace RM := Lib.hid (RM.out.kept hbk)
    replace HN6 := Lib.hid (HN6.out.kept hbk)
    replace hbW := hbW.trans (hbk.mono hbW.size)
    clear hbk HRT
    have HF := Lib.hid (forw_no v6 N b p w10 HN6.out (by omega) (.inl hr))
    go_wp2_with ((with_reducible refine at_load 32 (.tmp 7) ?_); refine wpList_load_own rfl 32 (.tmp 7) rfl M rfl _ _ _ RM.out Try.underlying32 rfl (by kernel_rfl) ?_)
    refine HF.out.mono ?_
    rintro e wz ⟨rfl, hbk⟩
    replace hbW := hbW.trans (hbk.mono hbW.size)
    clear hbk HF
    go_wp2_with fail
    go_ret
    exact ⟨rfl, hbW⟩
  rw [hr] at HRT
  have HOK := Lib.hid (right_iff.1 hr)
  clear hr
  go_wp2_with ((with_reducible refine at_load 26 (.tmp 3) ?_); refine wpList_load_own rfl 26 (.tmp 3) rfl w.heap.size rfl _ _ _ R0.out Try.underlying26 rfl (by kernel_rfl) ?_)
  refine HRT.out.mono ?_
  rintro e w10 ⟨rfl, hbk⟩
  replace R0 := Lib.hid (R0.out.kept hbk)
  replace RM := Lib.hid (RM.out.kept hbk)
  replace HN6 := Lib.hid (HN6.out.kept hbk)
  replace hbW := hbW.trans (hbk.mono hbW.size)
  clear hbk HRT
  obtain ⟨R, D, q, hS⟩ := sol_ex HOK.out
  have HS := Lib.hid hS
  have hn16 := HOK.out.n16
  clear hS
  go_upto_region 8 with fail
  clear w9
  rename World => w9
  have HRY : Hid (∀ W, Below w9.heap.size w9 W → Calls Try.prog 13 #[.agg #[.slice v6.ai N.ids.length v6.ci, .slice v6.ac N.costs.length v6.cc, .slice v6.al N.links.length v6.cl]] W fun e w' => (∃ g, e = .returned (.slice (some ⟨g, 0, none⟩) N.ids.length N.ids.length) ∧ RowIs w' g 3 (intsA (natI R)) ∧ W.heap.size ≤ g) ∧ Below W.heap.size W w') := fun W hb => roots_yes v6 N W (HN6.out.kept hb) (by omega) HOK.out R HS.out.roots
  have HDY : Hid (∀ W, Below w9.heap.size w9 W → Calls Try.prog 14 #[.agg #[.slice v6.ai N.ids.length v6.ci, .slice v6.ac N.costs.length v6.cc, .slice v6.al N.links.length v6.cl]] W fun e w' => (∃ g, e = .returned (.slice (some ⟨g, 0, none⟩) N.ids.length N.ids.length) ∧ RowIs w' g 3 (intsA D) ∧ W.heap.size ≤ g) ∧ Below W.heap.size W w') := fun W hb => dist_yes v6 N W (HN6.out.kept hb) (by omega) HOK.out R HS.out.roots D HS.out.dist
  have HPY : Hid (∀ W, Below w9.heap.size w9 W → Calls Try.prog 15 #[.agg #[.slice v6.ai N.ids.length v6.ci, .slice v6.ac N.costs.length v6.cc, .slice v6.al N.links.length v6.cl]] W fun e w' => (∃ g, e = .returned (.slice (some ⟨g, 0, none⟩) N.ids.length N.ids.length) ∧ RowIs w' g 3 (intsA q) ∧ W.heap.size ≤ g) ∧ Below W.heap.size W w') := fun W hb => ports_yes v6 N W (HN6.out.kept hb) (by omega) HOK.out R HS.out.roots D HS.out.dist q HS.out.ports
  refine wp_region_mix 6 (by kernel_rfl) (by kernel_rfl) (by kernel_rfl) ?_
  refine mix_exact (.agg #[.slice v6.ai N.ids.length v6.ci, .slice v6.ac N.costs.length v6.cc, .slice v6.al N.links.length v6.cl]) rfl (exact_load_row rfl rfl (by simp) RM.out Try.underlying32 rfl (by kernel_rfl)) ?_
  refine mix_special (ResQ w9.heap.size N.ids.length (natI R)) 38 rfl rfl (stable_resQ _ _ _) (owes_call (xs := [37]) (vs := [.agg #[.slice v6.ai N.ids.length v6.ci, .slice v6.ac N.costs.length v6.cc, .slice v6.al N.links.length v6.cl]]) rfl (by simp) rfl Try.func13 (by kernel_rfl) (by kernel_rfl) (fun w' hb => (HRY.out w' hb).mono (by
    rintro e w'' ⟨⟨g, rfl, h1, h2⟩, hb'⟩
    exact ⟨_, rfl, hb', g, rfl, h1, Nat.le_trans hb.size h2⟩))) ?_
  refine mix_exact (.agg #[.slice v6.ai N.ids.length v6.ci, .slice v6.ac N.costs.length v6.cc, .slice v6.al N.links.length v6.cl]) rfl (exact_load_row rfl rfl (by simp) RM.out Try.underlying32 rfl (by kernel_rfl)) ?_
  refine mix_special (ResQ w9.heap.size N.ids.length D) 40 rfl rfl (stable_resQ _ _ _) (owes_call (xs := [39]) (vs := [.agg #[.slice v6.ai N.ids.length v6.ci, .slice v6.ac N.costs.length v6.cc, .slice v6.al N.links.length v6.cl]]) rfl (by simp) rfl Try.func14 (by kernel_rfl) (by kernel_rfl) (fun w' hb => (HDY.out w' hb).mono (by
    rintro e w'' ⟨⟨g, rfl, h1, h2⟩, hb'⟩
    exact ⟨_, rfl, hb', g, rfl, h1, Nat.le_trans hb.size h2⟩))) ?_
  refine mix_exact (.agg #[.slice v6.ai N.ids.length v6.ci, .slice v6.ac N.costs.length v6.cc, .slice v6.al N.links.length v6.cl]) rfl (exact_load_row rfl rfl (by simp) RM.out Try.underlying32 rfl (by kernel_rfl)) ?_
  refine mix_special (ResQ w9.heap.size N.ids.length q) 42 rfl rfl (stable_resQ _ _ _) (owes_call (xs := [41]) (vs := [.agg #[.slice v6.ai N.ids.length v6.ci, .slice v6.ac N.costs.length v6.cc, .slice v6.al N.links.length v6.cl]]) rfl (by simp) rfl Try.func15 (by kernel_rfl) (by kernel_rfl) (fun w' hb => (HPY.out w' hb).mono (by
    rintro e w'' ⟨⟨g, rfl, h1, h2⟩, hb'⟩
    exact ⟨_, rfl, hb', g, rfl, h1, Nat.le_trans hb.size h2⟩))) ?_
  refine mix_nil ?_
  rintro ⟨dq, osq⟩
  have hbk := below_regrown w9 dq osq
  rintro u38 ⟨gr, rfl, hgr, _⟩ u40 ⟨gd, rfl, hgd, _⟩ u42 ⟨gq, rfl, hgq, _⟩
  have HGR := Lib.hid hgr
  have HGD := Lib.hid hgd
  have HGQ := Lib.hid hgq
  replace R0 := Lib.hid (R0.out.kept hbk)
  replace RM := Lib.hid (RM.out.kept hbk)
  replace HN6 := Lib.hid (HN6.out.kept hbk)
  replace hbW := hbW.trans (hbk.mono hbW.size)
  clear hgr hgd hgq HRY HDY HPY hbk
  refine (show wpList _ _ _ _ _ _ from ?_)
  simp only [List.drop, Act.put, List.setIfInBounds_toArray, List.set]
  generalize grow (redrawn w9 dq) osq = w11 at *
  go_upto_region 9 with fail
  have HCR : Hid (∀ W, Below w11.heap.size w11 W → Calls Try.prog 18 #[.agg #[.slice v.ai N.ids.length v.ci, .slice v.ac N.costs.length v.cc, .slice v.al N.links.length v.cl]] W fun e w' => (∃ ao cap, e = .returned (.slice ao N.ids.length cap) ∧ IntsAt w' ao (natI R)) ∧ Below W.heap.size W w') := fun W hb => refRoots18 v N W (HN.out.kept (hbW.trans (hb.mono hbW.size))) (by omega) HOK.out R HS.out.roots
  have HCD : Hid (∀ W, Below w11.heap.size w11 W → Calls Try.prog 19 #[.agg #[.slice v.ai N.ids.length v.ci, .slice v.ac N.costs.length v.cc, .slice v.al N.links.length v.cl]] W fun e w' => (∃ ao cap, e = .returned (.slice ao N.ids.length cap) ∧ IntsAt w' ao D) ∧ Below W.heap.size W w') := fun W hb => refDists18 v N W (HN.out.kept (hbW.trans (hb.mono hbW.size))) (by omega) HOK.out R HS.out.roots D HS.out.dist
  refine wp_region_mix 4 (by kernel_rfl) (by kernel_rfl) (by kernel_rfl) ?_
  refine mix_exact (.agg #[.slice v.ai N.ids.length v.ci, .slice v.ac N.costs.length v.cc, .slice v.al N.links.length v.cl]) rfl (exact_load_row rfl rfl (by simp) R0.out Try.underlying26 rfl (by kernel_rfl)) ?_
  refine mix_special (IntsQ N.ids.length (natI R)) 44 rfl rfl (stable_intsQ _ _) (owes_call (xs := [43]) (vs := [.agg #[.slice v.ai N.ids.length v.ci, .slice v.ac N.costs.length v.cc, .slice v.al N.links.length v.cl]]) rfl (by simp) rfl Try.func18 (by kernel_rfl) (by kernel_rfl) (fun w' hb => (HCR.out w' hb).mono (by
    rintro e w'' ⟨⟨ao, cap, rfl, h1⟩, hb'⟩
    exact ⟨_, rfl, hb', ao, cap, rfl, h1⟩))) ?_
  refine mix_exact (.agg #[.slice v.ai N.ids.length v.ci, .slice v.ac N.costs.length v.cc, .slice v.al N.links.length v.cl]) rfl (exact_load_row rfl rfl (by simp) R0.out Try.underlying26 rfl (by kernel_rfl)) ?_
  refine mix_special (IntsQ N.ids.length D) 46 rfl rfl (stable_intsQ _ _) (owes_call (xs := [45]) (vs := [.agg #[.slice v.ai N.ids.length v.ci, .slice v.ac N.costs.length v.cc, .slice v.al N.links.length v.cl]]) rfl (by simp) rfl Try.func19 (by kernel_rfl) (by kernel_rfl) (fun w' hb => (HCD.out w' hb).mono (by
    rintro e w'' ⟨⟨ao, cap, rfl, h1⟩, hb'⟩
    exact ⟨_, rfl, hb', ao, cap, rfl, h1⟩))) ?_
  refine mix_nil ?_
  rintro ⟨dq, osq⟩
  have hbk := below_regrown w11 dq osq
  rintro u44 ⟨ax, xcap, rfl, hix⟩ u46 ⟨ay, ycap, rfl, hiy⟩
  have HIX := Lib.hid hix
  have HIY := Lib.hid hiy
  replace R0 := Lib.hid (R0.out.kept hbk)
  replace RM := Lib.hid (RM.out.kept hbk)
  replace HN6 := Lib.hid (HN6.out.kept hbk)
  replace HGR := Lib.hid (HGR.out.kept hbk)
  replace HGD := Lib.hid (HGD.out.kept hbk)
  replace HGQ := Lib.hid (HGQ.out.kept hbk)
  replace hbW := hbW.trans (hbk.mono hbW.size)
  clear hix hiy hbk HCR HCD
  refine (show wpList _ _ _ _ _ _ from ?_)
  simp only [List.drop, Act.put, List.setIfInBounds_toArray, List.set]
  generalize grow (redrawn w11 dq) osq = w12 at *
  have hn0 : ((N.ids.length : Int) == (N.ids.length : Int)) = true := by simp
  have HRL : Hid (R.length = N.ids.length) := HS.out.roots.len
  have HDL : Hid (D.length = N.ids.length) := HS.out.dist.len
  have HQL : Hid (q.length = N.ids.length) := HS.out.ports.len
  have HLEN := Lib.hid HOK.out.len
  go_wp2_with fail
  clear hn0
  go_loopw [13] (fun s13 wr => ∃ k : Nat, k ≤ N.ids.length ∧ s13 = .int .i64 k ∧ Below w12.heap.size w12 wr) (fun s13 _ => N.ids.length - (intOf s13).toNat)
  case atStart => exact ⟨0, Nat.zero_le _, rfl, Below.refl _ _⟩
  case round =>
    rename World => wr
    obtain ⟨k, hk, rfl, hbr⟩ := hrel
    by_cases hlt : k < N.ids.length
    · as_aux_lemma =>
      have hbx := hbW.trans (hbr.mono hbW.size)
      have R0' := Lib.hid (R0.out.kept hbr)
      obtain ⟨xb, xoff, ex, hxc⟩ := ints_cell (HIX.out.after hbr) (show k < (natI R).length by rw [natI_len, HRL.out]; exact hlt)
      rw [natI_get (by rw [HRL.out]; exact hlt)] at hxc
      obtain ⟨yb, yoff, ey, hyc⟩ := ints_cell (HIY.out.after hbr) (show k < D.length by rw [HDL.out]; exact hlt)
      subst ex ey
      have f1 := cell_regrown hxc
      have f2 := cell_regrown hyc
      have f3 := cell_regrown (show wr.cell? ⟨gr, k, none⟩ = some (.int .i64 (R.getD k 0 : Nat)) by rw [(HGR.out.kept hbr).cell, intsA_get (by rw [natI_len, HRL.out]; exact hlt), natI_get (by rw [HRL.out]; exact hlt)])
      have f4 := cell_regrown (show wr.cell? ⟨gd, k, none⟩ = some (.int .i64 (D.getD k 0)) by rw [(HGD.out.kept hbr).cell, intsA_get (by rw [HDL.out]; exact hlt)])
      have f5 := cell_regrown (show wr.cell? ⟨gq, k, none⟩ = some (.int .i64 (q.getD k 0)) by rw [(HGQ.out.kept hbr).cell, intsA_get (by rw [HQL.out]; exact hlt)])
      have C3 : Hid (∀ (z : Regrown), Calls Try.prog 20 #[.agg #[.slice v.ai N.ids.length v.ci, .slice v.ac N.costs.length v.cc, .slice v.al N.links.length v.cl], .int .i64 k] (grow (redrawn wr z.d) z.os) fun e w' => e = .returned (.int .i64 (q.getD k 0)) ∧ Below (grow (redrawn wr z.d) z.os).heap.size (grow (redrawn wr z.d) z.os) w') := fun z => refPort18 v N _ (HN.out.kept (hbx.trans ((below_regrown wr z.d z.os).mono hbx.size))) (by omega) R D q HS.out k hlt
      have hx0 : (0 : Int) ≤ (k : Int) := by omega
      have hx1 : (k : Int) < (N.ids.length : Int) := by omega
      clear hxc hyc HS HOK
      generalize R.getD k 0 = rk at *
      generalize D.getD k 0 = dk at *
      generalize q.getD k 0 = qk at *
      have e1 : ((rk : Int) == (rk : Int)) = true := by simp
      have e2 : (dk == dk) = true := by simp
      have e3 : (qk == qk) = true := by simp
      go_upto_region 15 with fail
      refine wp_region_mix 30 (by kernel_rfl) (by kernel_rfl) (by kernel_rfl) ?_
      (refine mix_step (by kernel_rfl) (by kernel_rfl) (fun K hK => ?_); go_simp; (try (simp only [↓IntWalk.iteOmega]; go_simp)); (first | (refine hK _ ?_; clear hK K) | (apply Exists.intro; refine ⟨fun _ => ?_, hK _ ?_⟩; (first | fail); clear hK K)))
      (refine mix_step (by kernel_rfl) (by kernel_rfl) (fun K hK => ?_); go_simp; (try (simp only [↓IntWalk.iteOmega]; go_simp)); (first | (refine hK _ ?_; clear hK K) | (apply Exists.intro; refine ⟨fun _ => ?_, hK _ ?_⟩; (first | fail); clear hK K)))
      (refine mix_step (by kernel_rfl) (by kernel_rfl) (fun K hK => ?_); go_simp; (try (simp only [↓IntWalk.iteOmega]; go_simp)); (first | (refine hK _ ?_; clear hK K) | (apply Exists.intro; refine ⟨fun _ => ?_, hK _ ?_⟩; (first | fail); clear hK K)))
      (refine mix_step (by kernel_rfl) (by kernel_rfl) (fun K hK => ?_); go_simp; (try (simp only [↓IntWalk.iteOmega]; go_simp)); (first | (refine hK _ ?_; clear hK K) | (apply Exists.intro; refine ⟨fun _ => ?_, hK _ ?_⟩; (first | fail); clear hK K)))
      (refine mix_step (by kernel_rfl) (by kernel_rfl) (fun K hK => ?_); go_simp; (try (simp only [↓IntWalk.iteOmega]; go_simp)); (first | (refine hK _ ?_; clear hK K) | (apply Exists.intro; refine ⟨fun _ => ?_, hK _ ?_⟩; (first | fail); clear hK K)))
      (refine mix_step (by kernel_rfl) (by kernel_rfl) (fun K hK => ?_); go_simp; (try (simp only [↓IntWalk.iteOmega]; go_simp)); (first | (refine hK _ ?_; clear hK K) | (apply Exists.intro; refine ⟨fun _ => ?_, hK _ ?_⟩; (first | fail); clear hK K)))
      (refine mix_step (by kernel_rfl) (by kernel_rfl) (fun K hK => ?_); go_simp; (try (simp only [↓IntWalk.iteOmega]; go_simp)); (first | (refine hK _ ?_; clear hK K) | (apply Exists.intro; refine ⟨fun _ => ?_, hK _ ?_⟩; (first | fail); clear hK K)))
      (refine mix_step (by kernel_rfl) (by kernel_rfl) (fun K hK => ?_); go_simp; (try (simp only [↓IntWalk.iteOmega]; go_simp)); (first | (refine hK _ ?_; clear hK K) | (apply Exists.intro; refine ⟨fun _ => ?_, hK _ ?_⟩; (first | fail); clear hK K)))
      (refine mix_step (by kernel_rfl) (by kernel_rfl) (fun K hK => ?_); go_simp; (try (simp only [↓IntWalk.iteOmega]; go_simp)); (first | (refine hK _ ?_; clear hK K) | (apply Exists.intro; refine ⟨fun _ => ?_, hK _ ?_⟩; (first | fail); clear hK K)))
      (refine mix_step (by kernel_rfl) (by kernel_rfl) (fun K hK => ?_); go_simp; (try (simp only [↓IntWalk.iteOmega]; go_simp)); (first | (refine hK _ ?_; clear hK K) | (apply Exists.intro; refine ⟨fun _ => ?_, hK _ ?_⟩; (first | fail); clear hK K)))
      (refine mix_step (by kernel_rfl) (by kernel_rfl) (fun K hK => ?_); go_simp; (try (simp only [↓IntWalk.iteOmega]; go_simp)); (first | (refine hK _ ?_; clear hK K) | (apply Exists.intro; refine ⟨fun _ => ?_, hK _ ?_⟩; (first | fail); clear hK K)))
      (refine mix_step (by kernel_rfl) (by kernel_rfl) (fun K hK => ?_); go_simp; (try (simp only [↓IntWalk.iteOmega]; go_simp)); (first | (refine hK _ ?_; clear hK K) | (apply Exists.intro; refine ⟨fun _ => ?_, hK _ ?_⟩; (first | fail); clear hK K)))
      (refine mix_step (by kernel_rfl) (by kernel_rfl) (fun K hK => ?_); go_simp; (try (simp only [↓IntWalk.iteOmega]; go_simp)); (first | (refine hK _ ?_; clear hK K) | (apply Exists.intro; refine ⟨fun _ => ?_, hK _ ?_⟩; (first | fail); clear hK K)))
      (refine mix_step (by kernel_rfl) (by kernel_rfl) (fun K hK => ?_); go_simp; (try (simp only [↓IntWalk.iteOmega]; go_simp)); (first | (refine hK _ ?_; clear hK K) | (apply Exists.intro; refine ⟨fun _ => ?_, hK _ ?_⟩; (first | fail); clear hK K)))
      (refine mix_step (by kernel_rfl) (by kernel_rfl) (fun K hK => ?_); go_simp; (try (simp only [↓IntWalk.iteOmega]; go_simp)); (first | (refine hK _ ?_; clear hK K) | (apply Exists.intro; refine ⟨fun _ => ?_, hK _ ?_⟩; (first | fail); clear hK K)))
      (refine mix_step (by kernel_rfl) (by kernel_rfl) (fun K hK => ?_); go_simp; (try (simp only [↓IntWalk.iteOmega]; go_simp)); (first | (refine hK _ ?_; clear hK K) | (apply Exists.intro; refine ⟨fun _ => ?_, hK _ ?_⟩; (first | fail); clear hK K)))
      (refine mix_step (by kernel_rfl) (by kernel_rfl) (fun K hK => ?_); go_simp; (try (simp only [↓IntWalk.iteOmega]; go_simp)); (first | (refine hK _ ?_; clear hK K) | (apply Exists.intro; refine ⟨fun _ => ?_, hK _ ?_⟩; (first | fail); clear hK K)))
      (refine mix_step (by kernel_rfl) (by kernel_rfl) (fun K hK => ?_); go_simp; (try (simp only [↓IntWalk.iteOmega]; go_simp)); (first | (refine hK _ ?_; clear hK K) | (apply Exists.intro; refine ⟨fun _ => ?_, hK _ ?_⟩; (first | fail); clear hK K)))
      (refine mix_step (by kernel_rfl) (by kernel_rfl) (fun K hK => ?_); go_simp; (try (simp only [↓IntWalk.iteOmega]; go_simp)); (first | (refine hK _ ?_; clear hK K) | (apply Exists.intro; refine ⟨fun _ => ?_, hK _ ?_⟩; (first | fail); clear hK K)))
      (refine mix_step (by kernel_rfl) (by kernel_rfl) (fun K hK => ?_); go_simp; (try (simp only [↓IntWalk.iteOmega]; go_simp)); (first | (refine hK _ ?_; clear hK K) | (apply Exists.intro; refine ⟨fun _ => ?_, hK _ ?_⟩; (first | fail); clear hK K)))
      (refine mix_step (by kernel_rfl) (by kernel_rfl) (fun K hK => ?_); go_simp; (try (simp only [↓IntWalk.iteOmega]; go_simp)); (first | (refine hK _ ?_; clear hK K) | (apply Exists.intro; refine ⟨fun _ => ?_, hK _ ?_⟩; (first | fail); clear hK K)))
      (refine mix_step (by kernel_rfl) (by kernel_rfl) (fun K hK => ?_); go_simp; (try (simp only [↓IntWalk.iteOmega]; go_simp)); (first | (refine hK _ ?_; clear hK K) | (apply Exists.intro; refine ⟨fun _ => ?_, hK _ ?_⟩; (first | fail); clear hK K)))
      (refine mix_step (by kernel_rfl) (by kernel_rfl) (fun K hK => ?_); go_simp; (try (simp only [↓IntWalk.iteOmega]; go_simp)); (first | (refine hK _ ?_; clear hK K) | (apply Exists.intro; refine ⟨fun _ => ?_, hK _ ?_⟩; (first | fail); clear hK K)))
      (refine mix_step (by kernel_rfl) (by kernel_rfl) (fun K hK => ?_); go_simp; (try (simp only [↓IntWalk.iteOmega]; go_simp)); (first | (refine hK _ ?_; clear hK K) | (apply Exists.intro; refine ⟨fun _ => ?_, hK _ ?_⟩; (first | fail); clear hK K)))
      (refine mix_step (by kernel_rfl) (by kernel_rfl) (fun K hK => ?_); go_simp; (try (simp only [↓IntWalk.iteOmega]; go_simp)); (first | (refine hK _ ?_; clear hK K) | (apply Exists.intro; refine ⟨fun _ => ?_, hK _ ?_⟩; (first | fail); clear hK K)))
      refine mix_exact (.agg #[.slice v.ai N.ids.length v.ci, .slice v.ac N.costs.length v.cc, .slice v.al N.links.length v.cl]) rfl (exact_load_row rfl rfl (by simp) R0'.out Try.underlying26 rfl (by kernel_rfl)) ?_
      (refine mix_step (by kernel_rfl) (by kernel_rfl) (fun K hK => ?_); go_simp; (try (simp only [↓IntWalk.iteOmega]; go_simp)); (first | (refine hK _ ?_; clear hK K) | (apply Exists.intro; refine ⟨fun _ => ?_, hK _ ?_⟩; (first | fail); clear hK K)))
      (refine mix_step (by kernel_rfl) (by kernel_rfl) (fun K hK => ?_); go_simp; (try (simp only [↓IntWalk.iteOmega]; go_simp)); (first | (refine hK _ ?_; clear hK K) | (apply Exists.intro; refine ⟨fun _ => ?_, hK _ ?_⟩; (first | exact C3.out _); clear hK K)))
      (refine mix_step (by kernel_rfl) (by kernel_rfl) (fun K hK => ?_); go_simp; (try (simp only [↓IntWalk.iteOmega]; go_simp)); (first | (refine hK _ ?_; clear hK K) | (apply Exists.intro; refine ⟨fun _ => ?_, hK _ ?_⟩; (first | fail); clear hK K)))
      (refine mix_step (by kernel_rfl) (by kernel_rfl) (fun K hK => ?_); go_simp; (try (simp only [↓IntWalk.iteOmega]; go_simp)); (first | (refine hK _ ?_; clear hK K) | (apply Exists.intro; refine ⟨fun _ => ?_, hK _ ?_⟩; (first | fail); clear hK K)))
      refine mix_nil ?_
      rintro ⟨dq, osq⟩
      have hb5 := below_regrown wr dq osq
      refine (show wpList _ _ _ _ _ _ from ?_)
      simp only [List.drop, Act.put, List.setIfInBounds_toArray, List.set]
      replace hbr := hbr.trans (hb5.mono hbr.size)
      clear f1 f2 f3 f4 f5 C3 hb5 R0' hbx e1 e2 e3
      generalize grow (redrawn wr dq) osq = w5 at *
      go_wp2_with fail
      exact ⟨⟨k + 1, by omega, by go_num, hbr⟩, by simp [intOf]; omega⟩
    · obtain rfl : k = N.ids.length := by omega
      replace hbW := hbW.trans (hbr.mono hbW.size)
      replace R0 := Lib.hid (R0.out.kept hbr)
      replace RM := Lib.hid (RM.out.kept hbr)
      replace HN6 := Lib.hid (HN6.out.kept hbr)
      clear hbr HGR HGD HGQ HIX HIY hlt hk
      have c1 : wr.cell? ⟨w.heap.size, 1, none⟩ = some (.slice v.ac N.costs.length v.cc) := R0.out.cell 1
      by_cases hb0 : b < 0
      · as_aux_lemma =>
        have d0 : decide (b < 0) = true := decide_eq_true hb0
        have HNO : Hid (N.has b p = false) := Bool.eq_false_iff.2 fun h => by have := (LN.has_iff.1 h).1; omega
        have HF := Lib.hid (forw_no v6 N b p wr HN6.out (by omega) (.inr HNO.out))
        go_wp2_with ((with_reducible refine at_load 32 (.tmp 7) ?_); refine wpList_load_own rfl 32 (.tmp 7) rfl M rfl _ _ _ RM.out Try.underlying32 rfl (by kernel_rfl) ?_)
        refine HF.out.mono ?_
        rintro e wz ⟨rfl, hbk⟩
        replace hbW := hbW.trans (hbk.mono hbW.size)
        clear hbk HF
        go_wp2_with fail
        go_ret
        exact ⟨rfl, hbW⟩
      have d0 : decide (b < 0) = false := decide_eq_false hb0
      by_cases hb1 : (N.costs.length : Int) ≤ b
      · as_aux_lemma =>
        have d1 : decide ((N.costs.length : Int) ≤ b) = true := decide_eq_true hb1
        have HNO : Hid (N.has b p = false) := Bool.eq_false_iff.2 fun h => by have := (LN.has_iff.1 h).2.1; omega
        have HF := Lib.hid (forw_no v6 N b p wr HN6.out (by omega) (.inr HNO.out))
        go_wp2_with ((with_reducible refine at_load 32 (.tmp 7) ?_); refine wpList_load_own rfl 32 (.tmp 7) rfl M rfl _ _ _ RM.out Try.underlying32 rfl (by kernel_rfl) ?_)
        refine HF.out.mono ?_
        rintro e wz ⟨rfl, hbk⟩
        replace hbW := hbW.trans (hbk.mono hbW.size)
        clear hbk HF
        go_wp2_with fail
        go_ret
        exact ⟨rfl, hbW⟩
      have d1 : decide ((N.costs.length : Int) ≤ b) = false := decide_eq_false hb1
      by_cases hp0 : p < 0
      · as_aux_lemma =>
        have d2 : decide (p < 0) = true := decide_eq_true hp0
        have HNO : Hid (N.has b p = false) := Bool.eq_false_iff.2 fun h => by have := (LN.has_iff.1 h).2.2.1; omega
        have HF := Lib.hid (forw_no v6 N b p wr HN6.out (by omega) (.inr HNO.out))
        go_wp2_with ((with_reducible refine at_load 32 (.tmp 7) ?_); refine wpList_load_own rfl 32 (.tmp 7) rfl M rfl _ _ _ RM.out Try.underlying32 rfl (by kernel_rfl) ?_)
        refine HF.out.mono ?_
        rintro e wz ⟨rfl, hbk⟩
        replace hbW := hbW.trans (hbk.mono hbW.size)
        clear hbk HF
        go_wp2_with fail
        go_ret
        exact ⟨rfl, hbW⟩
      have d2 : decide (p < 0) = false := decide_eq_false hp0
      obtain ⟨bn, rfl⟩ := Int.eq_ofNat_of_zero_le (show 0 ≤ b by omega)
      obtain ⟨pn, rfl⟩ := Int.eq_ofNat_of_zero_le (show 0 ≤ p by omega)
      obtain ⟨cb, coff, ca, cci, eac, hcel, hci⟩ := (HN.out.kept hbW).cs (show bn < N.costs.length by omega)
      clear c1
      have c1 : wr.cell? ⟨w.heap.size, 1, none⟩ = some (.slice (some ⟨cb, coff, none⟩) N.costs.length v.cc) := by rw [← eac]; exact R0.out.cell 1
      have hy0 : (0 : Int) ≤ (bn : Int) := by omega
      have hy1 : (bn : Int) < (N.costs.length : Int) := by omega
      clear eac hci
      by_cases hp1 : ((N.cs bn).length : Int) ≤ (pn : Int)
      · as_aux_lemma =>
        have d3 : decide (((N.cs bn).length : Int) ≤ (pn : Int)) = true := decide_eq_true hp1
        have HNO : Hid (N.has bn pn = false) := Bool.eq_false_iff.2 fun h => by have := (LN.has_iff.1 h).2.2.2; rw [Int.toNat_natCast] at this; omega
        have HF := Lib.hid (forw_no v6 N bn pn wr HN6.out (by omega) (.inr HNO.out))
        go_wp2_with ((with_reducible refine at_load 32 (.tmp 7) ?_); refine wpList_load_own rfl 32 (.tmp 7) rfl M rfl _ _ _ RM.out Try.underlying32 rfl (by kernel_rfl) ?_)
        refine HF.out.mono ?_
        rintro e wz ⟨rfl, hbk⟩
        replace hbW := hbW.trans (hbk.mono hbW.size)
        clear hbk HF
        go_wp2_with fail
        go_ret
        exact ⟨rfl, hbW⟩
      have d3 : decide (((N.cs bn).length : Int) ≤ (pn : Int)) = false := decide_eq_false hp1
      have hbn : bn < N.ids.length := by have := HLEN.out; omega
      have hpn : pn < (N.cs bn).length := by omega
      have hh : N.has bn pn = true := LN.has_iff.2 ⟨by omega, by omega, by omega, by rw [Int.toNat_natCast]; omega⟩
      go_upto_region 19 with fail
      have C4 : Hid (∀ (z : Regrown), Calls Try.prog 16 #[.agg #[.slice v6.ai N.ids.length v6.ci, .slice v6.ac N.costs.length v6.cc, .slice v6.al N.links.length v6.cl], .int .i64 bn, .int .i64 pn] (grow (redrawn wr z.d) z.os) fun e w' => e = .returned (.bool (forwB N D q bn pn)) ∧ Below (grow (redrawn wr z.d) z.os).heap.size (grow (redrawn wr z.d) z.os) w') := fun z => forw_yes v6 N bn pn _ (HN6.out.kept (below_regrown wr z.d z.os)) (by omega) HOK.out R HS.out.roots D HS.out.dist q HS.out.ports hh
      have C5 : Hid (∀ (z : Regrown), Calls Try.prog 21 #[.agg #[.slice v.ai N.ids.length v.ci, .slice v.ac N.costs.length v.cc, .slice v.al N.links.length v.cl], .int .i64 bn, .int .i64 pn] (grow (redrawn wr z.d) z.os) fun e w' => e = .returned (.bool (forwB N D q bn pn)) ∧ Below (grow (redrawn wr z.d) z.os).heap.size (grow (redrawn wr z.d) z.os) w') := fun z => refForw18 v N _ (HN.out.kept (hbW.trans ((below_regrown wr z.d z.os).mono hbW.size))) (by omega) R D q HS.out bn pn hbn hpn
      generalize forwB N D q bn pn = fb at *
      clear d0 d1 d2 d3 hb0 hb1 hp0 hp1 hh hbn hpn c1 hcel
      cases fb
      all_goals
        as_aux_lemma =>
        refine wp_region_mix 9 (by kernel_rfl) (by kernel_rfl) (by kernel_rfl) ?_
        refine mix_exact (.agg #[.slice v6.ai N.ids.length v6.ci, .slice v6.ac N.costs.length v6.cc, .slice v6.al N.links.length v6.cl]) rfl (exact_load_row rfl rfl (by simp) RM.out Try.underlying32 rfl (by kernel_rfl)) ?_
        (refine mix_step (by kernel_rfl) (by kernel_rfl) (fun K hK => ?_); go_simp; (try (simp only [↓IntWalk.iteOmega]; go_simp)); (first | (refine hK _ ?_; clear hK K) | (apply Exists.intro; refine ⟨fun _ => ?_, hK _ ?_⟩; (first | fail); clear hK K)))
        (refine mix_step (by kernel_rfl) (by kernel_rfl) (fun K hK => ?_); go_simp; (try (simp only [↓IntWalk.iteOmega]; go_simp)); (first | (refine hK _ ?_; clear hK K) | (apply Exists.intro; refine ⟨fun _ => ?_, hK _ ?_⟩; (first | fail); clear hK K)))
        (refine mix_step (by kernel_rfl) (by kernel_rfl) (fun K hK => ?_); go_simp; (try (simp only [↓IntWalk.iteOmega]; go_simp)); (first | (refine hK _ ?_; clear hK K) | (apply Exists.intro; refine ⟨fun _ => ?_, hK _ ?_⟩; (first | exact C4.out _); clear hK K)))
        refine mix_exact (.agg #[.slice v.ai N.ids.length v.ci, .slice v.ac N.costs.length v.cc, .slice v.al N.links.length v.cl]) rfl (exact_load_row rfl rfl (by simp) R0.out Try.underlying26 rfl (by kernel_rfl)) ?_
        (refine mix_step (by kernel_rfl) (by kernel_rfl) (fun K hK => ?_); go_simp; (try (simp only [↓IntWalk.iteOmega]; go_simp)); (first | (refine hK _ ?_; clear hK K) | (apply Exists.intro; refine ⟨fun _ => ?_, hK _ ?_⟩; (first | fail); clear hK K)))
        (refine mix_step (by kernel_rfl) (by kernel_rfl) (fun K hK => ?_); go_simp; (try (simp only [↓IntWalk.iteOmega]; go_simp)); (first | (refine hK _ ?_; clear hK K) | (apply Exists.intro; refine ⟨fun _ => ?_, hK _ ?_⟩; (first | fail); clear hK K)))
        (refine mix_step (by kernel_rfl) (by kernel_rfl) (fun K hK => ?_); go_simp; (try (simp only [↓IntWalk.iteOmega]; go_simp)); (first | (refine hK _ ?_; clear hK K) | (apply Exists.intro; refine ⟨fun _ => ?_, hK _ ?_⟩; (first | exact C5.out _); clear hK K)))
        (refine mix_step (by kernel_rfl) (by kernel_rfl) (fun K hK => ?_); go_simp; (try (simp only [↓IntWalk.iteOmega]; go_simp)); (first | (refine hK _ ?_; clear hK K) | (apply Exists.intro; refine ⟨fun _ => ?_, hK _ ?_⟩; (first | fail); clear hK K)))
        refine mix_nil ?_
        rintro ⟨dq, osq⟩
        have hb5 := below_regrown wr dq osq
        refine (show wpList _ _ _ _ _ _ from ?_)
        simp only [List.drop, Act.put, List.setIfInBounds_toArray, List.set]
        replace hbW := hbW.trans (hb5.mono hbW.size)
        generalize grow (redrawn wr dq) osq = w5 at *
        go_wp2_with fail
        go_ret
        exact ⟨rfl, hbW⟩
end Go.Proofs.Ytcmokhpnooldgaa
