/- No port over its limit, no station twice; the walk of LearnLimits. By an AI agent. -/
import Derived.Test.YtcdklbhfcfamnaaLearnSays
import Derived.Test.YtcdklbhfcfamnaaLearnClears
import Derived.Deep.OwnRows
namespace Go.Proofs.Ytcdklbhfcfamnaa
open Go.RowKit Go.MapKept Go.Maps Go.WideShapes Go.Sort Grow

/-! ### the plain law -/
theorem told_port (e : Ent) : e.told.port = e.port ∧ e.told.fixed = e.fixed := ⟨rfl, rfl⟩
theorem kept_told {n k : Nat} {L ds : List Ent} (h : Kept n k L) (hp : ds.Perm (L.map Ent.told)) : ∀ d ∈ ds, 0 ≤ d.port ∧ d.port < n := fun d hd => by
  obtain ⟨e, he, rfl⟩ := List.mem_map.1 (hp.mem_iff.1 hd)
  exact ⟨(h e he).1, (h e he).2.1⟩
theorem limited_told {lims : List Int} {L ds : List Ent} (h : Limited lims L) (hp : ds.Perm (L.map Ent.told)) : Limited lims ds := fun q hq => by
  rw [onN_perm hp, onN_map q Ent.told told_port]
  exact h q hq
theorem apart_told {L ds : List Ent} (hn : (L.map fun e => keyV e.v e.m).Nodup) (hp : ds.Perm (L.map Ent.told)) {i : Nat} (hi : i + 1 < ds.length) : ¬ (ds[i].v = ds[i + 1].v ∧ ds[i].m = ds[i + 1].m) := fun h => by
  have h1 : (ds.map fun e => keyV e.v e.m).Nodup := by
    refine (hp.map _).nodup_iff.2 ?_
    rw [List.map_map]
    exact hn
  have h2 := List.pairwise_iff_getElem.1 h1 i (i + 1) (by simp; omega) (by simp; omega) (by omega)
  simp only [List.getElem_map] at h2
  exact h2 (by rw [h.1, h.2])

/-- how many of the first k are on each port -/
def ontoL (n : Nat) (ds : List Ent) : List Value := (List.range n).map fun (q : Nat) => .int .i64 (onN (q : Int) ds : Nat)
theorem onto_get {n q : Nat} {ds : List Ent} (h : q < n) : (ontoL n ds)[q]? = some (.int .i64 (onN q ds : Nat)) := by simp [ontoL, h]
theorem onto_len {n : Nat} {ds : List Ent} : (ontoL n ds).length = n := by simp [ontoL]
theorem onto_nil (n : Nat) : madeCells #[Value.int .i64 0] n = (ontoL n []).toArray := by
  apply Array.ext_getElem?
  intro i
  by_cases h : i < n
  · simp [madeCells, ontoL, onN, h, Nat.mod_one]
  · simp [madeCells, ontoL, h]
theorem onto_next {n p : Nat} {ds : List Ent} {i : Nat} (hi : i < ds.length) (hp : ds[i].port = p) (hf : ds[i].fixed = false) : (ontoL n (ds.take i)).toArray.setIfInBounds p (.int .i64 ((onN p (ds.take i) : Nat) + 1)) = (ontoL n (ds.take (i + 1))).toArray := by
  rw [List.setIfInBounds_toArray]
  congr 1
  apply List.ext_getElem?
  intro j
  have hN : onN j (ds.take (i + 1)) = onN j (ds.take i) + (if (p : Int) == (j : Int) then 1 else 0) := by
    rw [List.take_add_one, List.getElem?_eq_getElem hi]
    show onN j (ds.take i ++ [ds[i]]) = _
    rw [onN_snoc, hp, hf]
    simp
  rw [List.getElem?_set]
  by_cases hj : j < n
  · rw [onto_get (ds := ds.take (i + 1)) hj, hN]
    by_cases hpj : p = j
    · subst hpj
      simp [onto_len, hj]
    · rw [if_neg hpj, onto_get hj]
      have : ¬ ((p : Int) = (j : Int)) := by omega
      simp [this]
  · have h1 : (ontoL n (ds.take i))[j]? = none := List.getElem?_eq_none (by rw [onto_len]; omega)
    have h2 : (ontoL n (ds.take (i + 1)))[j]? = none := List.getElem?_eq_none (by rw [onto_len]; omega)
    rw [h2]
    split
    · rename_i h
      subst h
      rw [if_neg (by rw [onto_len]; exact hj)]
    · exact h1
theorem onto_same {n : Nat} {ds : List Ent} {i : Nat} (hi : i < ds.length) (hf : ds[i].fixed = true) : ontoL n (ds.take (i + 1)) = ontoL n (ds.take i) := by
  unfold ontoL
  refine List.map_congr_left fun q _ => ?_
  rw [List.take_add_one, List.getElem?_eq_getElem hi]
  show Value.int .i64 ((onN q (ds.take i ++ [ds[i]]) : Nat) : Int) = _
  rw [onN_snoc, hf]
  simp
theorem onN_len (q : Int) (L : List Ent) : onN q L ≤ L.length := List.length_filter_le _ _
theorem int_info : (Try.prog.info? 3).map (fun i => (i.zero, i.size, i.bytes)) = some (some (.int .i64 0), 1, 8) := by kernel_rfl

set_option maxRecDepth 20000 in
set_option maxHeartbeats 8000000 in
theorem learnLimits_go (ageing : Int) (hag : 1 ≤ ageing ∧ ageing ≤ 1000000) (a0 : Option Addr) (zs : List Int) (cap0 : Nat) (a1 : Option Addr) (acts : List ActD) (cap1 : Nat) (w : World) (hz : zs.length ≤ 32) (hbad : anyBad zs = false) (ha : acts.length ≤ 80) (hA0 : IntsAt w a0 zs) (hA1 : ManyAt w a1 ActD.cells 10 acts) :
    Calls Try.prog 5 #[.int .i64 ageing, .slice a0 zs.length cap0, .slice a1 acts.length cap1] w fun e w' => e = .returned (.bool true) ∧ Below w.heap.size w w' := by
  have HA := Lib.hid hA1
  have HZ := Lib.hid hA0
  have g1 : ((acts.length : Int) > 80) = False := by simp; omega
  have g2 : ((zs.length : Int) > 100) = False := by simp; omega
  go_enter Try.func5, Try.ntmps5
  go_wp2_with fail
  refine (awake_any _).mono ?_
  rintro e w1 ⟨rfl, hbW⟩
  have HN := Lib.hid (new_ok ageing hag a0 zs cap0 w1 (hA0.after hbW) hz hbad)
  clear hA0 hA1
  go_wp2_with fail
  refine HN.out.mono ?_
  rintro e w2 ⟨T, M, rfl, hT, hb2⟩
  have hB1 := hbW.size
  have hbW := hbW.trans (hb2.mono hB1)
  clear hb2 HN
  generalize w1.heap.size = BB at *
  have hBM := hT.baseM
  have hMw : w.heap.size ≤ M := Nat.le_trans hB1 hBM
  have HT0 := Lib.hid hT
  clear hT g1 g2
  go_upto_region 6 with fail
  go_wp2_with fail
  go_loopw [9] (fun s9 wr => ∃ (i : Nat) (L : List Ent), i ≤ acts.length ∧ s9 = .int .i64 i ∧ L.length ≤ i ∧ Hid (TabIs BB T M wr ageing zs L) ∧ Hid (Kept zs.length i L) ∧ Hid (Limited zs L) ∧ Below w.heap.size w wr) (fun s9 _ => acts.length - (intOf s9).toNat)
  case atStart => exact ⟨0, [], Nat.zero_le _, rfl, Nat.zero_le _, HT0, (fun e he => by cases he), (fun q hq => by
    have h1 := hbad
    unfold anyBad at h1
    have h2 : zs.all okLim = true := by
      cases h : zs.all okLim
      · rw [h] at h1
        cases h1
      · rfl
    have h3 := List.all_eq_true.1 h2 _ (getD_mem' hq)
    unfold okLim at h3
    rw [decide_eq_true_eq] at h3
    show ((0 : Nat) : Int) ≤ _
    omega), hbW⟩
  case round =>
    clear hbW HT0
    rename_i wr
    obtain ⟨i, L, hi, rfl, hLi, HT, HK, HLim, hbW⟩ := hrel
    by_cases hlt : i < acts.length
    · obtain ⟨b, off, hao, hbl, hcell⟩ := (HA.out.later hbW).range hlt
      generalize acts[i] = x at hcell
      subst hao
      have HR := Lib.hid (show wr.rangeAt b (off + i * 10) [.int .u8 (x.x.toNat : Int), .int .i64 x.v, .int .i64 x.port, .int .i64 x.n, .int .u8 (x.m.a.toNat : Int), .int .u8 (x.m.b.toNat : Int), .int .u8 (x.m.c.toNat : Int), .int .u8 (x.m.d.toNat : Int), .int .u8 (x.m.e.toNat : Int), .int .u8 (x.m.f.toNat : Int)] from hcell)
      clear hcell
      go_upto_region 10 with ((with_reducible refine at_load 38 (.tmp 44) ?_); refine wpList_load_midW rfl 38 (.tmp 44) rfl b (off + i * 10) rfl [.int .u8 (x.x.toNat : Int), .int .i64 x.v, .int .i64 x.port, .int .i64 x.n, .int .u8 (x.m.a.toNat : Int), .int .u8 (x.m.b.toNat : Int), .int .u8 (x.m.c.toNat : Int), .int .u8 (x.m.d.toNat : Int), .int .u8 (x.m.e.toNat : Int), .int .u8 (x.m.f.toNat : Int)] _ HR.out Try.underlying38 rfl (by kernel_rfl) ?_)
      have hR3 := rowIs_new wr 38 [.int .u8 (x.x.toNat : Int), .int .i64 x.v, .int .i64 x.port, .int .i64 x.n, .int .u8 (x.m.a.toNat : Int), .int .u8 (x.m.b.toNat : Int), .int .u8 (x.m.c.toNat : Int), .int .u8 (x.m.d.toNat : Int), .int .u8 (x.m.e.toNat : Int), .int .u8 (x.m.f.toNat : Int)].toArray
      have hb3 : Below wr.heap.size wr (wr.alloc (.cells #[.int .u8 (x.x.toNat : Int), .int .i64 x.v, .int .i64 x.port, .int .i64 x.n, .int .u8 (x.m.a.toNat : Int), .int .u8 (x.m.b.toNat : Int), .int .u8 (x.m.c.toNat : Int), .int .u8 (x.m.d.toNat : Int), .int .u8 (x.m.e.toNat : Int), .int .u8 (x.m.f.toNat : Int)] 38)) := (Below.refl _ wr).alloc (Nat.le_refl _) _
      have HT3 := Lib.hid (HT.out.later hb3)
      have hbW3 := hbW.trans (hb3.mono hbW.size)
      have c0 := hR3.cell 0
      have c1 := hR3.cell 1
      have c2 := hR3.cell 2
      have HX := Lib.hid (range_of_row (off := 4) (sub := macCells x.m) hR3 rfl)
      clear hR3 hb3 HT hbW HR
      generalize hw3 : wr.alloc (.cells [.int .u8 (x.x.toNat : Int), .int .i64 x.v, .int .i64 x.port, .int .i64 x.n, .int .u8 (x.m.a.toNat : Int), .int .u8 (x.m.b.toNat : Int), .int .u8 (x.m.c.toNat : Int), .int .u8 (x.m.d.toNat : Int), .int .u8 (x.m.e.toNat : Int), .int .u8 (x.m.f.toNat : Int)].toArray 38) = w3 at *
      clear hw3
      change w3.cell? _ = some (.int .u8 (x.x.toNat : Int)) at c0
      change w3.cell? _ = some (.int .i64 x.v) at c1
      change w3.cell? _ = some (.int .i64 x.port) at c2
      go_upto_if 49 with fail
      go_cut [9] (fun v wx => v = .int .i64 i ∧ ∃ L', L'.length ≤ i + 1 ∧ Hid (TabIs BB T M wx ageing zs L') ∧ Hid (Kept zs.length (i + 1) L') ∧ Hid (Limited zs L') ∧ Below w.heap.size w wx)
      case first =>
        by_cases h2 : (x.x.toNat : Int) % 2 = 0
        · have HL := Lib.hid (learn_says BB T M ageing zs L x.v x.m x.port w3 HT3.out (by omega) (by omega))
          go_wp2_with ((with_reducible refine at_load 23 (.tmp 53) ?_); refine wpList_load_midW rfl 23 (.tmp 53) rfl wr.heap.size 4 rfl (macCells x.m) _ HX.out Try.underlying23 rfl (by kernel_rfl) ?_)
          refine HL.out.mono ?_
          rintro r w4 ⟨rfl, L', hT4, hg4, hor⟩
          have hbW4 := hbW3.grown hg4 hbW3.size (fun k e => by
            cases e
            exact hMw)
          have HT4 := Lib.hid hT4
          have HF : Hid (L'.length ≤ i + 1 ∧ Kept zs.length (i + 1) L' ∧ Limited zs L') := by
            rcases hor with ⟨h0, hp⟩ | ⟨_, rfl⟩
            · obtain ⟨q, hq, hql⟩ := mayN_port (learnN_may h0)
              rw [hq] at hp h0
              exact ⟨by rw [hp.length_eq, List.length_cons]; have := others_len x.v x.m L; omega, kept_put hql HK.out hp, limited_learn HLim.out h0 hp⟩
            · exact ⟨by omega, kept_up HK.out, HLim.out⟩
          clear hT4 hg4 hor HL
          go_wp2_with fail
          go_meet
          exact ⟨rfl, L', HF.out.1, HT4, HF.out.2.1, HF.out.2.2, hbW4⟩
        · by_cases h5 : (x.x.toNat : Int) % 8 = 5
          · have HTK := Lib.hid (tick_any BB T M ageing zs L w3 HT3.out (by omega) (fun e he => ⟨(HK.out e he).2.2.1, by have := (HK.out e he).2.2.2; omega⟩))
            go_wp2_with fail
            refine HTK.out.mono ?_
            rintro r w4 ⟨⟨v, rfl⟩, hT4, hg4⟩
            have hbW4 := hbW3.grown hg4 hbW3.size (fun k e => by
              cases e
              exact hMw)
            have HT4 := Lib.hid hT4
            clear hT4 hg4 HTK
            go_wp2_with fail
            go_meet
            exact ⟨rfl, _, Nat.le_succ_of_le (Nat.le_trans (tick_len ageing L) hLi), HT4, kept_tick ageing HK.out, limited_tick ageing HLim.out, hbW4⟩
          · have HL := Lib.hid (fix_says BB T M ageing zs L x.v x.m x.port w3 HT3.out)
            go_wp2_with ((with_reducible refine at_load 23 (.tmp 67) ?_); refine wpList_load_midW rfl 23 (.tmp 67) rfl wr.heap.size 4 rfl (macCells x.m) _ HX.out Try.underlying23 rfl (by kernel_rfl) ?_)
            refine HL.out.mono ?_
            rintro r w4 ⟨rfl, L', hT4, hg4, hor⟩
            have hbW4 := hbW3.grown hg4 hbW3.size (fun k e => by
              cases e
              exact hMw)
            have HT4 := Lib.hid hT4
            have HF : Hid (L'.length ≤ i + 1 ∧ Kept zs.length (i + 1) L' ∧ Limited zs L') := by
              rcases hor with ⟨h0, hp⟩ | ⟨_, rfl⟩
              · obtain ⟨q, hq, hql⟩ := mayN_port h0
                rw [hq] at hp
                exact ⟨by rw [hp.length_eq, List.length_cons]; have := others_len x.v x.m L; omega, kept_put hql HK.out hp, limited_fix HLim.out hp⟩
              · exact ⟨by omega, kept_up HK.out, HLim.out⟩
            clear hT4 hg4 hor HL
            go_wp2_with fail
            go_meet
            exact ⟨rfl, L', HF.out.1, HT4, HF.out.2.1, HF.out.2.2, hbW4⟩
      case rest =>
        clear c0 c1 c2 HX HT3 hbW3 HK HLim hLi
        obtain ⟨rfl, L', hLi, HT, HK, HLim, hbW⟩ := hcut
        generalize wc = w5 at *
        have H := Lib.hid (all_any BB T M ageing zs L' w5 HT.out (by omega))
        go_wp2_with fail
        refine H.out.mono ?_
        rintro r w6 ⟨ao, ds, cap, rfl, hp, hs, hh, hb6⟩
        have hbW := hbW.trans (hb6.mono hbW.size)
        have hs6 : w.heap.size ≤ w6.heap.size := hbW.size
        have HD := Lib.hid (many_of_holds hh)
        have HT6 := Lib.hid (HT.out.later hb6)
        have HKd := Lib.hid (kept_told HK.out hp)
        have HLd := Lib.hid (limited_told HLim.out hp)
        have HAp : Hid (∀ (i : Nat) (hi : i + 1 < ds.length), ¬ (ds[i].v = ds[i + 1].v ∧ ds[i].m = ds[i + 1].m)) := fun i hi => apart_told (tab_nodup HT.out) hp hi
        have hdl : ds.length ≤ 81 := by rw [hp.length_eq, List.length_map]; omega
        have hmk : ∀ w : World, (Instr.makeSlice 30 (.int .i64 (zs.length : Nat)) (.int .i64 (zs.length : Nat))).run Try.prog w = .ok (.slice (some ⟨w.heap.size, 0, none⟩) (zs.length : Nat) (zs.length : Nat)) (w.alloc (.cells (ontoL zs.length []).toArray 3)) := fun w => by
          rw [← onto_nil]
          exact Go.run_make_row' (P := Try.prog) 30 3 (.int .i64 0) 8 Try.underlying30 int_info rfl .i64 .i64 zs.length (by omega) (by omega) w
        have HO := Lib.hid (rowIs_new w6 3 (ontoL zs.length []).toArray)
        clear hh hb6 HT H hp hs
        go_upto_region 17 with fail
        generalize hw7 : w6.alloc (.cells (ontoL zs.length []).toArray 3) = w7 at *
        have hb7 : Below w6.heap.size w6 w7 := by
          rw [← hw7]
          exact (Below.refl _ w6).alloc (Nat.le_refl _) _
        have hbW := hbW.trans (hb7.mono hbW.size)
        clear hw7 hmk
        go_wp2_with fail
        go_loopw [13] (fun s13 wx => ∃ k : Nat, k ≤ ds.length ∧ s13 = .int .i64 k ∧ Hid (RowIs wx w6.heap.size 3 (ontoL zs.length (ds.take k)).toArray) ∧ Below w6.heap.size w6 wx ∧ Below w.heap.size w wx) (fun s13 _ => ds.length - (intOf s13).toNat)
        case atStart => exact ⟨0, Nat.zero_le _, rfl, HO, hb7, hbW⟩
        case round =>
          clear hbW HO hb7
          rename World => wx
          obtain ⟨k, hk, rfl, HO, hb7, hbW⟩ := hrel
          by_cases hkl : k < ds.length
          · have HDx := Lib.hid (HD.out.later hb7)
            obtain ⟨b, off, hao, hbl, hcell⟩ := HDx.out.range hkl
            have hp0 := HKd.out ds[k] (List.getElem_mem hkl)
            obtain ⟨p, hp⟩ : ∃ p : Nat, ds[k].port = (p : Int) := ⟨ds[k].port.toNat, by omega⟩
            have hpn : p < zs.length := by omega
            rw [hp] at hp0
            have HR := Lib.hid (show wx.rangeAt b (off + k * 10) (encE ds[k]) from hcell)
            have HRm : Hid (wx.rangeAt b (off + k * 10 + 3) (macCells ds[k].m)) := fun j v hj => by
              have h := hcell (3 + j) v (by rcases j with _ | _ | _ | _ | _ | _ | j <;> first | exact hj | (simp [macCells] at hj))
              rw [← Nat.add_assoc] at h
              exact h
            have HHp := Lib.hid hp
            subst hao
            have gp1 : decide ((p : Int) < 0) = false := decide_eq_false (by omega)
            have gq1 : decide ((zs.length : Int) ≤ (p : Int)) = false := decide_eq_false (by omega)
            have gq2 : ((p : Int) ≥ (zs.length : Int)) = False := eq_false (by omega)
            clear hcell hp0
            go_upto_region 20 with fail
            go_cut [130] (fun v wy => v = .bool false ∧ Below wx.heap.size wx wy)
            case first =>
              have c0 : wx.cell? ⟨b, off + k * 10, none⟩ = some (.int .i64 ds[k].v) := HR.out 0 _ rfl
              have c1 : wx.cell? ⟨b, off + k * 10 + 1, none⟩ = some (.int .i64 ds[k].port) := HR.out 1 _ rfl
              rw [HHp.out] at c1
              rcases Nat.eq_zero_or_pos k with h0 | h0
              · subst h0
                have k0 := cell_regrown c0
                have k1 := cell_regrown c1
                clear c0 c1
                refine wp_region_mix 48 (by kernel_rfl) (by kernel_rfl) (by kernel_rfl) ?_
                (refine mix_step (by kernel_rfl) (by kernel_rfl) (fun K hK => ?_); go_simp; (try (simp only [↓IntWalk.iteOmega]; go_simp)); (first | (refine hK _ ?_; clear hK K) | (apply Exists.intro; refine ⟨fun _ => ?_, hK _ ?_⟩; (first | fail); clear hK K)))
                (refine mix_step (by kernel_rfl) (by kernel_rfl) (fun K hK => ?_); go_simp; (try (simp only [↓IntWalk.iteOmega]; go_simp)); (first | (refine hK _ ?_; clear hK K) | (apply Exists.intro; refine ⟨fun _ => ?_, hK _ ?_⟩; (first | fail); clear hK K)))
                (refine mix_step (by kernel_rfl) (by kernel_rfl) (fun K hK => ?_); go_simp; (try (simp only [↓IntWalk.iteOmega]; go_simp)); (first | (refine hK _ ?_; clear hK K) | (apply Exists.intro; refine ⟨fun _ => ?_, hK _ ?_⟩; (first | fail); clear hK K)))
                (refine mix_step (by kernel_rfl) (by kernel_rfl) (fun K hK => ?_); go_simp; (try (simp only [↓IntWalk.iteOmega]; go_simp)); (first | (refine hK _ ?_; clear hK K) | (apply Exists.intro; refine ⟨fun _ => ?_, hK _ ?_⟩; (first | fail); clear hK K)))
                (refine mix_step (by kernel_rfl) (by kernel_rfl) (fun K hK => ?_); go_simp; (try (simp only [↓IntWalk.iteOmega]; go_simp)); (first | (refine hK _ ?_; clear hK K) | (apply Exists.intro; refine ⟨fun _ => ?_, hK _ ?_⟩; (first | fail); clear hK K)))
                (refine mix_step (by kernel_rfl) (by kernel_rfl) (fun K hK => ?_); go_simp; (try (simp only [↓IntWalk.iteOmega]; go_simp)); (first | (refine hK _ ?_; clear hK K) | (apply Exists.intro; refine ⟨fun _ => ?_, hK _ ?_⟩; (first | fail); clear hK K)))
                (refine mix_step (by kernel_rfl) (by kernel_rfl) (fun K hK => ?_); go_simp; (try (simp only [↓IntWalk.iteOmega]; go_simp)); (first | (refine hK _ ?_; clear hK K) | (apply Exists.intro; refine ⟨fun _ => ?_, hK _ ?_⟩; (first | fail); clear hK K)))
                (refine mix_step (by kernel_rfl) (by kernel_rfl) (fun K hK => ?_); go_simp; (try (simp only [↓IntWalk.iteOmega]; go_simp)); (first | (refine hK _ ?_; clear hK K) | (apply Exists.intro; refine ⟨fun _ => ?_, hK _ ?_⟩; (first | fail); clear hK K)))
                (refine mix_step (by kernel_rfl) (by kernel_rfl) (fun K hK => ?_); go_simp; (try (simp only [↓IntWalk.iteOmega]; go_simp)); (first | (refine hK _ ?_; clear hK K) | (apply Exists.intro; refine ⟨fun _ => ?_, hK _ ?_⟩; (first | fail); clear hK K)))
                (refine mix_step (by kernel_rfl) (by kernel_rfl) (fun K hK => ?_); go_simp; (try (simp only [↓IntWalk.iteOmega]; go_simp)); (first | (refine hK _ ?_; clear hK K) | (apply Exists.intro; refine ⟨fun _ => ?_, hK _ ?_⟩; (first | fail); clear hK K)))
                (refine mix_step (by kernel_rfl) (by kernel_rfl) (fun K hK => ?_); go_simp; (try (simp only [↓IntWalk.iteOmega]; go_simp)); (first | (refine hK _ ?_; clear hK K) | (apply Exists.intro; refine ⟨fun _ => ?_, hK _ ?_⟩; (first | fail); clear hK K)))
                (refine mix_step (by kernel_rfl) (by kernel_rfl) (fun K hK => ?_); go_simp; (try (simp only [↓IntWalk.iteOmega]; go_simp)); (first | (refine hK _ ?_; clear hK K) | (apply Exists.intro; refine ⟨fun _ => ?_, hK _ ?_⟩; (first | fail); clear hK K)))
                (refine mix_step (by kernel_rfl) (by kernel_rfl) (fun K hK => ?_); go_simp; (try (simp only [↓IntWalk.iteOmega]; go_simp)); (first | (refine hK _ ?_; clear hK K) | (apply Exists.intro; refine ⟨fun _ => ?_, hK _ ?_⟩; (first | fail); clear hK K)))
                (refine mix_step (by kernel_rfl) (by kernel_rfl) (fun K hK => ?_); go_simp; (try (simp only [↓IntWalk.iteOmega]; go_simp)); (first | (refine hK _ ?_; clear hK K) | (apply Exists.intro; refine ⟨fun _ => ?_, hK _ ?_⟩; (first | fail); clear hK K)))
                (refine mix_step (by kernel_rfl) (by kernel_rfl) (fun K hK => ?_); go_simp; (try (simp only [↓IntWalk.iteOmega]; go_simp)); (first | (refine hK _ ?_; clear hK K) | (apply Exists.intro; refine ⟨fun _ => ?_, hK _ ?_⟩; (first | fail); clear hK K)))
                (refine mix_step (by kernel_rfl) (by kernel_rfl) (fun K hK => ?_); go_simp; (try (simp only [↓IntWalk.iteOmega]; go_simp)); (first | (refine hK _ ?_; clear hK K) | (apply Exists.intro; refine ⟨fun _ => ?_, hK _ ?_⟩; (first | fail); clear hK K)))
                (refine mix_step (by kernel_rfl) (by kernel_rfl) (fun K hK => ?_); go_simp; (try (simp only [↓IntWalk.iteOmega]; go_simp)); (first | (refine hK _ ?_; clear hK K) | (apply Exists.intro; refine ⟨fun _ => ?_, hK _ ?_⟩; (first | fail); clear hK K)))
                (refine mix_step (by kernel_rfl) (by kernel_rfl) (fun K hK => ?_); go_simp; (try (simp only [↓IntWalk.iteOmega]; go_simp)); (first | (refine hK _ ?_; clear hK K) | (apply Exists.intro; refine ⟨fun _ => ?_, hK _ ?_⟩; (first | fail); clear hK K)))
                (refine mix_step (by kernel_rfl) (by kernel_rfl) (fun K hK => ?_); go_simp; (try (simp only [↓IntWalk.iteOmega]; go_simp)); (first | (refine hK _ ?_; clear hK K) | (apply Exists.intro; refine ⟨fun _ => ?_, hK _ ?_⟩; (first | fail); clear hK K)))
                (refine mix_step (by kernel_rfl) (by kernel_rfl) (fun K hK => ?_); go_simp; (try (simp only [↓IntWalk.iteOmega]; go_simp)); (first | (refine hK _ ?_; clear hK K) | (apply Exists.intro; refine ⟨fun _ => ?_, hK _ ?_⟩; (first | fail); clear hK K)))
                (refine mix_step (by kernel_rfl) (by kernel_rfl) (fun K hK => ?_); go_simp; (try (simp only [↓IntWalk.iteOmega]; go_simp)); (first | (refine hK _ ?_; clear hK K) | (apply Exists.intro; refine ⟨fun _ => ?_, hK _ ?_⟩; (first | fail); clear hK K)))
                (refine mix_step (by kernel_rfl) (by kernel_rfl) (fun K hK => ?_); go_simp; (try (simp only [↓IntWalk.iteOmega]; go_simp)); (first | (refine hK _ ?_; clear hK K) | (apply Exists.intro; refine ⟨fun _ => ?_, hK _ ?_⟩; (first | fail); clear hK K)))
                (refine mix_step (by kernel_rfl) (by kernel_rfl) (fun K hK => ?_); go_simp; (try (simp only [↓IntWalk.iteOmega]; go_simp)); (first | (refine hK _ ?_; clear hK K) | (apply Exists.intro; refine ⟨fun _ => ?_, hK _ ?_⟩; (first | fail); clear hK K)))
                (refine mix_step (by kernel_rfl) (by kernel_rfl) (fun K hK => ?_); go_simp; (try (simp only [↓IntWalk.iteOmega]; go_simp)); (first | (refine hK _ ?_; clear hK K) | (apply Exists.intro; refine ⟨fun _ => ?_, hK _ ?_⟩; (first | fail); clear hK K)))
                (refine mix_step (by kernel_rfl) (by kernel_rfl) (fun K hK => ?_); go_simp; (try (simp only [↓IntWalk.iteOmega]; go_simp)); (first | (refine hK _ ?_; clear hK K) | (apply Exists.intro; refine ⟨fun _ => ?_, hK _ ?_⟩; (first | fail); clear hK K)))
                (refine mix_step (by kernel_rfl) (by kernel_rfl) (fun K hK => ?_); go_simp; (try (simp only [↓IntWalk.iteOmega]; go_simp)); (first | (refine hK _ ?_; clear hK K) | (apply Exists.intro; refine ⟨fun _ => ?_, hK _ ?_⟩; (first | fail); clear hK K)))
                (refine mix_step (by kernel_rfl) (by kernel_rfl) (fun K hK => ?_); go_simp; (try (simp only [↓IntWalk.iteOmega]; go_simp)); (first | (refine hK _ ?_; clear hK K) | (apply Exists.intro; refine ⟨fun _ => ?_, hK _ ?_⟩; (first | fail); clear hK K)))
                (refine mix_step (by kernel_rfl) (by kernel_rfl) (fun K hK => ?_); go_simp; (try (simp only [↓IntWalk.iteOmega]; go_simp)); (first | (refine hK _ ?_; clear hK K) | (apply Exists.intro; refine ⟨fun _ => ?_, hK _ ?_⟩; (first | fail); clear hK K)))
                (refine mix_step (by kernel_rfl) (by kernel_rfl) (fun K hK => ?_); go_simp; (try (simp only [↓IntWalk.iteOmega]; go_simp)); (first | (refine hK _ ?_; clear hK K) | (apply Exists.intro; refine ⟨fun _ => ?_, hK _ ?_⟩; (first | fail); clear hK K)))
                (refine mix_step (by kernel_rfl) (by kernel_rfl) (fun K hK => ?_); go_simp; (try (simp only [↓IntWalk.iteOmega]; go_simp)); (first | (refine hK _ ?_; clear hK K) | (apply Exists.intro; refine ⟨fun _ => ?_, hK _ ?_⟩; (first | fail); clear hK K)))
                (refine mix_step (by kernel_rfl) (by kernel_rfl) (fun K hK => ?_); go_simp; (try (simp only [↓IntWalk.iteOmega]; go_simp)); (first | (refine hK _ ?_; clear hK K) | (apply Exists.intro; refine ⟨fun _ => ?_, hK _ ?_⟩; (first | fail); clear hK K)))
                (refine mix_step (by kernel_rfl) (by kernel_rfl) (fun K hK => ?_); go_simp; (try (simp only [↓IntWalk.iteOmega]; go_simp)); (first | (refine hK _ ?_; clear hK K) | (apply Exists.intro; refine ⟨fun _ => ?_, hK _ ?_⟩; (first | fail); clear hK K)))
                (refine mix_step (by kernel_rfl) (by kernel_rfl) (fun K hK => ?_); go_simp; (try (simp only [↓IntWalk.iteOmega]; go_simp)); (first | (refine hK _ ?_; clear hK K) | (apply Exists.intro; refine ⟨fun _ => ?_, hK _ ?_⟩; (first | fail); clear hK K)))
                (refine mix_step (by kernel_rfl) (by kernel_rfl) (fun K hK => ?_); go_simp; (try (simp only [↓IntWalk.iteOmega]; go_simp)); (first | (refine hK _ ?_; clear hK K) | (apply Exists.intro; refine ⟨fun _ => ?_, hK _ ?_⟩; (first | fail); clear hK K)))
                (refine mix_step (by kernel_rfl) (by kernel_rfl) (fun K hK => ?_); go_simp; (try (simp only [↓IntWalk.iteOmega]; go_simp)); (first | (refine hK _ ?_; clear hK K) | (apply Exists.intro; refine ⟨fun _ => ?_, hK _ ?_⟩; (first | fail); clear hK K)))
                (refine mix_step (by kernel_rfl) (by kernel_rfl) (fun K hK => ?_); go_simp; (try (simp only [↓IntWalk.iteOmega]; go_simp)); (first | (refine hK _ ?_; clear hK K) | (apply Exists.intro; refine ⟨fun _ => ?_, hK _ ?_⟩; (first | fail); clear hK K)))
                (refine mix_step (by kernel_rfl) (by kernel_rfl) (fun K hK => ?_); go_simp; (try (simp only [↓IntWalk.iteOmega]; go_simp)); (first | (refine hK _ ?_; clear hK K) | (apply Exists.intro; refine ⟨fun _ => ?_, hK _ ?_⟩; (first | fail); clear hK K)))
                (refine mix_step (by kernel_rfl) (by kernel_rfl) (fun K hK => ?_); go_simp; (try (simp only [↓IntWalk.iteOmega]; go_simp)); (first | (refine hK _ ?_; clear hK K) | (apply Exists.intro; refine ⟨fun _ => ?_, hK _ ?_⟩; (first | fail); clear hK K)))
                (refine mix_step (by kernel_rfl) (by kernel_rfl) (fun K hK => ?_); go_simp; (try (simp only [↓IntWalk.iteOmega]; go_simp)); (first | (refine hK _ ?_; clear hK K) | (apply Exists.intro; refine ⟨fun _ => ?_, hK _ ?_⟩; (first | fail); clear hK K)))
                (refine mix_step (by kernel_rfl) (by kernel_rfl) (fun K hK => ?_); go_simp; (try (simp only [↓IntWalk.iteOmega]; go_simp)); (first | (refine hK _ ?_; clear hK K) | (apply Exists.intro; refine ⟨fun _ => ?_, hK _ ?_⟩; (first | fail); clear hK K)))
                (refine mix_step (by kernel_rfl) (by kernel_rfl) (fun K hK => ?_); go_simp; (try (simp only [↓IntWalk.iteOmega]; go_simp)); (first | (refine hK _ ?_; clear hK K) | (apply Exists.intro; refine ⟨fun _ => ?_, hK _ ?_⟩; (first | fail); clear hK K)))
                (refine mix_step (by kernel_rfl) (by kernel_rfl) (fun K hK => ?_); go_simp; (try (simp only [↓IntWalk.iteOmega]; go_simp)); (first | (refine hK _ ?_; clear hK K) | (apply Exists.intro; refine ⟨fun _ => ?_, hK _ ?_⟩; (first | fail); clear hK K)))
                (refine mix_step (by kernel_rfl) (by kernel_rfl) (fun K hK => ?_); go_simp; (try (simp only [↓IntWalk.iteOmega]; go_simp)); (first | (refine hK _ ?_; clear hK K) | (apply Exists.intro; refine ⟨fun _ => ?_, hK _ ?_⟩; (first | fail); clear hK K)))
                (refine mix_step (by kernel_rfl) (by kernel_rfl) (fun K hK => ?_); go_simp; (try (simp only [↓IntWalk.iteOmega]; go_simp)); (first | (refine hK _ ?_; clear hK K) | (apply Exists.intro; refine ⟨fun _ => ?_, hK _ ?_⟩; (first | fail); clear hK K)))
                (refine mix_step (by kernel_rfl) (by kernel_rfl) (fun K hK => ?_); go_simp; (try (simp only [↓IntWalk.iteOmega]; go_simp)); (first | (refine hK _ ?_; clear hK K) | (apply Exists.intro; refine ⟨fun _ => ?_, hK _ ?_⟩; (first | fail); clear hK K)))
                (refine mix_step (by kernel_rfl) (by kernel_rfl) (fun K hK => ?_); go_simp; (try (simp only [↓IntWalk.iteOmega]; go_simp)); (first | (refine hK _ ?_; clear hK K) | (apply Exists.intro; refine ⟨fun _ => ?_, hK _ ?_⟩; (first | fail); clear hK K)))
                (refine mix_step (by kernel_rfl) (by kernel_rfl) (fun K hK => ?_); go_simp; (try (simp only [↓IntWalk.iteOmega]; go_simp)); (first | (refine hK _ ?_; clear hK K) | (apply Exists.intro; refine ⟨fun _ => ?_, hK _ ?_⟩; (first | fail); clear hK K)))
                (refine mix_step (by kernel_rfl) (by kernel_rfl) (fun K hK => ?_); go_simp; (try (simp only [↓IntWalk.iteOmega]; go_simp)); (first | (refine hK _ ?_; clear hK K) | (apply Exists.intro; refine ⟨fun _ => ?_, hK _ ?_⟩; (first | fail); clear hK K)))
                refine mix_nil ?_
                rintro ⟨dr, osr⟩
                have hb8 := below_regrown wx dr osr
                refine (show wpList _ _ _ _ _ _ from ?_)
                simp only [List.drop, Act.put, List.setIfInBounds_toArray, List.set]
                go_wp2_with fail
                go_meet
                exact ⟨rfl, hb8⟩
              · obtain ⟨j, rfl⟩ : ∃ j, k = j + 1 := ⟨k - 1, by omega⟩
                have hjl : j < ds.length := by omega
                obtain ⟨b', off', hao', hbl', hcell'⟩ := HDx.out.range hjl
                cases hao'
                have HR' := Lib.hid (show wx.rangeAt b (off + j * 10) (encE ds[j]) from hcell')
                have HRm' : Hid (wx.rangeAt b (off + j * 10 + 3) (macCells ds[j].m)) := fun t v ht => by
                  have h := hcell' (3 + t) v (by rcases t with _ | _ | _ | _ | _ | _ | t <;> first | exact ht | (simp [macCells] at ht))
                  rw [← Nat.add_assoc] at h
                  exact h
                have c2 : wx.cell? ⟨b, off + j * 10, none⟩ = some (.int .i64 ds[j].v) := HR'.out 0 _ rfl
                have HNE := Lib.hid (HAp.out j hkl)
                have gj1 : ((j : Int) < (ds.length : Int)) = True := eq_true (by omega)
                have gj2 : IntKind.i64.wrap (j : Int) = (j : Int) := by first | go_num | (unfold IntKind.wrap; simp [IntKind.bits, IntKind.signed]; omega)
                clear hcell' HHp hp
                generalize ds[j + 1] = d at *
                generalize ds[j] = d' at *
                have k0 := cell_regrown c0
                have k1 := cell_regrown c1
                have k2 := cell_regrown c2
                clear c0 c1 c2
                cases hv : d'.v == d.v
                · refine wp_region_mix 48 (by kernel_rfl) (by kernel_rfl) (by kernel_rfl) ?_
                  (refine mix_step (by kernel_rfl) (by kernel_rfl) (fun K hK => ?_); go_simp; (try (simp only [↓IntWalk.iteOmega]; go_simp)); (first | (refine hK _ ?_; clear hK K) | (apply Exists.intro; refine ⟨fun _ => ?_, hK _ ?_⟩; (first | fail); clear hK K)))
                  (refine mix_step (by kernel_rfl) (by kernel_rfl) (fun K hK => ?_); go_simp; (try (simp only [↓IntWalk.iteOmega]; go_simp)); (first | (refine hK _ ?_; clear hK K) | (apply Exists.intro; refine ⟨fun _ => ?_, hK _ ?_⟩; (first | fail); clear hK K)))
                  (refine mix_step (by kernel_rfl) (by kernel_rfl) (fun K hK => ?_); go_simp; (try (simp only [↓IntWalk.iteOmega]; go_simp)); (first | (refine hK _ ?_; clear hK K) | (apply Exists.intro; refine ⟨fun _ => ?_, hK _ ?_⟩; (first | fail); clear hK K)))
                  (refine mix_step (by kernel_rfl) (by kernel_rfl) (fun K hK => ?_); go_simp; (try (simp only [↓IntWalk.iteOmega]; go_simp)); (first | (refine hK _ ?_; clear hK K) | (apply Exists.intro; refine ⟨fun _ => ?_, hK _ ?_⟩; (first | fail); clear hK K)))
                  (refine mix_step (by kernel_rfl) (by kernel_rfl) (fun K hK => ?_); go_simp; (try (simp only [↓IntWalk.iteOmega]; go_simp)); (first | (refine hK _ ?_; clear hK K) | (apply Exists.intro; refine ⟨fun _ => ?_, hK _ ?_⟩; (first | fail); clear hK K)))
                  (refine mix_step (by kernel_rfl) (by kernel_rfl) (fun K hK => ?_); go_simp; (try (simp only [↓IntWalk.iteOmega]; go_simp)); (first | (refine hK _ ?_; clear hK K) | (apply Exists.intro; refine ⟨fun _ => ?_, hK _ ?_⟩; (first | fail); clear hK K)))
                  (refine mix_step (by kernel_rfl) (by kernel_rfl) (fun K hK => ?_); go_simp; (try (simp only [↓IntWalk.iteOmega]; go_simp)); (first | (refine hK _ ?_; clear hK K) | (apply Exists.intro; refine ⟨fun _ => ?_, hK _ ?_⟩; (first | fail); clear hK K)))
                  (refine mix_step (by kernel_rfl) (by kernel_rfl) (fun K hK => ?_); go_simp; (try (simp only [↓IntWalk.iteOmega]; go_simp)); (first | (refine hK _ ?_; clear hK K) | (apply Exists.intro; refine ⟨fun _ => ?_, hK _ ?_⟩; (first | fail); clear hK K)))
                  (refine mix_step (by kernel_rfl) (by kernel_rfl) (fun K hK => ?_); go_simp; (try (simp only [↓IntWalk.iteOmega]; go_simp)); (first | (refine hK _ ?_; clear hK K) | (apply Exists.intro; refine ⟨fun _ => ?_, hK _ ?_⟩; (first | fail); clear hK K)))
                  (refine mix_step (by kernel_rfl) (by kernel_rfl) (fun K hK => ?_); go_simp; (try (simp only [↓IntWalk.iteOmega]; go_simp)); (first | (refine hK _ ?_; clear hK K) | (apply Exists.intro; refine ⟨fun _ => ?_, hK _ ?_⟩; (first | fail); clear hK K)))
                  (refine mix_step (by kernel_rfl) (by kernel_rfl) (fun K hK => ?_); go_simp; (try (simp only [↓IntWalk.iteOmega]; go_simp)); (first | (refine hK _ ?_; clear hK K) | (apply Exists.intro; refine ⟨fun _ => ?_, hK _ ?_⟩; (first | fail); clear hK K)))
                  (refine mix_step (by kernel_rfl) (by kernel_rfl) (fun K hK => ?_); go_simp; (try (simp only [↓IntWalk.iteOmega]; go_simp)); (first | (refine hK _ ?_; clear hK K) | (apply Exists.intro; refine ⟨fun _ => ?_, hK _ ?_⟩; (first | fail); clear hK K)))
                  (refine mix_step (by kernel_rfl) (by kernel_rfl) (fun K hK => ?_); go_simp; (try (simp only [↓IntWalk.iteOmega]; go_simp)); (first | (refine hK _ ?_; clear hK K) | (apply Exists.intro; refine ⟨fun _ => ?_, hK _ ?_⟩; (first | fail); clear hK K)))
                  (refine mix_step (by kernel_rfl) (by kernel_rfl) (fun K hK => ?_); go_simp; (try (simp only [↓IntWalk.iteOmega]; go_simp)); (first | (refine hK _ ?_; clear hK K) | (apply Exists.intro; refine ⟨fun _ => ?_, hK _ ?_⟩; (first | fail); clear hK K)))
                  (refine mix_step (by kernel_rfl) (by kernel_rfl) (fun K hK => ?_); go_simp; (try (simp only [↓IntWalk.iteOmega]; go_simp)); (first | (refine hK _ ?_; clear hK K) | (apply Exists.intro; refine ⟨fun _ => ?_, hK _ ?_⟩; (first | fail); clear hK K)))
                  (refine mix_step (by kernel_rfl) (by kernel_rfl) (fun K hK => ?_); go_simp; (try (simp only [↓IntWalk.iteOmega]; go_simp)); (first | (refine hK _ ?_; clear hK K) | (apply Exists.intro; refine ⟨fun _ => ?_, hK _ ?_⟩; (first | fail); clear hK K)))
                  (refine mix_step (by kernel_rfl) (by kernel_rfl) (fun K hK => ?_); go_simp; (try (simp only [↓IntWalk.iteOmega]; go_simp)); (first | (refine hK _ ?_; clear hK K) | (apply Exists.intro; refine ⟨fun _ => ?_, hK _ ?_⟩; (first | fail); clear hK K)))
                  (refine mix_step (by kernel_rfl) (by kernel_rfl) (fun K hK => ?_); go_simp; (try (simp only [↓IntWalk.iteOmega]; go_simp)); (first | (refine hK _ ?_; clear hK K) | (apply Exists.intro; refine ⟨fun _ => ?_, hK _ ?_⟩; (first | fail); clear hK K)))
                  (refine mix_step (by kernel_rfl) (by kernel_rfl) (fun K hK => ?_); go_simp; (try (simp only [↓IntWalk.iteOmega]; go_simp)); (first | (refine hK _ ?_; clear hK K) | (apply Exists.intro; refine ⟨fun _ => ?_, hK _ ?_⟩; (first | fail); clear hK K)))
                  (refine mix_step (by kernel_rfl) (by kernel_rfl) (fun K hK => ?_); go_simp; (try (simp only [↓IntWalk.iteOmega]; go_simp)); (first | (refine hK _ ?_; clear hK K) | (apply Exists.intro; refine ⟨fun _ => ?_, hK _ ?_⟩; (first | fail); clear hK K)))
                  (refine mix_step (by kernel_rfl) (by kernel_rfl) (fun K hK => ?_); go_simp; (try (simp only [↓IntWalk.iteOmega]; go_simp)); (first | (refine hK _ ?_; clear hK K) | (apply Exists.intro; refine ⟨fun _ => ?_, hK _ ?_⟩; (first | fail); clear hK K)))
                  (refine mix_step (by kernel_rfl) (by kernel_rfl) (fun K hK => ?_); go_simp; (try (simp only [↓IntWalk.iteOmega]; go_simp)); (first | (refine hK _ ?_; clear hK K) | (apply Exists.intro; refine ⟨fun _ => ?_, hK _ ?_⟩; (first | fail); clear hK K)))
                  (refine mix_step (by kernel_rfl) (by kernel_rfl) (fun K hK => ?_); go_simp; (try (simp only [↓IntWalk.iteOmega]; go_simp)); (first | (refine hK _ ?_; clear hK K) | (apply Exists.intro; refine ⟨fun _ => ?_, hK _ ?_⟩; (first | fail); clear hK K)))
                  (refine mix_step (by kernel_rfl) (by kernel_rfl) (fun K hK => ?_); go_simp; (try (simp only [↓IntWalk.iteOmega]; go_simp)); (first | (refine hK _ ?_; clear hK K) | (apply Exists.intro; refine ⟨fun _ => ?_, hK _ ?_⟩; (first | fail); clear hK K)))
                  (refine mix_step (by kernel_rfl) (by kernel_rfl) (fun K hK => ?_); go_simp; (try (simp only [↓IntWalk.iteOmega]; go_simp)); (first | (refine hK _ ?_; clear hK K) | (apply Exists.intro; refine ⟨fun _ => ?_, hK _ ?_⟩; (first | fail); clear hK K)))
                  (refine mix_step (by kernel_rfl) (by kernel_rfl) (fun K hK => ?_); go_simp; (try (simp only [↓IntWalk.iteOmega]; go_simp)); (first | (refine hK _ ?_; clear hK K) | (apply Exists.intro; refine ⟨fun _ => ?_, hK _ ?_⟩; (first | fail); clear hK K)))
                  (refine mix_step (by kernel_rfl) (by kernel_rfl) (fun K hK => ?_); go_simp; (try (simp only [↓IntWalk.iteOmega]; go_simp)); (first | (refine hK _ ?_; clear hK K) | (apply Exists.intro; refine ⟨fun _ => ?_, hK _ ?_⟩; (first | fail); clear hK K)))
                  (refine mix_step (by kernel_rfl) (by kernel_rfl) (fun K hK => ?_); go_simp; (try (simp only [↓IntWalk.iteOmega]; go_simp)); (first | (refine hK _ ?_; clear hK K) | (apply Exists.intro; refine ⟨fun _ => ?_, hK _ ?_⟩; (first | fail); clear hK K)))
                  (refine mix_step (by kernel_rfl) (by kernel_rfl) (fun K hK => ?_); go_simp; (try (simp only [↓IntWalk.iteOmega]; go_simp)); (first | (refine hK _ ?_; clear hK K) | (apply Exists.intro; refine ⟨fun _ => ?_, hK _ ?_⟩; (first | fail); clear hK K)))
                  (refine mix_step (by kernel_rfl) (by kernel_rfl) (fun K hK => ?_); go_simp; (try (simp only [↓IntWalk.iteOmega]; go_simp)); (first | (refine hK _ ?_; clear hK K) | (apply Exists.intro; refine ⟨fun _ => ?_, hK _ ?_⟩; (first | fail); clear hK K)))
                  (refine mix_step (by kernel_rfl) (by kernel_rfl) (fun K hK => ?_); go_simp; (try (simp only [↓IntWalk.iteOmega]; go_simp)); (first | (refine hK _ ?_; clear hK K) | (apply Exists.intro; refine ⟨fun _ => ?_, hK _ ?_⟩; (first | fail); clear hK K)))
                  (refine mix_step (by kernel_rfl) (by kernel_rfl) (fun K hK => ?_); go_simp; (try (simp only [↓IntWalk.iteOmega]; go_simp)); (first | (refine hK _ ?_; clear hK K) | (apply Exists.intro; refine ⟨fun _ => ?_, hK _ ?_⟩; (first | fail); clear hK K)))
                  (refine mix_step (by kernel_rfl) (by kernel_rfl) (fun K hK => ?_); go_simp; (try (simp only [↓IntWalk.iteOmega]; go_simp)); (first | (refine hK _ ?_; clear hK K) | (apply Exists.intro; refine ⟨fun _ => ?_, hK _ ?_⟩; (first | fail); clear hK K)))
                  (refine mix_step (by kernel_rfl) (by kernel_rfl) (fun K hK => ?_); go_simp; (try (simp only [↓IntWalk.iteOmega]; go_simp)); (first | (refine hK _ ?_; clear hK K) | (apply Exists.intro; refine ⟨fun _ => ?_, hK _ ?_⟩; (first | fail); clear hK K)))
                  (refine mix_step (by kernel_rfl) (by kernel_rfl) (fun K hK => ?_); go_simp; (try (simp only [↓IntWalk.iteOmega]; go_simp)); (first | (refine hK _ ?_; clear hK K) | (apply Exists.intro; refine ⟨fun _ => ?_, hK _ ?_⟩; (first | fail); clear hK K)))
                  (refine mix_step (by kernel_rfl) (by kernel_rfl) (fun K hK => ?_); go_simp; (try (simp only [↓IntWalk.iteOmega]; go_simp)); (first | (refine hK _ ?_; clear hK K) | (apply Exists.intro; refine ⟨fun _ => ?_, hK _ ?_⟩; (first | fail); clear hK K)))
                  (refine mix_step (by kernel_rfl) (by kernel_rfl) (fun K hK => ?_); go_simp; (try (simp only [↓IntWalk.iteOmega]; go_simp)); (first | (refine hK _ ?_; clear hK K) | (apply Exists.intro; refine ⟨fun _ => ?_, hK _ ?_⟩; (first | fail); clear hK K)))
                  (refine mix_step (by kernel_rfl) (by kernel_rfl) (fun K hK => ?_); go_simp; (try (simp only [↓IntWalk.iteOmega]; go_simp)); (first | (refine hK _ ?_; clear hK K) | (apply Exists.intro; refine ⟨fun _ => ?_, hK _ ?_⟩; (first | fail); clear hK K)))
                  (refine mix_step (by kernel_rfl) (by kernel_rfl) (fun K hK => ?_); go_simp; (try (simp only [↓IntWalk.iteOmega]; go_simp)); (first | (refine hK _ ?_; clear hK K) | (apply Exists.intro; refine ⟨fun _ => ?_, hK _ ?_⟩; (first | fail); clear hK K)))
                  (refine mix_step (by kernel_rfl) (by kernel_rfl) (fun K hK => ?_); go_simp; (try (simp only [↓IntWalk.iteOmega]; go_simp)); (first | (refine hK _ ?_; clear hK K) | (apply Exists.intro; refine ⟨fun _ => ?_, hK _ ?_⟩; (first | fail); clear hK K)))
                  (refine mix_step (by kernel_rfl) (by kernel_rfl) (fun K hK => ?_); go_simp; (try (simp only [↓IntWalk.iteOmega]; go_simp)); (first | (refine hK _ ?_; clear hK K) | (apply Exists.intro; refine ⟨fun _ => ?_, hK _ ?_⟩; (first | fail); clear hK K)))
                  (refine mix_step (by kernel_rfl) (by kernel_rfl) (fun K hK => ?_); go_simp; (try (simp only [↓IntWalk.iteOmega]; go_simp)); (first | (refine hK _ ?_; clear hK K) | (apply Exists.intro; refine ⟨fun _ => ?_, hK _ ?_⟩; (first | fail); clear hK K)))
                  (refine mix_step (by kernel_rfl) (by kernel_rfl) (fun K hK => ?_); go_simp; (try (simp only [↓IntWalk.iteOmega]; go_simp)); (first | (refine hK _ ?_; clear hK K) | (apply Exists.intro; refine ⟨fun _ => ?_, hK _ ?_⟩; (first | fail); clear hK K)))
                  (refine mix_step (by kernel_rfl) (by kernel_rfl) (fun K hK => ?_); go_simp; (try (simp only [↓IntWalk.iteOmega]; go_simp)); (first | (refine hK _ ?_; clear hK K) | (apply Exists.intro; refine ⟨fun _ => ?_, hK _ ?_⟩; (first | fail); clear hK K)))
                  (refine mix_step (by kernel_rfl) (by kernel_rfl) (fun K hK => ?_); go_simp; (try (simp only [↓IntWalk.iteOmega]; go_simp)); (first | (refine hK _ ?_; clear hK K) | (apply Exists.intro; refine ⟨fun _ => ?_, hK _ ?_⟩; (first | fail); clear hK K)))
                  (refine mix_step (by kernel_rfl) (by kernel_rfl) (fun K hK => ?_); go_simp; (try (simp only [↓IntWalk.iteOmega]; go_simp)); (first | (refine hK _ ?_; clear hK K) | (apply Exists.intro; refine ⟨fun _ => ?_, hK _ ?_⟩; (first | fail); clear hK K)))
                  (refine mix_step (by kernel_rfl) (by kernel_rfl) (fun K hK => ?_); go_simp; (try (simp only [↓IntWalk.iteOmega]; go_simp)); (first | (refine hK _ ?_; clear hK K) | (apply Exists.intro; refine ⟨fun _ => ?_, hK _ ?_⟩; (first | fail); clear hK K)))
                  (refine mix_step (by kernel_rfl) (by kernel_rfl) (fun K hK => ?_); go_simp; (try (simp only [↓IntWalk.iteOmega]; go_simp)); (first | (refine hK _ ?_; clear hK K) | (apply Exists.intro; refine ⟨fun _ => ?_, hK _ ?_⟩; (first | fail); clear hK K)))
                  refine mix_nil ?_
                  rintro ⟨dr, osr⟩
                  have hb8 := below_regrown wx dr osr
                  refine (show wpList _ _ _ _ _ _ from ?_)
                  simp only [List.drop, Act.put, List.setIfInBounds_toArray, List.set]
                  go_wp2_with fail
                  go_meet
                  exact ⟨rfl, hb8⟩
                · have hmm : eqB [d'.m.a, d'.m.b, d'.m.c, d'.m.d, d'.m.e, d'.m.f] [d.m.a, d.m.b, d.m.c, d.m.d, d.m.e, d.m.f] = false := eqB_false.2 fun e => HNE.out ⟨by simpa using hv, Mac6.l_inj e⟩
                  have m1 := run_equalIn_mac 9998 d'.m.a d'.m.b d'.m.c d'.m.d d'.m.e d'.m.f d.m.a d.m.b d.m.c d.m.d d.m.e d.m.f
                  rw [hmm] at m1
                  clear hmm
                  refine wp_region_mix 48 (by kernel_rfl) (by kernel_rfl) (by kernel_rfl) ?_
                  (refine mix_step (by kernel_rfl) (by kernel_rfl) (fun K hK => ?_); go_simp; (try (simp only [↓IntWalk.iteOmega]; go_simp)); (first | (refine hK _ ?_; clear hK K) | (apply Exists.intro; refine ⟨fun _ => ?_, hK _ ?_⟩; (first | fail); clear hK K)))
                  (refine mix_step (by kernel_rfl) (by kernel_rfl) (fun K hK => ?_); go_simp; (try (simp only [↓IntWalk.iteOmega]; go_simp)); (first | (refine hK _ ?_; clear hK K) | (apply Exists.intro; refine ⟨fun _ => ?_, hK _ ?_⟩; (first | fail); clear hK K)))
                  (refine mix_step (by kernel_rfl) (by kernel_rfl) (fun K hK => ?_); go_simp; (try (simp only [↓IntWalk.iteOmega]; go_simp)); (first | (refine hK _ ?_; clear hK K) | (apply Exists.intro; refine ⟨fun _ => ?_, hK _ ?_⟩; (first | fail); clear hK K)))
                  (refine mix_step (by kernel_rfl) (by kernel_rfl) (fun K hK => ?_); go_simp; (try (simp only [↓IntWalk.iteOmega]; go_simp)); (first | (refine hK _ ?_; clear hK K) | (apply Exists.intro; refine ⟨fun _ => ?_, hK _ ?_⟩; (first | fail); clear hK K)))
                  (refine mix_step (by kernel_rfl) (by kernel_rfl) (fun K hK => ?_); go_simp; (try (simp only [↓IntWalk.iteOmega]; go_simp)); (first | (refine hK _ ?_; clear hK K) | (apply Exists.intro; refine ⟨fun _ => ?_, hK _ ?_⟩; (first | fail); clear hK K)))
                  (refine mix_step (by kernel_rfl) (by kernel_rfl) (fun K hK => ?_); go_simp; (try (simp only [↓IntWalk.iteOmega]; go_simp)); (first | (refine hK _ ?_; clear hK K) | (apply Exists.intro; refine ⟨fun _ => ?_, hK _ ?_⟩; (first | fail); clear hK K)))
                  (refine mix_step (by kernel_rfl) (by kernel_rfl) (fun K hK => ?_); go_simp; (try (simp only [↓IntWalk.iteOmega]; go_simp)); (first | (refine hK _ ?_; clear hK K) | (apply Exists.intro; refine ⟨fun _ => ?_, hK _ ?_⟩; (first | fail); clear hK K)))
                  (refine mix_step (by kernel_rfl) (by kernel_rfl) (fun K hK => ?_); go_simp; (try (simp only [↓IntWalk.iteOmega]; go_simp)); (first | (refine hK _ ?_; clear hK K) | (apply Exists.intro; refine ⟨fun _ => ?_, hK _ ?_⟩; (first | fail); clear hK K)))
                  (refine mix_step (by kernel_rfl) (by kernel_rfl) (fun K hK => ?_); go_simp; (try (simp only [↓IntWalk.iteOmega]; go_simp)); (first | (refine hK _ ?_; clear hK K) | (apply Exists.intro; refine ⟨fun _ => ?_, hK _ ?_⟩; (first | fail); clear hK K)))
                  (refine mix_step (by kernel_rfl) (by kernel_rfl) (fun K hK => ?_); go_simp; (try (simp only [↓IntWalk.iteOmega]; go_simp)); (first | (refine hK _ ?_; clear hK K) | (apply Exists.intro; refine ⟨fun _ => ?_, hK _ ?_⟩; (first | fail); clear hK K)))
                  (refine mix_step (by kernel_rfl) (by kernel_rfl) (fun K hK => ?_); go_simp; (try (simp only [↓IntWalk.iteOmega]; go_simp)); (first | (refine hK _ ?_; clear hK K) | (apply Exists.intro; refine ⟨fun _ => ?_, hK _ ?_⟩; (first | fail); clear hK K)))
                  (refine mix_step (by kernel_rfl) (by kernel_rfl) (fun K hK => ?_); go_simp; (try (simp only [↓IntWalk.iteOmega]; go_simp)); (first | (refine hK _ ?_; clear hK K) | (apply Exists.intro; refine ⟨fun _ => ?_, hK _ ?_⟩; (first | fail); clear hK K)))
                  (refine mix_step (by kernel_rfl) (by kernel_rfl) (fun K hK => ?_); go_simp; (try (simp only [↓IntWalk.iteOmega]; go_simp)); (first | (refine hK _ ?_; clear hK K) | (apply Exists.intro; refine ⟨fun _ => ?_, hK _ ?_⟩; (first | fail); clear hK K)))
                  (refine mix_step (by kernel_rfl) (by kernel_rfl) (fun K hK => ?_); go_simp; (try (simp only [↓IntWalk.iteOmega]; go_simp)); (first | (refine hK _ ?_; clear hK K) | (apply Exists.intro; refine ⟨fun _ => ?_, hK _ ?_⟩; (first | fail); clear hK K)))
                  (refine mix_step (by kernel_rfl) (by kernel_rfl) (fun K hK => ?_); go_simp; (try (simp only [↓IntWalk.iteOmega]; go_simp)); (first | (refine hK _ ?_; clear hK K) | (apply Exists.intro; refine ⟨fun _ => ?_, hK _ ?_⟩; (first | fail); clear hK K)))
                  (refine mix_step (by kernel_rfl) (by kernel_rfl) (fun K hK => ?_); go_simp; (try (simp only [↓IntWalk.iteOmega]; go_simp)); (first | (refine hK _ ?_; clear hK K) | (apply Exists.intro; refine ⟨fun _ => ?_, hK _ ?_⟩; (first | fail); clear hK K)))
                  (refine mix_step (by kernel_rfl) (by kernel_rfl) (fun K hK => ?_); go_simp; (try (simp only [↓IntWalk.iteOmega]; go_simp)); (first | (refine hK _ ?_; clear hK K) | (apply Exists.intro; refine ⟨fun _ => ?_, hK _ ?_⟩; (first | fail); clear hK K)))
                  (refine mix_step (by kernel_rfl) (by kernel_rfl) (fun K hK => ?_); go_simp; (try (simp only [↓IntWalk.iteOmega]; go_simp)); (first | (refine hK _ ?_; clear hK K) | (apply Exists.intro; refine ⟨fun _ => ?_, hK _ ?_⟩; (first | fail); clear hK K)))
                  (refine mix_step (by kernel_rfl) (by kernel_rfl) (fun K hK => ?_); go_simp; (try (simp only [↓IntWalk.iteOmega]; go_simp)); (first | (refine hK _ ?_; clear hK K) | (apply Exists.intro; refine ⟨fun _ => ?_, hK _ ?_⟩; (first | fail); clear hK K)))
                  (refine mix_step (by kernel_rfl) (by kernel_rfl) (fun K hK => ?_); go_simp; (try (simp only [↓IntWalk.iteOmega]; go_simp)); (first | (refine hK _ ?_; clear hK K) | (apply Exists.intro; refine ⟨fun _ => ?_, hK _ ?_⟩; (first | fail); clear hK K)))
                  (refine mix_step (by kernel_rfl) (by kernel_rfl) (fun K hK => ?_); go_simp; (try (simp only [↓IntWalk.iteOmega]; go_simp)); (first | (refine hK _ ?_; clear hK K) | (apply Exists.intro; refine ⟨fun _ => ?_, hK _ ?_⟩; (first | fail); clear hK K)))
                  (refine mix_step (by kernel_rfl) (by kernel_rfl) (fun K hK => ?_); go_simp; (try (simp only [↓IntWalk.iteOmega]; go_simp)); (first | (refine hK _ ?_; clear hK K) | (apply Exists.intro; refine ⟨fun _ => ?_, hK _ ?_⟩; (first | fail); clear hK K)))
                  (refine mix_step (by kernel_rfl) (by kernel_rfl) (fun K hK => ?_); go_simp; (try (simp only [↓IntWalk.iteOmega]; go_simp)); (first | (refine hK _ ?_; clear hK K) | (apply Exists.intro; refine ⟨fun _ => ?_, hK _ ?_⟩; (first | fail); clear hK K)))
                  (refine mix_step (by kernel_rfl) (by kernel_rfl) (fun K hK => ?_); go_simp; (try (simp only [↓IntWalk.iteOmega]; go_simp)); (first | (refine hK _ ?_; clear hK K) | (apply Exists.intro; refine ⟨fun _ => ?_, hK _ ?_⟩; (first | fail); clear hK K)))
                  (refine mix_step (by kernel_rfl) (by kernel_rfl) (fun K hK => ?_); go_simp; (try (simp only [↓IntWalk.iteOmega]; go_simp)); (first | (refine hK _ ?_; clear hK K) | (apply Exists.intro; refine ⟨fun _ => ?_, hK _ ?_⟩; (first | fail); clear hK K)))
                  (refine mix_step (by kernel_rfl) (by kernel_rfl) (fun K hK => ?_); go_simp; (try (simp only [↓IntWalk.iteOmega]; go_simp)); (first | (refine hK _ ?_; clear hK K) | (apply Exists.intro; refine ⟨fun _ => ?_, hK _ ?_⟩; (first | fail); clear hK K)))
                  (refine mix_step (by kernel_rfl) (by kernel_rfl) (fun K hK => ?_); go_simp; (try (simp only [↓IntWalk.iteOmega]; go_simp)); (first | (refine hK _ ?_; clear hK K) | (apply Exists.intro; refine ⟨fun _ => ?_, hK _ ?_⟩; (first | fail); clear hK K)))
                  (refine mix_step (by kernel_rfl) (by kernel_rfl) (fun K hK => ?_); go_simp; (try (simp only [↓IntWalk.iteOmega]; go_simp)); (first | (refine hK _ ?_; clear hK K) | (apply Exists.intro; refine ⟨fun _ => ?_, hK _ ?_⟩; (first | fail); clear hK K)))
                  (refine mix_step (by kernel_rfl) (by kernel_rfl) (fun K hK => ?_); go_simp; (try (simp only [↓IntWalk.iteOmega]; go_simp)); (first | (refine hK _ ?_; clear hK K) | (apply Exists.intro; refine ⟨fun _ => ?_, hK _ ?_⟩; (first | fail); clear hK K)))
                  (refine mix_step (by kernel_rfl) (by kernel_rfl) (fun K hK => ?_); go_simp; (try (simp only [↓IntWalk.iteOmega]; go_simp)); (first | (refine hK _ ?_; clear hK K) | (apply Exists.intro; refine ⟨fun _ => ?_, hK _ ?_⟩; (first | fail); clear hK K)))
                  (refine mix_step (by kernel_rfl) (by kernel_rfl) (fun K hK => ?_); go_simp; (try (simp only [↓IntWalk.iteOmega]; go_simp)); (first | (refine hK _ ?_; clear hK K) | (apply Exists.intro; refine ⟨fun _ => ?_, hK _ ?_⟩; (first | fail); clear hK K)))
                  (refine mix_step (by kernel_rfl) (by kernel_rfl) (fun K hK => ?_); go_simp; (try (simp only [↓IntWalk.iteOmega]; go_simp)); (first | (refine hK _ ?_; clear hK K) | (apply Exists.intro; refine ⟨fun _ => ?_, hK _ ?_⟩; (first | fail); clear hK K)))
                  (refine mix_step (by kernel_rfl) (by kernel_rfl) (fun K hK => ?_); go_simp; (try (simp only [↓IntWalk.iteOmega]; go_simp)); (first | (refine hK _ ?_; clear hK K) | (apply Exists.intro; refine ⟨fun _ => ?_, hK _ ?_⟩; (first | fail); clear hK K)))
                  (refine mix_step (by kernel_rfl) (by kernel_rfl) (fun K hK => ?_); go_simp; (try (simp only [↓IntWalk.iteOmega]; go_simp)); (first | (refine hK _ ?_; clear hK K) | (apply Exists.intro; refine ⟨fun _ => ?_, hK _ ?_⟩; (first | fail); clear hK K)))
                  (refine mix_step (by kernel_rfl) (by kernel_rfl) (fun K hK => ?_); go_simp; (try (simp only [↓IntWalk.iteOmega]; go_simp)); (first | (refine hK _ ?_; clear hK K) | (apply Exists.intro; refine ⟨fun _ => ?_, hK _ ?_⟩; (first | fail); clear hK K)))
                  (refine mix_step (by kernel_rfl) (by kernel_rfl) (fun K hK => ?_); go_simp; (try (simp only [↓IntWalk.iteOmega]; go_simp)); (first | (refine hK _ ?_; clear hK K) | (apply Exists.intro; refine ⟨fun _ => ?_, hK _ ?_⟩; (first | fail); clear hK K)))
                  (refine mix_step (by kernel_rfl) (by kernel_rfl) (fun K hK => ?_); go_simp; (try (simp only [↓IntWalk.iteOmega]; go_simp)); (first | (refine hK _ ?_; clear hK K) | (apply Exists.intro; refine ⟨fun _ => ?_, hK _ ?_⟩; (first | fail); clear hK K)))
                  (refine mix_step (by kernel_rfl) (by kernel_rfl) (fun K hK => ?_); go_simp; (try (simp only [↓IntWalk.iteOmega]; go_simp)); (first | (refine hK _ ?_; clear hK K) | (apply Exists.intro; refine ⟨fun _ => ?_, hK _ ?_⟩; (first | fail); clear hK K)))
                  (refine mix_step (by kernel_rfl) (by kernel_rfl) (fun K hK => ?_); go_simp; (try (simp only [↓IntWalk.iteOmega]; go_simp)); (first | (refine hK _ ?_; clear hK K) | (apply Exists.intro; refine ⟨fun _ => ?_, hK _ ?_⟩; (first | fail); clear hK K)))
                  refine mix_exact (.agg #[.int .u8 (d'.m.a.toNat : Int), .int .u8 (d'.m.b.toNat : Int), .int .u8 (d'.m.c.toNat : Int), .int .u8 (d'.m.d.toNat : Int), .int .u8 (d'.m.e.toNat : Int), .int .u8 (d'.m.f.toNat : Int)]) rfl (exact_load_range (off := off + j * 10 + 3) (sub := macCells d'.m) rfl rfl (by simp) HRm'.out hbl Try.underlying23 rfl (by kernel_rfl)) ?_
                  (refine mix_step (by kernel_rfl) (by kernel_rfl) (fun K hK => ?_); go_simp; (try (simp only [↓IntWalk.iteOmega]; go_simp)); (first | (refine hK _ ?_; clear hK K) | (apply Exists.intro; refine ⟨fun _ => ?_, hK _ ?_⟩; (first | fail); clear hK K)))
                  (refine mix_step (by kernel_rfl) (by kernel_rfl) (fun K hK => ?_); go_simp; (try (simp only [↓IntWalk.iteOmega]; go_simp)); (first | (refine hK _ ?_; clear hK K) | (apply Exists.intro; refine ⟨fun _ => ?_, hK _ ?_⟩; (first | fail); clear hK K)))
                  (refine mix_step (by kernel_rfl) (by kernel_rfl) (fun K hK => ?_); go_simp; (try (simp only [↓IntWalk.iteOmega]; go_simp)); (first | (refine hK _ ?_; clear hK K) | (apply Exists.intro; refine ⟨fun _ => ?_, hK _ ?_⟩; (first | fail); clear hK K)))
                  (refine mix_step (by kernel_rfl) (by kernel_rfl) (fun K hK => ?_); go_simp; (try (simp only [↓IntWalk.iteOmega]; go_simp)); (first | (refine hK _ ?_; clear hK K) | (apply Exists.intro; refine ⟨fun _ => ?_, hK _ ?_⟩; (first | fail); clear hK K)))
                  refine mix_exact (.agg #[.int .u8 (d.m.a.toNat : Int), .int .u8 (d.m.b.toNat : Int), .int .u8 (d.m.c.toNat : Int), .int .u8 (d.m.d.toNat : Int), .int .u8 (d.m.e.toNat : Int), .int .u8 (d.m.f.toNat : Int)]) rfl (exact_load_range (off := off + (j + 1) * 10 + 3) (sub := macCells d.m) rfl rfl (by simp) HRm.out hbl Try.underlying23 rfl (by kernel_rfl)) ?_
                  (refine mix_step (by kernel_rfl) (by kernel_rfl) (fun K hK => ?_); go_simp; (try (simp only [↓IntWalk.iteOmega]; go_simp)); (first | (refine hK _ ?_; clear hK K) | (apply Exists.intro; refine ⟨fun _ => ?_, hK _ ?_⟩; (first | fail); clear hK K)))
                  (refine mix_step (by kernel_rfl) (by kernel_rfl) (fun K hK => ?_); go_simp; (try (simp only [↓IntWalk.iteOmega]; go_simp)); (first | (refine hK _ ?_; clear hK K) | (apply Exists.intro; refine ⟨fun _ => ?_, hK _ ?_⟩; (first | fail); clear hK K)))
                  (refine mix_step (by kernel_rfl) (by kernel_rfl) (fun K hK => ?_); go_simp; (try (simp only [↓IntWalk.iteOmega]; go_simp)); (first | (refine hK _ ?_; clear hK K) | (apply Exists.intro; refine ⟨fun _ => ?_, hK _ ?_⟩; (first | fail); clear hK K)))
                  refine mix_nil ?_
                  rintro ⟨dr, osr⟩
                  have hb8 := below_regrown wx dr osr
                  refine (show wpList _ _ _ _ _ _ from ?_)
                  simp only [List.drop, Act.put, List.setIfInBounds_toArray, List.set]
                  go_wp2_with fail
                  go_meet
                  exact ⟨rfl, hb8⟩
            case rest =>
              obtain ⟨rfl, hb8⟩ := hcut
              generalize wc = wy at *
              have HOy : Hid (RowIs wy w6.heap.size 3 (ontoL zs.length (ds.take k)).toArray) := HO.out.kept hb8
              have hb9 := hb7.trans (hb8.mono hb7.size)
              have hbW := hbW.trans (hb8.mono hbW.size)
              have HRy := Lib.hid (range_later HR.out hbl hb8)
              clear HO hb7 hb8 HR HRm HDx gp1 gq1 gq2
              have c4 : wy.cell? ⟨b, off + k * 10 + 9, none⟩ = some (.bool ds[k].fixed) := HRy.out 9 _ rfl
              cases hf : ds[k].fixed
              · rw [hf] at c4
                have c1 : wy.cell? ⟨b, off + k * 10 + 1, none⟩ = some (.int .i64 ds[k].port) := HRy.out 1 _ rfl
                rw [HHp.out] at c1
                have NX := Lib.hid (onto_next (n := zs.length) hkl HHp.out hf)
                have hN0 : onN p (ds.take k) ≤ 81 := Nat.le_trans (onN_len _ _) (by rw [List.length_take]; omega)
                have co : wy.cell? ⟨w6.heap.size, p, none⟩ = some (.int .i64 (onN p (ds.take k) : Nat)) := by
                  rw [HOy.out.cell p]
                  simpa using onto_get hpn
                clear hf hp
                go_wp2_with ((with_reducible refine at_store 3 (.tmp 146) (.tmp 145) ?_); refine wpList_store_cell rfl 3 (.tmp 146) (.tmp 145) rfl w6.heap.size p _ rfl rfl 3 _ HOy.out (by rw [List.size_toArray, onto_len]; exact hpn) (by kernel_rfl) rfl w6.heap.size (Nat.le_refl _) ?_)
                intro wz hRz hothz hszz hbz
                have HZ1 : Hid (RowIs wz w6.heap.size 3 (ontoL zs.length (ds.take (k + 1))).toArray) := by
                  have h := hRz
                  have e := NX.out
                  rw [List.setIfInBounds_toArray] at e
                  rw [e] at h
                  exact h
                have hb10 := hb9.trans hbz
                have hbW := hbW.trans (hbz.mono hs6)
                clear hRz hothz hszz hbz hb9 NX co c1 c4 HOy HRy hN0
                go_wp2_with fail
                refine ⟨⟨k + 1, by omega, by go_num, HZ1, hb10, hbW⟩, by simp [intOf]; omega⟩
              · rw [hf] at c4
                have HZ1 : Hid (RowIs wy w6.heap.size 3 (ontoL zs.length (ds.take (k + 1))).toArray) := by
                  rw [onto_same hkl hf]
                  exact HOy
                clear hf hp HOy HRy
                go_wp2_with fail
                refine ⟨⟨k + 1, by omega, by go_num, HZ1, hb9, hbW⟩, by simp [intOf]; omega⟩
          · obtain rfl : k = ds.length := by omega
            rw [List.take_length] at HO
            have HT7 := Lib.hid (HT6.out.later hb7)
            clear HKd HAp HD HT6
            go_upto_region 24 with fail
            go_wp2_with fail
            go_loopw [14] (fun s14 wy => ∃ q : Nat, q ≤ zs.length ∧ s14 = .int .i64 q ∧ Below wx.heap.size wx wy) (fun s14 _ => zs.length - (intOf s14).toNat)
            case atStart => exact ⟨0, Nat.zero_le _, rfl, Below.refl _ _⟩
            case round =>
              rename World => wy
              obtain ⟨q, hq, rfl, hby⟩ := hrel
              have hbW := hbW.trans (hby.mono hbW.size)
              by_cases hql : q < zs.length
              · have hle := HLd.out q hql
                have hon : onN q ds ≤ 81 := Nat.le_trans (onN_len _ _) hdl
                have co : wy.cell? ⟨w6.heap.size, q, none⟩ = some (.int .i64 (onN q ds : Nat)) := by
                  rw [(HO.out.kept hby).cell q]
                  simpa using onto_get hql
                obtain ⟨b0, off0, hao, hz0⟩ : ∃ b0 off0, a0 = some ⟨b0, off0, none⟩ ∧ wy.cell? ⟨b0, off0 + q, none⟩ = some (.int .i64 (zs.getD q 0)) := by
                  rcases HZ.out.after hbW with h | ⟨b0, off0, h1, h2⟩
                  · rw [h] at hql
                    exact absurd hql (Nat.not_lt_zero _)
                  · exact ⟨b0, off0, h1, h2 q hql⟩
                subst hao
                generalize zs.getD q 0 = z at *
                generalize onN q ds = n at *
                have gn1 : decide (z < (n : Int)) = false := decide_eq_false (by omega)
                have gn2 : ((n : Int) > z) = False := eq_false (by omega)
                go_upto_region 27 with fail
                have k0 := cell_regrown co
                have k1 := cell_regrown hz0
                refine wp_region_mix 9 (by kernel_rfl) (by kernel_rfl) (by kernel_rfl) ?_
                (refine mix_step (by kernel_rfl) (by kernel_rfl) (fun K hK => ?_); go_simp; (try (simp only [↓IntWalk.iteOmega]; go_simp)); (first | (refine hK _ ?_; clear hK K) | (apply Exists.intro; refine ⟨fun _ => ?_, hK _ ?_⟩; (first | fail); clear hK K)))
                (refine mix_step (by kernel_rfl) (by kernel_rfl) (fun K hK => ?_); go_simp; (try (simp only [↓IntWalk.iteOmega]; go_simp)); (first | (refine hK _ ?_; clear hK K) | (apply Exists.intro; refine ⟨fun _ => ?_, hK _ ?_⟩; (first | fail); clear hK K)))
                (refine mix_step (by kernel_rfl) (by kernel_rfl) (fun K hK => ?_); go_simp; (try (simp only [↓IntWalk.iteOmega]; go_simp)); (first | (refine hK _ ?_; clear hK K) | (apply Exists.intro; refine ⟨fun _ => ?_, hK _ ?_⟩; (first | fail); clear hK K)))
                (refine mix_step (by kernel_rfl) (by kernel_rfl) (fun K hK => ?_); go_simp; (try (simp only [↓IntWalk.iteOmega]; go_simp)); (first | (refine hK _ ?_; clear hK K) | (apply Exists.intro; refine ⟨fun _ => ?_, hK _ ?_⟩; (first | fail); clear hK K)))
                (refine mix_step (by kernel_rfl) (by kernel_rfl) (fun K hK => ?_); go_simp; (try (simp only [↓IntWalk.iteOmega]; go_simp)); (first | (refine hK _ ?_; clear hK K) | (apply Exists.intro; refine ⟨fun _ => ?_, hK _ ?_⟩; (first | fail); clear hK K)))
                (refine mix_step (by kernel_rfl) (by kernel_rfl) (fun K hK => ?_); go_simp; (try (simp only [↓IntWalk.iteOmega]; go_simp)); (first | (refine hK _ ?_; clear hK K) | (apply Exists.intro; refine ⟨fun _ => ?_, hK _ ?_⟩; (first | fail); clear hK K)))
                (refine mix_step (by kernel_rfl) (by kernel_rfl) (fun K hK => ?_); go_simp; (try (simp only [↓IntWalk.iteOmega]; go_simp)); (first | (refine hK _ ?_; clear hK K) | (apply Exists.intro; refine ⟨fun _ => ?_, hK _ ?_⟩; (first | fail); clear hK K)))
                (refine mix_step (by kernel_rfl) (by kernel_rfl) (fun K hK => ?_); go_simp; (try (simp only [↓IntWalk.iteOmega]; go_simp)); (first | (refine hK _ ?_; clear hK K) | (apply Exists.intro; refine ⟨fun _ => ?_, hK _ ?_⟩; (first | fail); clear hK K)))
                (refine mix_step (by kernel_rfl) (by kernel_rfl) (fun K hK => ?_); go_simp; (try (simp only [↓IntWalk.iteOmega]; go_simp)); (first | (refine hK _ ?_; clear hK K) | (apply Exists.intro; refine ⟨fun _ => ?_, hK _ ?_⟩; (first | fail); clear hK K)))
                refine mix_nil ?_
                rintro ⟨dr, osr⟩
                have hb8 := below_regrown wy dr osr
                have hby := hby.trans (hb8.mono hby.size)
                clear k0 k1 co hz0 hb8
                refine (show wpList _ _ _ _ _ _ from ?_)
                simp only [List.drop, Act.put, List.setIfInBounds_toArray, List.set]
                go_wp2_with fail
                refine ⟨⟨q + 1, by omega, by go_num, hby⟩, by simp [intOf]; omega⟩
              · have HT8 := Lib.hid (HT7.out.later hby)
                go_wp2_with fail
                refine ⟨⟨i + 1, L', by omega, by go_num, hLi, HT8, HK, HLim, hbW⟩, by simp [intOf]; omega⟩
    · go_wp2_with fail
      go_ret
      exact ⟨rfl, hbW⟩
set_option maxHeartbeats 2000000 in
theorem learnLimits_big (ageing : Int) (a0 : Option Addr) (zs : List Int) (cap0 : Nat) (a1 : Option Addr) (acts : List ActD) (cap1 : Nat) (w : World) (h : 80 < acts.length ∨ 100 < zs.length) :
    Calls Try.prog 5 #[.int .i64 ageing, .slice a0 zs.length cap0, .slice a1 acts.length cap1] w fun e w' => e = .returned (.bool true) ∧ Below w.heap.size w w' := by
  by_cases ha : 80 < acts.length
  · have g1 : ((acts.length : Int) > 80) = True := by simp; omega
    have g2 : decide ((80 : Int) < (acts.length : Int)) = true := decide_eq_true (by omega)
    go_enter Try.func5, Try.ntmps5
    go_wp2_with fail
    refine (awake_any _).mono ?_
    rintro e w1 ⟨rfl, hb⟩
    go_wp2_with fail
    refine (awake_any _).mono ?_
    rintro e w2 ⟨rfl, hb2⟩
    have hbW := hb.trans (hb2.mono hb.size)
    clear hb hb2
    go_wp2_with fail
    go_ret
    exact ⟨rfl, hbW⟩
  · have hz : 100 < zs.length := h.resolve_left ha
    have g1 : ((acts.length : Int) > 80) = False := by simp; omega
    have g2 : decide ((80 : Int) < (acts.length : Int)) = false := decide_eq_false (by omega)
    have g3 : ((zs.length : Int) > 100) = True := by simp; omega
    have g4 : decide ((100 : Int) < (zs.length : Int)) = true := decide_eq_true (by omega)
    go_enter Try.func5, Try.ntmps5
    go_wp2_with fail
    refine (awake_any _).mono ?_
    rintro e w1 ⟨rfl, hb⟩
    go_wp2_with fail
    refine (awake_any _).mono ?_
    rintro e w2 ⟨rfl, hb2⟩
    have hbW := hb.trans (hb2.mono hb.size)
    clear hb hb2
    go_wp2_with fail
    go_ret
    exact ⟨rfl, hbW⟩

set_option maxHeartbeats 2000000 in
theorem learnLimits_bad (ageing : Int) (a0 : Option Addr) (zs : List Int) (cap0 : Nat) (a1 : Option Addr) (acts : List ActD) (cap1 : Nat) (w : World) (ha : acts.length ≤ 80) (hz : zs.length ≤ 100) (hA0 : IntsAt w a0 zs) (h : ageing < 1 ∨ 1000000 < ageing ∨ 32 < zs.length ∨ anyBad zs = true) :
    Calls Try.prog 5 #[.int .i64 ageing, .slice a0 zs.length cap0, .slice a1 acts.length cap1] w fun e w' => e = .returned (.bool true) ∧ Below w.heap.size w w' := by
  have g1 : ((acts.length : Int) > 80) = False := by simp; omega
  have g2 : ((zs.length : Int) > 100) = False := by simp; omega
  go_enter Try.func5, Try.ntmps5
  go_wp2_with fail
  refine (awake_any _).mono ?_
  rintro e w1 ⟨rfl, hbW⟩
  have HN := Lib.hid (new_bad ageing a0 zs cap0 w1 (hA0.after hbW) (by omega) h)
  clear hA0 h
  go_wp2_with fail
  refine HN.out.mono ?_
  rintro e w2 ⟨rfl, rfl⟩
  go_wp2_with fail
  go_ret
  exact ⟨rfl, hbW⟩

theorem learnLimits_walk (ageing : Int) (_ : (Lit.int .i64 ageing).wf = true) (a0 : Option Addr) (zs : List Int) (cap0 : Nat) (a1 : Option Addr) (acts : List ActD) (cap1 : Nat) (w : World) (hA0 : IntsAt w a0 zs) (_ : zs.length ≤ 9223372036854775807) (hA1 : ManyAt w a1 ActD.cells 10 acts) (_ : acts.length ≤ 9223372036854775807) (_ : ∀ a ∈ acts, a.ok) :
    Calls Try.prog 5 #[.int .i64 ageing, .slice a0 zs.length cap0, .slice a1 acts.length cap1] w fun e w' => e = .returned (.bool true) ∧ Below w.heap.size w w' := by
  by_cases h1 : 80 < acts.length ∨ 100 < zs.length
  · exact learnLimits_big ageing a0 zs cap0 a1 acts cap1 w h1
  · by_cases h2 : ageing < 1 ∨ 1000000 < ageing ∨ 32 < zs.length ∨ anyBad zs = true
    · exact learnLimits_bad ageing a0 zs cap0 a1 acts cap1 w (by omega) (by omega) hA0 h2
    · exact learnLimits_go ageing (by omega) a0 zs cap0 a1 acts cap1 w (by omega) (by
        cases hb : anyBad zs
        · rfl
        · exact absurd (.inr (.inr (.inr hb))) h2) (by omega) hA0 hA1
end Go.Proofs.Ytcdklbhfcfamnaa
