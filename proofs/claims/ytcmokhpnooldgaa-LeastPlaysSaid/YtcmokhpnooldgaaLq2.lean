/- causeyref18.Roots. By an AI agent. -/
import Derived.Test.YtcmokhpnooldgaaLq1
namespace Go.Proofs.Ytcmokhpnooldgaa
open Go.RowKit Go.WideShapes Go.Sort Grow

theorem info_int18 : ∃ i z, Try.prog.info? 3 = some i ∧ i.zero = some z ∧ i.size = 1 ∧ i.bytes = 8 ∧ z.cells.size = 1 := by
  have h := int_info18
  obtain ⟨i, hi, h⟩ := Option.map_eq_some_iff.1 h
  simp only [Prod.mk.injEq] at h
  exact ⟨i, .int .i64 0, hi, h.1, h.2.1, h.2.2, rfl⟩
def encI (z : Int) : List Value := [.int .i64 z]
theorem encI_at {w : World} {ao : Option Addr} {zs : List Int} (h : RowsAt w ao encI 1 zs) : IntsAt w ao zs := by
  rcases h with h | ⟨b, off, e, _, h⟩
  · exact .inl h
  · refine .inr ⟨b, off, e, fun i hi => ?_⟩
    have := h i hi 0 (.int .i64 zs[i]) rfl
    rw [Nat.mul_one, Nat.add_zero] at this
    rw [this]
    simp [hi]
theorem natI_take_snoc {R : List Nat} {i : Nat} (h : i < R.length) : natI (R.take (i + 1)) = natI (R.take i) ++ [(R.getD i 0 : Int)] := by
  unfold natI
  rw [List.take_add_one, List.getElem?_eq_getElem h, List.map_append]
  simp only [Option.toList, List.map_cons, List.map_nil, List.getD, List.getElem?_eq_getElem h, Option.getD_some]

set_option maxRecDepth 20000 in
set_option maxHeartbeats 8000000 in
theorem refRoots18 (v : NV) (N : LN) (w : World) (h : NetAt w v N) (hl : N.links.length ≤ 1000) (hok : N.Ok) (R : List Nat) (hR : IsRoots N R) :
    Calls Try.prog 18 #[.agg #[.slice v.ai N.ids.length v.ci, .slice v.ac N.costs.length v.cc, .slice v.al N.links.length v.cl]] w fun e w' => (∃ ao cap, e = .returned (.slice ao N.ids.length cap) ∧ IntsAt w' ao (natI R)) ∧ Below w.heap.size w w' := by
  have HOK := Lib.hid hok
  have HR := Lib.hid hR
  have HLEN := Lib.hid hok.len
  have hn16 := hok.n16
  have HRL : Hid (R.length = N.ids.length) := hR.len
  clear hok hR
  obtain ⟨ti, tz, hti, htz, hz1, hz2, hz3⟩ := info_int18
  have HTI := Lib.hid hti
  have HTZ := Lib.hid htz
  clear hti htz
  have HN := Lib.hid h
  clear h
  go_enter Try.func18, Try.ntmps18
  go_upto_region 1 with fail
  generalize hW : w.alloc _ = w1
  have hbW : Below w.heap.size w w1 := by rw [← hW]; exact (Below.refl _ _).alloc (Nat.le_refl _) _
  have R0 : Hid (RowIs w1 w.heap.size 26 #[.slice v.ai N.ids.length v.ci, .slice v.ac N.costs.length v.cc, .slice v.al N.links.length v.cl]) := by subst hW; exact rowIs_new w _ _
  clear hW
  have HK : Hid (∀ W, Below w1.heap.size w1 W → RowIs W w.heap.size 26 #[.slice v.ai N.ids.length v.ci, .slice v.ac N.costs.length v.cc, .slice v.al N.links.length v.cl] ∧ NetAt W v N) := fun W hb => ⟨R0.out.kept hb, HN.out.kept (hbW.trans (hb.mono hbW.size))⟩
  have HEND : Hid (∀ W, Below w1.heap.size w1 W → Below w.heap.size w W) := fun W hb => hbW.trans (hb.mono hbW.size)
  have hbr : Below w1.heap.size w1 w1 := Below.refl _ _
  have HF0 : Hid (RowsFrom w1 w1.heap.size 3 1 encI (.slice none 0 0) (natI (R.take 0))) := rowsFrom_nil
  clear R0 hbW HN
  go_wp2_with fail
  go_loopw [3, 4, 5, 6, 7] (fun s3 s4 _ _ _ wr => ∃ i : Nat, i ≤ N.ids.length ∧ s4 = .int .i64 i ∧ Hid (RowsFrom wr w1.heap.size 3 1 encI s3 (natI (R.take i))) ∧ Below w1.heap.size w1 wr) (fun _ s4 _ _ _ _ => N.ids.length - (intOf s4).toNat)
  case atStart => exact ⟨0, Nat.zero_le _, rfl, HF0, hbr⟩
  case round =>
    clear HF0 hbr
    rename World => wr
    obtain ⟨i, hi', rfl, HF, hbr⟩ := hrel
    obtain ⟨hr0, hn0⟩ := HK.out wr hbr
    have R0' := Lib.hid hr0
    have HN' := Lib.hid hn0
    clear hr0 hn0
    have c0 : wr.cell? ⟨w.heap.size, 0, none⟩ = some (.slice v.ai N.ids.length v.ci) := R0'.out.cell 0
    by_cases hi : i < N.ids.length
    · have HCD := Lib.hid (refDist18 v N wr HN'.out hl HOK.out i hi)
      have HEL : Hid ((natI (R.take i)).length = i) := by show _ = _; rw [natI_len, List.length_take, HRL.out]; omega
      obtain ⟨la, lc, e3, hO⟩ := HF.out
      rw [HEL.out] at e3 hO
      subst e3
      go_wp2_with ((with_reducible refine at_load 26 (.tmp 1) ?_); refine wpList_load_own rfl 26 (.tmp 1) rfl w.heap.size rfl _ _ _ R0'.out Try.underlying26 rfl (by kernel_rfl) ?_)
      refine HCD.out.mono ?_
      rintro e w3 ⟨⟨g, rfl, hg, _⟩, hbk⟩
      have HO := Lib.hid (ownsLater18 hO hbk)
      replace hbr := hbr.trans (hbk.mono hbr.size)
      have HDL := Lib.hid (distE_len HOK.out i)
      have HBL : Hid (∀ k, k ≤ N.ids.length → bestF N (distE N i) i k < N.ids.length) := fun k hk => bestF_lt hi k hk
      have HBR := Lib.hid (best_root HOK.out HR.out hi)
      have HBS : Hid (∀ k, bestF N (distE N i) i (k + 1) = if 0 ≤ (distE N i).getD k 0 ∧ N.lt k (bestF N (distE N i) i k) = true then k else bestF N (distE N i) i k) := fun k => rfl
      have HB0 : Hid (bestF N (distE N i) i 0 = i) := rfl
      have HG := Lib.hid hg
      clear hg hbk HCD c0 R0' HN' hO HF
      generalize distE N i = st at *
      go_wp2_with fail
      go_loopw [6, 7] (fun s6 s7 wr => ∃ k : Nat, k ≤ N.ids.length ∧ s7 = .int .i64 k ∧ s6 = .int .i64 (bestF N st i k : Nat) ∧ Hid (RowIs wr g 3 (intsA st)) ∧ Hid (wr.ownsRow w1.heap.size 3 1 (.slice la i lc) i ((natI (R.take i)).flatMap encI)) ∧ Below w1.heap.size w1 wr) (fun _ s7 _ => N.ids.length - (intOf s7).toNat)
      case atStart => exact ⟨0, Nat.zero_le _, rfl, by rw [HB0.out], HG, HO, hbr⟩
      case round =>
        clear HG HO hbr
        rename World => wr
        obtain ⟨k, hk, rfl, rfl, HG, HO, hbr⟩ := hrel
        have hgw : w1.heap.size ≤ wr.heap.size := hbr.size
        by_cases hlt : k < N.ids.length
        · as_aux_lemma =>
          obtain ⟨hr0, hn0⟩ := HK.out wr hbr
          have R0' := Lib.hid hr0
          have HN' := Lib.hid hn0
          clear hr0 hn0
          have hbl2 := HBL.out k (Nat.le_of_lt hlt)
          have HST := Lib.hid (HBS.out k)
          have ka : wr.cell? ⟨g, k, none⟩ = some (.int .i64 (st.getD k 0)) := by rw [HG.out.cell, intsA_get (by rw [HDL.out]; exact hlt)]
          generalize hbst : bestF N st i (k + 1) = bst' at *
          have HSE : Hid (bestF N st i (k + 1) = bst') := hbst
          clear hbst
          generalize bestF N st i k = bst at *
          generalize st.getD k 0 = x at *
          obtain ⟨ib, ioff, eai, hbl, hrgk⟩ := HN'.out.idr (show k < N.ids.length by omega)
          obtain ⟨ib', ioff', eai', hbl', hrgb⟩ := HN'.out.idr (show bst < N.ids.length by omega)
          rw [eai] at eai'
          simp only [Option.some.injEq, Addr.mk.injEq, and_true] at eai'
          obtain ⟨rfl, rfl⟩ := eai'
          have HRK := Lib.hid hrgk
          have HRB := Lib.hid hrgb
          clear hrgk hrgb hbl'
          have c0 : wr.cell? ⟨w.heap.size, 0, none⟩ = some (.slice (some ⟨ib, ioff, none⟩) N.ids.length v.ci) := by rw [← eai]; exact R0'.out.cell 0
          have CL := Lib.hid (fun (z : Regrown) => refLess_any (N.id k).f (N.id bst).f (grow (redrawn wr z.d) z.os))
          have HLT : Hid (Ord.lt [(N.id k).f 0, (N.id k).f 1, (N.id k).f 2, (N.id k).f 3, (N.id k).f 4, (N.id k).f 5, (N.id k).f 6, (N.id k).f 7] [(N.id bst).f 0, (N.id bst).f 1, (N.id bst).f 2, (N.id bst).f 3, (N.id bst).f 4, (N.id bst).f 5, (N.id bst).f 6, (N.id bst).f 7] = N.lt k bst) := rfl
          generalize N.id k = ik at *
          generalize N.id bst = ib2 at *
          rw [HLT.out] at CL
          generalize N.lt k bst = bl at *
          have hx0 : (0 : Int) ≤ (k : Int) := by omega
          have hx1 : (k : Int) < (N.ids.length : Int) := by omega
          have hx2 : (0 : Int) ≤ (bst : Int) := by omega
          have hx3 : (bst : Int) < (N.ids.length : Int) := by omega
          clear eai HLT R0' HN'
          by_cases hneg : x < 0
          · rw [if_neg (by omega)] at HST
            have d0 : decide (0 ≤ x) = false := decide_eq_false (by omega)
            go_upto_region 10 with fail
            go_quiet (fail)
            have hbq : Below wr.heap.size wr (wr.drewN nq) := below_drewN (Below.refl _ _) _
            replace HG := Lib.hid (HG.out.kept hbq)
            replace HO := Lib.hid (ownsLater18 HO.out hbq)
            replace hbr := hbr.trans (hbq.mono hgw)
            clear hbq ka c0 CL HRK HRB
            generalize wr.drewN nq = w6 at *
            go_wp2_with fail
            exact ⟨⟨k + 1, by omega, by go_num, by rw [HSE.out, HST.out], HG, HO, hbr⟩, by simp [intOf]; omega⟩
          · have d0 : decide (0 ≤ x) = true := decide_eq_true (by omega)
            have f0 := cell_regrown c0
            have f1 := cell_regrown ka
            cases bl
            · rw [if_neg (by simp)] at HST
              go_upto_region 10 with fail
              refine wp_region_mix 18 (by kernel_rfl) (by kernel_rfl) (by kernel_rfl) ?_
              (refine mix_step (by kernel_rfl) (by kernel_rfl) (fun K hK => ?_); go_simp; (try (simp only [↓IntWalk.iteOmega]; go_simp)); (first | (refine hK _ ?_; clear hK K) | (apply Exists.intro; refine ⟨fun _ => ?_, hK _ ?_⟩; (first | fail); clear hK K)))
              (refine mix_step (by kernel_rfl) (by kernel_rfl) (fun K hK => ?_); go_simp; (try (simp only [↓IntWalk.iteOmega]; go_simp)); (first | (refine hK _ ?_; clear hK K) | (apply Exists.intro; refine ⟨fun _ => ?_, hK _ ?_⟩; (first | fail); clear hK K)))
              (refine mix_step (by kernel_rfl) (by kernel_rfl) (fun K hK => ?_); go_simp; (try (simp only [↓IntWalk.iteOmega]; go_simp)); (first | (refine hK _ ?_; clear hK K) | (apply Exists.intro; refine ⟨fun _ => ?_, hK _ ?_⟩; (first | fail); clear hK K)))
              (refine mix_step (by kernel_rfl) (by kernel_rfl) (fun K hK => ?_); go_simp; (try (simp only [↓IntWalk.iteOmega]; go_simp)); (first | (refine hK _ ?_; clear hK K) | (apply Exists.intro; refine ⟨fun _ => ?_, hK _ ?_⟩; (first | fail); clear hK K)))
              (refine mix_step (by kernel_rfl) (by kernel_rfl) (fun K hK => ?_); go_simp; (try (simp only [↓IntWalk.iteOmega]; go_simp)); (first | (refine hK _ ?_; clear hK K) | (apply Exists.intro; refine ⟨fun _ => ?_, hK _ ?_⟩; (first | fail); clear hK K)))
              (refine mix_step (by kernel_rfl) (by kernel_rfl) (fun K hK => ?_); go_simp; (try (simp only [↓IntWalk.iteOmega]; go_simp)); (first | (refine hK _ ?_; clear hK K) | (apply Exists.intro; refine ⟨fun _ => ?_, hK _ ?_⟩; (first | fail); clear hK K)))
              (refine mix_step (by kernel_rfl) (by kernel_rfl) (fun K hK => ?_); go_simp; (try (simp only [↓IntWalk.iteOmega]; go_simp)); (first | (refine hK _ ?_; clear hK K) | (apply Exists.intro; refine ⟨fun _ => ?_, hK _ ?_⟩; (first | fail); clear hK K)))
              (refine mix_step (by kernel_rfl) (by kernel_rfl) (fun K hK => ?_); go_simp; (try (simp only [↓IntWalk.iteOmega]; go_simp)); (first | (refine hK _ ?_; clear hK K) | (apply Exists.intro; refine ⟨fun _ => ?_, hK _ ?_⟩; (first | fail); clear hK K)))
              (refine mix_step (by kernel_rfl) (by kernel_rfl) (fun K hK => ?_); go_simp; (try (simp only [↓IntWalk.iteOmega]; go_simp)); (first | (refine hK _ ?_; clear hK K) | (apply Exists.intro; refine ⟨fun _ => ?_, hK _ ?_⟩; (first | fail); clear hK K)))
              (refine mix_step (by kernel_rfl) (by kernel_rfl) (fun K hK => ?_); go_simp; (try (simp only [↓IntWalk.iteOmega]; go_simp)); (first | (refine hK _ ?_; clear hK K) | (apply Exists.intro; refine ⟨fun _ => ?_, hK _ ?_⟩; (first | fail); clear hK K)))
              refine mix_exact (.agg #[.int .u8 ((ik.f 0).toNat : Int), .int .u8 ((ik.f 1).toNat : Int), .int .u8 ((ik.f 2).toNat : Int), .int .u8 ((ik.f 3).toNat : Int), .int .u8 ((ik.f 4).toNat : Int), .int .u8 ((ik.f 5).toNat : Int), .int .u8 ((ik.f 6).toNat : Int), .int .u8 ((ik.f 7).toNat : Int)]) rfl (exact_load_range (sub := Id8.vals ik) rfl rfl (by simp) HRK.out hbl Try.underlying44 rfl (by kernel_rfl)) ?_
              (refine mix_step (by kernel_rfl) (by kernel_rfl) (fun K hK => ?_); go_simp; (try (simp only [↓IntWalk.iteOmega]; go_simp)); (first | (refine hK _ ?_; clear hK K) | (apply Exists.intro; refine ⟨fun _ => ?_, hK _ ?_⟩; (first | fail); clear hK K)))
              (refine mix_step (by kernel_rfl) (by kernel_rfl) (fun K hK => ?_); go_simp; (try (simp only [↓IntWalk.iteOmega]; go_simp)); (first | (refine hK _ ?_; clear hK K) | (apply Exists.intro; refine ⟨fun _ => ?_, hK _ ?_⟩; (first | fail); clear hK K)))
              (refine mix_step (by kernel_rfl) (by kernel_rfl) (fun K hK => ?_); go_simp; (try (simp only [↓IntWalk.iteOmega]; go_simp)); (first | (refine hK _ ?_; clear hK K) | (apply Exists.intro; refine ⟨fun _ => ?_, hK _ ?_⟩; (first | fail); clear hK K)))
              (refine mix_step (by kernel_rfl) (by kernel_rfl) (fun K hK => ?_); go_simp; (try (simp only [↓IntWalk.iteOmega]; go_simp)); (first | (refine hK _ ?_; clear hK K) | (apply Exists.intro; refine ⟨fun _ => ?_, hK _ ?_⟩; (first | fail); clear hK K)))
              refine mix_exact (.agg #[.int .u8 ((ib2.f 0).toNat : Int), .int .u8 ((ib2.f 1).toNat : Int), .int .u8 ((ib2.f 2).toNat : Int), .int .u8 ((ib2.f 3).toNat : Int), .int .u8 ((ib2.f 4).toNat : Int), .int .u8 ((ib2.f 5).toNat : Int), .int .u8 ((ib2.f 6).toNat : Int), .int .u8 ((ib2.f 7).toNat : Int)]) rfl (exact_load_range (sub := Id8.vals ib2) rfl rfl (by simp) HRB.out hbl Try.underlying44 rfl (by kernel_rfl)) ?_
              (refine mix_step (by kernel_rfl) (by kernel_rfl) (fun K hK => ?_); go_simp; (try (simp only [↓IntWalk.iteOmega]; go_simp)); (first | (refine hK _ ?_; clear hK K) | (apply Exists.intro; refine ⟨fun _ => ?_, hK _ ?_⟩; (first | exact CL.out _); clear hK K)))
              (refine mix_step (by kernel_rfl) (by kernel_rfl) (fun K hK => ?_); go_simp; (try (simp only [↓IntWalk.iteOmega]; go_simp)); (first | (refine hK _ ?_; clear hK K) | (apply Exists.intro; refine ⟨fun _ => ?_, hK _ ?_⟩; (first | fail); clear hK K)))
              refine mix_nil ?_
              rintro ⟨dq, osq⟩
              have hb5 := below_regrown wr dq osq
              refine (show wpList _ _ _ _ _ _ from ?_)
              simp only [List.drop, Act.put, List.setIfInBounds_toArray, List.set]
              replace HG := Lib.hid (HG.out.kept hb5)
              replace HO := Lib.hid (ownsLater18 HO.out hb5)
              replace hbr := hbr.trans (hb5.mono hgw)
              clear hb5 ka c0 CL HRK HRB f0 f1
              generalize grow (redrawn wr dq) osq = w6 at *
              go_wp2_with fail
              exact ⟨⟨k + 1, by omega, by go_num, by rw [HSE.out, HST.out], HG, HO, hbr⟩, by simp [intOf]; omega⟩
            · rw [if_pos (show 0 ≤ x ∧ true = true from ⟨by omega, rfl⟩)] at HST
              go_upto_region 10 with fail
              refine wp_region_mix 18 (by kernel_rfl) (by kernel_rfl) (by kernel_rfl) ?_
              (refine mix_step (by kernel_rfl) (by kernel_rfl) (fun K hK => ?_); go_simp; (try (simp only [↓IntWalk.iteOmega]; go_simp)); (first | (refine hK _ ?_; clear hK K) | (apply Exists.intro; refine ⟨fun _ => ?_, hK _ ?_⟩; (first | fail); clear hK K)))
              (refine mix_step (by kernel_rfl) (by kernel_rfl) (fun K hK => ?_); go_simp; (try (simp only [↓IntWalk.iteOmega]; go_simp)); (first | (refine hK _ ?_; clear hK K) | (apply Exists.intro; refine ⟨fun _ => ?_, hK _ ?_⟩; (first | fail); clear hK K)))
              (refine mix_step (by kernel_rfl) (by kernel_rfl) (fun K hK => ?_); go_simp; (try (simp only [↓IntWalk.iteOmega]; go_simp)); (first | (refine hK _ ?_; clear hK K) | (apply Exists.intro; refine ⟨fun _ => ?_, hK _ ?_⟩; (first | fail); clear hK K)))
              (refine mix_step (by kernel_rfl) (by kernel_rfl) (fun K hK => ?_); go_simp; (try (simp only [↓IntWalk.iteOmega]; go_simp)); (first | (refine hK _ ?_; clear hK K) | (apply Exists.intro; refine ⟨fun _ => ?_, hK _ ?_⟩; (first | fail); clear hK K)))
              (refine mix_step (by kernel_rfl) (by kernel_rfl) (fun K hK => ?_); go_simp; (try (simp only [↓IntWalk.iteOmega]; go_simp)); (first | (refine hK _ ?_; clear hK K) | (apply Exists.intro; refine ⟨fun _ => ?_, hK _ ?_⟩; (first | fail); clear hK K)))
              (refine mix_step (by kernel_rfl) (by kernel_rfl) (fun K hK => ?_); go_simp; (try (simp only [↓IntWalk.iteOmega]; go_simp)); (first | (refine hK _ ?_; clear hK K) | (apply Exists.intro; refine ⟨fun _ => ?_, hK _ ?_⟩; (first | fail); clear hK K)))
              (refine mix_step (by kernel_rfl) (by kernel_rfl) (fun K hK => ?_); go_simp; (try (simp only [↓IntWalk.iteOmega]; go_simp)); (first | (refine hK _ ?_; clear hK K) | (apply Exists.intro; refine ⟨fun _ => ?_, hK _ ?_⟩; (first | fail); clear hK K)))
              (refine mix_step (by kernel_rfl) (by kernel_rfl) (fun K hK => ?_); go_simp; (try (simp only [↓IntWalk.iteOmega]; go_simp)); (first | (refine hK _ ?_; clear hK K) | (apply Exists.intro; refine ⟨fun _ => ?_, hK _ ?_⟩; (first | fail); clear hK K)))
              (refine mix_step (by kernel_rfl) (by kernel_rfl) (fun K hK => ?_); go_simp; (try (simp only [↓IntWalk.iteOmega]; go_simp)); (first | (refine hK _ ?_; clear hK K) | (apply Exists.intro; refine ⟨fun _ => ?_, hK _ ?_⟩; (first | fail); clear hK K)))
              (refine mix_step (by kernel_rfl) (by kernel_rfl) (fun K hK => ?_); go_simp; (try (simp only [↓IntWalk.iteOmega]; go_simp)); (first | (refine hK _ ?_; clear hK K) | (apply Exists.intro; refine ⟨fun _ => ?_, hK _ ?_⟩; (first | fail); clear hK K)))
              refine mix_exact (.agg #[.int .u8 ((ik.f 0).toNat : Int), .int .u8 ((ik.f 1).toNat : Int), .int .u8 ((ik.f 2).toNat : Int), .int .u8 ((ik.f 3).toNat : Int), .int .u8 ((ik.f 4).toNat : Int), .int .u8 ((ik.f 5).toNat : Int), .int .u8 ((ik.f 6).toNat : Int), .int .u8 ((ik.f 7).toNat : Int)]) rfl (exact_load_range (sub := Id8.vals ik) rfl rfl (by simp) HRK.out hbl Try.underlying44 rfl (by kernel_rfl)) ?_
              (refine mix_step (by kernel_rfl) (by kernel_rfl) (fun K hK => ?_); go_simp; (try (simp only [↓IntWalk.iteOmega]; go_simp)); (first | (refine hK _ ?_; clear hK K) | (apply Exists.intro; refine ⟨fun _ => ?_, hK _ ?_⟩; (first | fail); clear hK K)))
              (refine mix_step (by kernel_rfl) (by kernel_rfl) (fun K hK => ?_); go_simp; (try (simp only [↓IntWalk.iteOmega]; go_simp)); (first | (refine hK _ ?_; clear hK K) | (apply Exists.intro; refine ⟨fun _ => ?_, hK _ ?_⟩; (first | fail); clear hK K)))
              (refine mix_step (by kernel_rfl) (by kernel_rfl) (fun K hK => ?_); go_simp; (try (simp only [↓IntWalk.iteOmega]; go_simp)); (first | (refine hK _ ?_; clear hK K) | (apply Exists.intro; refine ⟨fun _ => ?_, hK _ ?_⟩; (first | fail); clear hK K)))
              (refine mix_step (by kernel_rfl) (by kernel_rfl) (fun K hK => ?_); go_simp; (try (simp only [↓IntWalk.iteOmega]; go_simp)); (first | (refine hK _ ?_; clear hK K) | (apply Exists.intro; refine ⟨fun _ => ?_, hK _ ?_⟩; (first | fail); clear hK K)))
              refine mix_exact (.agg #[.int .u8 ((ib2.f 0).toNat : Int), .int .u8 ((ib2.f 1).toNat : Int), .int .u8 ((ib2.f 2).toNat : Int), .int .u8 ((ib2.f 3).toNat : Int), .int .u8 ((ib2.f 4).toNat : Int), .int .u8 ((ib2.f 5).toNat : Int), .int .u8 ((ib2.f 6).toNat : Int), .int .u8 ((ib2.f 7).toNat : Int)]) rfl (exact_load_range (sub := Id8.vals ib2) rfl rfl (by simp) HRB.out hbl Try.underlying44 rfl (by kernel_rfl)) ?_
              (refine mix_step (by kernel_rfl) (by kernel_rfl) (fun K hK => ?_); go_simp; (try (simp only [↓IntWalk.iteOmega]; go_simp)); (first | (refine hK _ ?_; clear hK K) | (apply Exists.intro; refine ⟨fun _ => ?_, hK _ ?_⟩; (first | exact CL.out _); clear hK K)))
              (refine mix_step (by kernel_rfl) (by kernel_rfl) (fun K hK => ?_); go_simp; (try (simp only [↓IntWalk.iteOmega]; go_simp)); (first | (refine hK _ ?_; clear hK K) | (apply Exists.intro; refine ⟨fun _ => ?_, hK _ ?_⟩; (first | fail); clear hK K)))
              refine mix_nil ?_
              rintro ⟨dq, osq⟩
              have hb5 := below_regrown wr dq osq
              refine (show wpList _ _ _ _ _ _ from ?_)
              simp only [List.drop, Act.put, List.setIfInBounds_toArray, List.set]
              replace HG := Lib.hid (HG.out.kept hb5)
              replace HO := Lib.hid (ownsLater18 HO.out hb5)
              replace hbr := hbr.trans (hb5.mono hgw)
              clear hb5 ka c0 CL HRK HRB f0 f1
              generalize grow (redrawn wr dq) osq = w6 at *
              go_wp2_with fail
              exact ⟨⟨k + 1, by omega, by go_num, by rw [HSE.out, HST.out], HG, HO, hbr⟩, by simp [intOf]; omega⟩
        · obtain rfl : k = N.ids.length := by omega
          have HNX : Hid (natI (R.take (i + 1)) = natI (R.take i) ++ [(R.getD i 0 : Int)]) := natI_take_snoc (by rw [HRL.out]; exact hi)
          rw [HBR.out]
          generalize R.getD i 0 = ri at *
          have hg1 : w1.heap.size ≤ wr.heap.size := hgw
          go_wp2_with (at_builtin; refine wpList_append_own _ rfl (.tmp 44) (.tmp 46) 35 rfl (w1.heap.size) 3 ti tz 1 8 Try.underlying35 HTI.out HTZ.out hz1 hz2 hz3 (by decide) _ i _ rfl (HO.out.alloc _) ⟨wr.heap.size, 0, none⟩ 1 1 [.int .i64 (ri : Int)] rfl ?c0 ?c1 ?c2 ?c3 ?c4 ?c5 ?_)
          (try case c0 => rfl)
          (try case c1 =>
            intro j u hj
            rw [addr_add, (rowIs_new wr _ _).cell j, ← Array.getElem?_toList]
            exact hj)
          (try case c2 => intro u hu; simp at hu; rw [hu]; rfl)
          (try case c3 => simp [maxLen]; omega)
          (try case c4 => omega)
          (try case c5 => first | omega | (simp; omega))
          intro v' w7 ho7 hg7 _
          have hF7 : RowsFrom w7 w1.heap.size 3 1 encI v' (natI (R.take (i + 1))) := by
            rw [HNX.out]
            refine rowsFrom_app ?_
            rw [HEL.out]
            exact ho7
          have hgl : Below w1.heap.size wr w7 := ((Below.refl _ wr).alloc hg1 _).grown hg7 (by simp; omega) (fun k e1 => (HO.out.lt k e1).1)
          replace hbr := hbr.trans hgl
          have HF7 := Lib.hid hF7
          clear ho7 hg7 hgl HO hF7
          go_wp2_with fail
          exact ⟨⟨i + 1, by omega, by go_num, HF7, hbr⟩, by simp [intOf]; omega⟩
    · obtain rfl : i = N.ids.length := by omega
      have hbe := HEND.out wr hbr
      obtain ⟨ao, cap, e3, hra⟩ := HF.out.at (fun z : Int => (rfl : (encI z).length = 1))
      rw [natI_len, List.length_take, HRL.out, Nat.min_self] at e3
      rw [show R.take N.ids.length = R by rw [← HRL.out, List.take_length]] at hra
      have HRA := Lib.hid (encI_at hra)
      subst e3
      clear hra
      go_wp2_with fail
      go_ret
      exact ⟨⟨ao, cap, rfl, HRA.out⟩, hbe⟩
end Go.Proofs.Ytcmokhpnooldgaa
