/- span: aged, Tick. By an AI agent. -/
import Derived.Test.YtdhiaidbpjjljaaSpan4
namespace Go.Proofs.Ytdhiaidbpjjljaa
open Go.RowKit Go.Sort Grow

theorem SS.put_put (s : SS) (i : Nat) (p q : SP) : (s.put i p).put i q = s.put i q := by simp [SS.put]
theorem SS.put_same (s : SS) (i : Nat) (h : i < s.ports.length) : s.put i (s.port i) = s := by
  unfold SS.put SS.port
  have : s.ports.set i (s.ports.getD i .zero) = s.ports := by
    simp [List.getD, h]
  rw [this]
/-- some ports done -/
def SS.mapTo (s : SS) (f : SP → SP) (i : Nat) : SS := { s with ports := (s.ports.take i).map f ++ s.ports.drop i }
theorem SS.mapTo_zero (s : SS) (f : SP → SP) : s.mapTo f 0 = s := by simp [SS.mapTo]
theorem SS.mapTo_len (s : SS) (f : SP → SP) (i : Nat) : (s.mapTo f i).ports.length = s.ports.length := by
  simp [SS.mapTo]
  omega
theorem SS.mapTo_port (s : SS) (f : SP → SP) (i : Nat) (h : i < s.ports.length) : (s.mapTo f i).port i = s.port i := by
  have hm : min i s.ports.length = i := by omega
  unfold SS.mapTo SS.port
  simp only [List.getD]
  rw [List.getElem?_append_right (by simp; omega)]
  simp [hm]
theorem SS.mapTo_succ (s : SS) (f : SP → SP) (i : Nat) (h : i < s.ports.length) : s.mapTo f (i + 1) = (s.mapTo f i).put i (f (s.port i)) := by
  have hm : min i s.ports.length = i := by omega
  unfold SS.mapTo SS.put SS.port
  simp only [List.getD, List.getElem?_eq_getElem h, Option.getD_some]
  congr 1
  rw [List.take_succ_eq_append_getElem h, List.map_append, List.set_append_right _ _ (by simp; omega)]
  have e : i - (List.map f (List.take i s.ports)).length = 0 := by simp; omega
  rw [e, List.drop_eq_getElem_cons h, List.set_cons_zero, List.map_cons, List.map_nil, List.append_assoc]
  rfl
theorem SS.mapTo_all (s : SS) (f : SP → SP) : s.mapTo f s.ports.length = { s with ports := s.ports.map f } := by simp [SS.mapTo]

/-- what was heard on a port is a tick older -/
def SP.aged (ma : Int) (p : SP) : SP := if p.heard then (if p.w.age + 1 ≥ ma then { p with heard := false, w := .zero } else { p with w := { p.w with age := p.w.age + 1 } }) else p
def SS.aged (s : SS) : SS := { s with ports := s.ports.map (SP.aged s.ma) }

set_option maxRecDepth 20000 in
set_option maxHeartbeats 4000000 in
theorem aged_any (B S g cap : Nat) (pbs : List Nat) (w : World) (s : SS) (h : SpAt B S g cap pbs w s) (hp : pbs.length ≤ 1000) (ha : s.AgesOk) :
    Calls Try.prog 31 #[.pointer (some ⟨S, 0, none⟩)] w fun e w' => e = .returned (.tuple #[]) ∧ SpAt B S g cap pbs w' s.aged ∧ Below B w w' ∧ Only (S :: pbs) w w' := by
  have HA := Lib.hid h
  have hlen : s.ports.length = pbs.length := h.len.symm
  have HAG := Lib.hid ha
  have q1 : w.cell? ⟨S, 11, none⟩ = some (.slice (some ⟨g, 0, none⟩) s.ports.length cap) := h.row.cell 11
  have HE : Hid (s.aged = s.mapTo (SP.aged s.ma) s.ports.length) := (s.mapTo_all _).symm
  have HA0 : Hid (SpAt B S g cap pbs w (s.mapTo (SP.aged s.ma) 0)) := by show SpAt _ _ _ _ _ _ _; rw [SS.mapTo_zero]; exact h
  clear h ha HA
  go_enter Try.func31, Try.ntmps31
  go_upto_region 1 with fail
  clear q1
  go_loopw [9] (fun s9 wr => ∃ i : Nat, i ≤ s.ports.length ∧ s9 = .int .i64 i ∧ Hid (SpAt B S g cap pbs wr (s.mapTo (SP.aged s.ma) i)) ∧ Below B w wr ∧ Hid (Only (S :: pbs) w wr)) (fun s9 _ => s.ports.length - (intOf s9).toNat)
  case atStart => exact ⟨0, Nat.zero_le _, rfl, HA0, Below.refl _ _, Only.refl _ _⟩
  case round =>
    clear HA0
    rename World => wr
    obtain ⟨i, hi, rfl, HW, hbR, HOR⟩ := hrel
    by_cases hlt : i < s.ports.length
    · have hip : i < pbs.length := by omega
      have q0 := HW.out.ptr hip
      have HPE : Hid ((s.mapTo (SP.aged s.ma) i).port i = s.port i) := s.mapTo_port _ i hlt
      have HN : Hid (s.mapTo (SP.aged s.ma) (i + 1) = (s.mapTo (SP.aged s.ma) i).put i ((s.port i).aged s.ma)) := s.mapTo_succ _ i hlt
      have c8 : wr.cell? ⟨S, 8, none⟩ = some (.int .i64 s.ma) := HW.out.row.cell 8
      have hag := HAG.out i
      have HLL : Hid ((s.mapTo (SP.aged s.ma) i).ports.length = s.ports.length) := s.mapTo_len _ _
      have HP := Lib.hid (HW.out.ports i hip).2
      rw [HPE.out] at HP
      have hpS : pbs[i] ≠ S := rowIs_ne HP.out HW.out.row (by decide)
      have HSM : Hid ((s.mapTo (SP.aged s.ma) i).put i (s.port i) = s.mapTo (SP.aged s.ma) i) := by
        show _ = _
        rw [← HPE.out]
        exact SS.put_same _ _ (by rw [HLL.out]; exact hlt)
      generalize s.mapTo (SP.aged s.ma) i = si at *
      have HEQ : Hid ((s.port i).aged s.ma = if (s.port i).heard then (if (s.port i).w.age + 1 ≥ s.ma then { s.port i with heard := false, w := .zero } else { s.port i with w := { (s.port i).w with age := (s.port i).w.age + 1 } }) else s.port i) := rfl
      have c2 : wr.cell? ⟨pbs[i], 2, none⟩ = some (.bool (s.port i).heard) := HP.out.cell 2
      have c21 : wr.cell? ⟨pbs[i], 21, none⟩ = some (.int .i64 (s.port i).w.age) := HP.out.cell 21
      generalize s.port i = p at *
      obtain ⟨pc, up, heard, pw, prole, pstate, psince⟩ := p
      simp only at c2 c21 HEQ hag
      cases heard
      · rw [HEQ.out] at HN
        have HN : Hid (s.mapTo (SP.aged s.ma) (i + 1) = si.put i ⟨pc, up, false, pw, prole, pstate, psince⟩) := HN.out
        go_wp2_with fail
        refine ⟨⟨i + 1, by omega, by go_num, ?_, hbR, HOR⟩, by simp [intOf]; omega⟩
        show SpAt _ _ _ _ _ _ _
        rw [HN.out, HSM.out]
        exact HW.out
      · have HEQ : Hid (SP.aged s.ma ⟨pc, up, true, pw, prole, pstate, psince⟩ = if pw.age + 1 ≥ s.ma then ⟨pc, up, false, .zero, prole, pstate, psince⟩ else ⟨pc, up, true, { pw with age := pw.age + 1 }, prole, pstate, psince⟩) := HEQ.out
        have wa : wrap64 (pw.age + 1) = pw.age + 1 := by unfold wrap64; omega
        have R0 := Lib.hid (show RowIs wr pbs[i] 85 (SP.cells ⟨pc, up, true, pw, prole, pstate, psince⟩) from HP.out)
        go_upto_region 4 with fail
        go_wp2_with ((with_reducible refine at_store 3 (.tmp 26) (.tmp 23) ?_); refine wpList_store_cell rfl 3 (.tmp 26) (.tmp 23) rfl (pbs[i]) 21 _ rfl rfl 85 _ R0.out (show 21 < 30 by decide) (by kernel_rfl) rfl B (HW.out.ports i hip).1 ?_)
        intro w1 hR1 ho1 hs1 hb1
        have R1 : Hid (RowIs w1 pbs[i] 85 (SP.cells ⟨pc, up, true, { pw with age := pw.age + 1 }, prole, pstate, psince⟩)) := hR1
        have HW1 : Hid (SpAt B S g cap pbs w1 (si.put i ⟨pc, up, true, { pw with age := pw.age + 1 }, prole, pstate, psince⟩)) := HW.out.portSet hip hR1 ho1
        have HO1 := Lib.hid (HOR.out.store (S := pbs[i]) (by simp) ho1 hs1)
        have hbR1 := hbR.trans hb1
        have k8 := cell_regrown (show w1.cell? ⟨S, 8, none⟩ = some (.int .i64 s.ma) from (World.cell?_of_block (ho1 S (fun e => hpS e.symm))).trans c8)
        have k21 := cell_regrown (show w1.cell? ⟨pbs[i], 21, none⟩ = some (.int .i64 (pw.age + 1)) from R1.out.cell 21)
        clear R0 HP hR1 ho1 hs1 hb1 hbR HOR HW c2 c21 c8 q0 HSM
        go_upto_region 5 with fail
        refine wp_region_mix 11 (by kernel_rfl) (by kernel_rfl) (by kernel_rfl) ?_
        (refine mix_step (by kernel_rfl) (by kernel_rfl) (fun K hK => ?_); go_simp; (try (simp only [↓IntWalk.iteOmega]; go_simp)); (first | (refine hK _ ?_; clear hK K) | (apply Exists.intro; refine ⟨fun _ => ?_, hK _ ?_⟩; (first | fail); clear hK K)))
        (refine mix_step (by kernel_rfl) (by kernel_rfl) (fun K hK => ?_); go_simp; (try (simp only [↓IntWalk.iteOmega]; go_simp)); (first | (refine hK _ ?_; clear hK K) | (apply Exists.intro; refine ⟨fun _ => ?_, hK _ ?_⟩; (first | fail); clear hK K)))
        (refine mix_step (by kernel_rfl) (by kernel_rfl) (fun K hK => ?_); go_simp; (try (simp only [↓IntWalk.iteOmega]; go_simp)); (first | (refine hK _ ?_; clear hK K) | (apply Exists.intro; refine ⟨fun _ => ?_, hK _ ?_⟩; (first | fail); clear hK K)))
        (refine mix_step (by kernel_rfl) (by kernel_rfl) (fun K hK => ?_); go_simp; (try (simp only [↓IntWalk.iteOmega]; go_simp)); (first | (refine hK _ ?_; clear hK K) | (apply Exists.intro; refine ⟨fun _ => ?_, hK _ ?_⟩; (first | fail); clear hK K)))
        (refine mix_step (by kernel_rfl) (by kernel_rfl) (fun K hK => ?_); go_simp; (try (simp only [↓IntWalk.iteOmega]; go_simp)); (first | (refine hK _ ?_; clear hK K) | (apply Exists.intro; refine ⟨fun _ => ?_, hK _ ?_⟩; (first | fail); clear hK K)))
        (refine mix_step (by kernel_rfl) (by kernel_rfl) (fun K hK => ?_); go_simp; (try (simp only [↓IntWalk.iteOmega]; go_simp)); (first | (refine hK _ ?_; clear hK K) | (apply Exists.intro; refine ⟨fun _ => ?_, hK _ ?_⟩; (first | fail); clear hK K)))
        (refine mix_step (by kernel_rfl) (by kernel_rfl) (fun K hK => ?_); go_simp; (try (simp only [↓IntWalk.iteOmega]; go_simp)); (first | (refine hK _ ?_; clear hK K) | (apply Exists.intro; refine ⟨fun _ => ?_, hK _ ?_⟩; (first | fail); clear hK K)))
        (refine mix_step (by kernel_rfl) (by kernel_rfl) (fun K hK => ?_); go_simp; (try (simp only [↓IntWalk.iteOmega]; go_simp)); (first | (refine hK _ ?_; clear hK K) | (apply Exists.intro; refine ⟨fun _ => ?_, hK _ ?_⟩; (first | fail); clear hK K)))
        (refine mix_step (by kernel_rfl) (by kernel_rfl) (fun K hK => ?_); go_simp; (try (simp only [↓IntWalk.iteOmega]; go_simp)); (first | (refine hK _ ?_; clear hK K) | (apply Exists.intro; refine ⟨fun _ => ?_, hK _ ?_⟩; (first | fail); clear hK K)))
        (refine mix_step (by kernel_rfl) (by kernel_rfl) (fun K hK => ?_); go_simp; (try (simp only [↓IntWalk.iteOmega]; go_simp)); (first | (refine hK _ ?_; clear hK K) | (apply Exists.intro; refine ⟨fun _ => ?_, hK _ ?_⟩; (first | fail); clear hK K)))
        (refine mix_step (by kernel_rfl) (by kernel_rfl) (fun K hK => ?_); go_simp; (try (simp only [↓IntWalk.iteOmega]; go_simp)); (first | (refine hK _ ?_; clear hK K) | (apply Exists.intro; refine ⟨fun _ => ?_, hK _ ?_⟩; (first | fail); clear hK K)))
        refine mix_nil ?_
        rintro ⟨dq, osq⟩
        have hb2 := below_regrown w1 dq osq
        have HW2 := Lib.hid (HW1.out.later hb2)
        have R2 := Lib.hid (R1.out.kept hb2)
        have HO2 := Lib.hid (HO1.out.below hb2)
        have hBw1 : B ≤ w1.heap.size := Nat.le_trans HW1.out.hB (Nat.le_of_lt HW1.out.row.lt)
        have hbR2 := hbR1.trans (hb2.mono hBw1)
        clear k8 k21 HW1 R1 HO1 hbR1 hb2 hBw1
        generalize grow (redrawn w1 dq) osq = w2 at *
        refine (show wpList _ _ _ _ _ _ from ?_)
        simp only [List.drop, Act.put, List.setIfInBounds_toArray, List.set]
        by_cases hge : pw.age + 1 ≥ s.ma
        · have HEQ : Hid (SP.aged s.ma ⟨pc, up, true, pw, prole, pstate, psince⟩ = ⟨pc, up, false, .zero, prole, pstate, psince⟩) := by show _ = _; rw [HEQ.out, if_pos hge]; rfl
          rw [HEQ.out] at HN
          go_wp2_with ((with_reducible refine at_store 4 (.tmp 42) (.const (.bool false)) ?_); refine wpList_store_cell rfl 4 (.tmp 42) (.const (.bool false)) rfl (pbs[i]) 2 _ rfl rfl 85 _ R2.out (show 2 < 30 by decide) (by kernel_rfl) rfl B (HW2.out.ports i hip).1 ?_)
          intro w3 hR3 ho3 hs3 hb3
          have R3 : Hid (RowIs w3 pbs[i] 85 (SP.cells ⟨pc, up, false, { pw with age := pw.age + 1 }, prole, pstate, psince⟩)) := hR3
          have HW3 : Hid (SpAt B S g cap pbs w3 (si.put i ⟨pc, up, false, { pw with age := pw.age + 1 }, prole, pstate, psince⟩)) := by
            have := HW2.out.portSet (p := ⟨pc, up, false, { pw with age := pw.age + 1 }, prole, pstate, psince⟩) hip hR3 ho3
            rw [SS.put_put] at this
            exact this
          have HO3 := Lib.hid (HO2.out.store (S := pbs[i]) (by simp) ho3 hs3)
          have hbR3 := hbR2.trans hb3
          clear R2 HW2 HO2 hbR2 hR3 ho3 hs3 hb3
          go_wp2_with ((with_reducible refine at_store 45 (.tmp 44) (.tmp 40) ?_); refine wpList_store_part rfl 45 (.tmp 44) (.tmp 40) rfl (pbs[i]) 3 _ rfl rfl 85 _ R3.out (show 3 + 24 ≤ 30 by decide) (by kernel_rfl) (by simp [Value.oneCell']) (SP.cells ⟨pc, up, false, .zero, prole, pstate, psince⟩) (by kernel_rfl) B (HW3.out.ports i hip).1 ?_)
          intro w4 hR4 ho4 hs4 hb4
          have HW4 : Hid (SpAt B S g cap pbs w4 (si.put i ⟨pc, up, false, .zero, prole, pstate, psince⟩)) := by
            have := HW3.out.portSet (p := ⟨pc, up, false, .zero, prole, pstate, psince⟩) hip hR4 ho4
            rw [SS.put_put] at this
            exact this
          have HO4 := Lib.hid (HO3.out.store (S := pbs[i]) (by simp) ho4 hs4)
          have hbR4 := hbR3.trans hb4
          clear R3 HW3 HO3 hbR3 hR4 ho4 hs4 hb4
          go_wp2_with fail
          refine ⟨⟨i + 1, by omega, by go_num, ?_, hbR4, HO4⟩, by simp [intOf]; omega⟩
          show SpAt _ _ _ _ _ _ _
          rw [HN.out]
          exact HW4.out
        · have HEQ : Hid (SP.aged s.ma ⟨pc, up, true, pw, prole, pstate, psince⟩ = ⟨pc, up, true, { pw with age := pw.age + 1 }, prole, pstate, psince⟩) := by show _ = _; rw [HEQ.out, if_neg hge]; rfl
          rw [HEQ.out] at HN
          go_wp2_with fail
          refine ⟨⟨i + 1, by omega, by go_num, ?_, hbR2, HO2⟩, by simp [intOf]; omega⟩
          show SpAt _ _ _ _ _ _ _
          rw [HN.out]
          exact HW2.out
    · obtain rfl : i = s.ports.length := by omega
      go_wp2_with fail
      go_end0
      exact ⟨rfl, by rw [HE.out]; exact HW.out, hbR, HOR.out⟩
end Go.Proofs.Ytdhiaidbpjjljaa
