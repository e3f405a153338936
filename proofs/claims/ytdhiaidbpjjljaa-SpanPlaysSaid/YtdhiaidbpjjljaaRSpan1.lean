/- causeyref17: Right, copied. By an AI agent. -/
import Derived.Test.YtdhiaidbpjjljaaRSpan0
import Derived.Maps.AppendAt
namespace Go.Proofs.Ytdhiaidbpjjljaa
open Go.RowKit Go.WideShapes Go.Sort Grow

theorem newOk_cases {zs : List Int} {ma he de : Int} (h : anyBad zs = false) : (newOk zs ma he de = true ∧ decide ((1 : Int) ≤ (zs.length : Int)) = true ∧ decide ((zs.length : Int) ≤ 32) = true ∧ decide ((1 : Int) ≤ he) = true ∧ decide (he ≤ 100) = true ∧ decide (2 * he < ma) = true ∧ decide (ma ≤ 1000) = true ∧ decide ((1 : Int) ≤ de) = true ∧ decide (de ≤ 1000) = true) ∨ (newOk zs ma he de = false ∧ decide ((1 : Int) ≤ (zs.length : Int)) = false) ∨ (newOk zs ma he de = false ∧ decide ((1 : Int) ≤ (zs.length : Int)) = true ∧ decide ((zs.length : Int) ≤ 32) = false) ∨ (newOk zs ma he de = false ∧ decide ((1 : Int) ≤ (zs.length : Int)) = true ∧ decide ((zs.length : Int) ≤ 32) = true ∧ decide ((1 : Int) ≤ he) = false) ∨ (newOk zs ma he de = false ∧ decide ((1 : Int) ≤ (zs.length : Int)) = true ∧ decide ((zs.length : Int) ≤ 32) = true ∧ decide ((1 : Int) ≤ he) = true ∧ decide (he ≤ 100) = false) ∨ (newOk zs ma he de = false ∧ decide ((1 : Int) ≤ (zs.length : Int)) = true ∧ decide ((zs.length : Int) ≤ 32) = true ∧ decide ((1 : Int) ≤ he) = true ∧ decide (he ≤ 100) = true ∧ decide (2 * he < ma) = false) ∨ (newOk zs ma he de = false ∧ decide ((1 : Int) ≤ (zs.length : Int)) = true ∧ decide ((zs.length : Int) ≤ 32) = true ∧ decide ((1 : Int) ≤ he) = true ∧ decide (he ≤ 100) = true ∧ decide (2 * he < ma) = true ∧ decide (ma ≤ 1000) = false) ∨ (newOk zs ma he de = false ∧ decide ((1 : Int) ≤ (zs.length : Int)) = true ∧ decide ((zs.length : Int) ≤ 32) = true ∧ decide ((1 : Int) ≤ he) = true ∧ decide (he ≤ 100) = true ∧ decide (2 * he < ma) = true ∧ decide (ma ≤ 1000) = true ∧ decide ((1 : Int) ≤ de) = false) ∨ (newOk zs ma he de = false ∧ decide ((1 : Int) ≤ (zs.length : Int)) = true ∧ decide ((zs.length : Int) ≤ 32) = true ∧ decide ((1 : Int) ≤ he) = true ∧ decide (he ≤ 100) = true ∧ decide (2 * he < ma) = true ∧ decide (ma ≤ 1000) = true ∧ decide ((1 : Int) ≤ de) = true ∧ decide (de ≤ 1000) = false) := by
  have e : newOk zs ma he de = (decide (1 ≤ he) && decide (he ≤ 100) && decide (2 * he < ma) && decide (ma ≤ 1000) && decide (1 ≤ de) && decide (de ≤ 1000) && decide (1 ≤ (zs.length : Int)) && decide ((zs.length : Int) ≤ 32)) := by
    unfold newOk rightT
    rw [h, Bool.eq_iff_iff]
    simp only [Bool.and_eq_true, decide_eq_true_eq, Bool.not_false, and_true]
    omega
  rw [e]
  cases h1 : decide (1 ≤ he) <;> cases h2 : decide (he ≤ 100) <;> cases h3 : decide (2 * he < ma) <;> cases h4 : decide (ma ≤ 1000) <;> cases h5 : decide (1 ≤ de) <;> cases h6 : decide (de ≤ 1000) <;> cases h7 : decide (1 ≤ (zs.length : Int)) <;> cases h8 : decide ((zs.length : Int) ≤ 32) <;> simp
theorem newOk_bad {zs : List Int} {ma he de : Int} (h : anyBad zs = true) : newOk zs ma he de = false := by
  unfold newOk
  rw [h]
  simp
theorem anyBad_at {zs : List Int} {i : Nat} (hi : i < zs.length) (h : okLim (zs.getD i 0) = false) : anyBad zs = true := by
  unfold anyBad
  simp only [Bool.not_eq_true']
  rw [List.all_eq_false]
  refine ⟨zs.getD i 0, ?_, by rw [h]; decide⟩
  rw [List.getD, List.getElem?_eq_getElem hi]
  exact List.getElem_mem hi

set_option maxRecDepth 20000 in
set_option maxHeartbeats 4000000 in
theorem refRight17_any (a0 : Option Addr) (zs : List Int) (cap0 : Nat) (ma he de : Int) (w : World) (hA0 : IntsAt w a0 zs) (hz : zs.length ≤ 100) :
    Calls Try.prog 16 #[.slice a0 zs.length cap0, .int .i64 ma, .int .i64 he, .int .i64 de] w fun e w' => e = .returned (.bool (newOk zs ma he de)) ∧ w = w' := by
  have fin : anyBad zs = false → (∀ i, i < zs.length → okLim (zs.getD i 0) = true) := fun h i hi => by
    cases hc : okLim (zs.getD i 0)
    · rw [anyBad_at hi hc] at h
      cases h
    · rfl
  have FIN : Hid ((∀ i, i < zs.length → okLim (zs.getD i 0) = true) → anyBad zs = false) := fun h => by
    unfold anyBad
    simp only [Bool.not_eq_false']
    rw [List.all_eq_true]
    intro x hx
    obtain ⟨i, hi, rfl⟩ := List.getElem_of_mem hx
    have := h i hi
    rw [List.getD, List.getElem?_eq_getElem hi] at this
    exact this
  clear fin
  have HB := Lib.hid (@newOk_bad zs ma he de)
  have HC := Lib.hid (@newOk_cases zs ma he de)
  have HAT : Hid (∀ i, i < zs.length → okLim (zs.getD i 0) = false → anyBad zs = true) := fun i h1 h2 => anyBad_at h1 h2
  have HA := Lib.hid hA0
  clear hA0
  go_enter Try.func16, Try.ntmps16
  go_upto_region 1 with fail
  go_wp2_with fail
  go_loopw [9] (fun s9 wr => ∃ i : Nat, i ≤ zs.length ∧ s9 = .int .i64 i ∧ Hid (∀ k, k < i → okLim (zs.getD k 0) = true) ∧ w = wr) (fun s9 _ => zs.length - (intOf s9).toNat)
  case atStart => exact ⟨0, Nat.zero_le _, rfl, fun k hk => absurd hk (Nat.not_lt_zero _), rfl⟩
  case round =>
    obtain ⟨i, hi, rfl, HALL, rfl⟩ := hrel
    by_cases hlt : i < zs.length
    · have hcell : ∃ b off, a0 = some ⟨b, off, none⟩ ∧ w.cell? ⟨b, off + i, none⟩ = some (.int .i64 (zs.getD i 0)) := by
        rcases HA.out with h | ⟨b, off, e1, h⟩
        · rw [h] at hlt
          exact absurd hlt (Nat.not_lt_zero _)
        · exact ⟨b, off, e1, h i hlt⟩
      obtain ⟨b, off, rfl, hc⟩ := hcell
      have HBD : Hid (okLim (zs.getD i 0) = false → newOk zs ma he de = false) := fun h => HB.out (HAT.out i hlt h)
      have HOKI : Hid (okLim (zs.getD i 0) = decide (1 ≤ zs.getD i 0 ∧ zs.getD i 0 ≤ 65535)) := rfl
      have HGE : Hid (∀ k, k < i + 1 → (okLim (zs.getD i 0) = true → okLim (zs.getD k 0) = true)) := fun k hk h => by
        rcases (show k < i ∨ k = i from by omega) with h1 | rfl
        · exact HALL.out k h1
        · exact h
      generalize hx : zs.getD i 0 = x at hc HBD HOKI HGE
      clear hx
      have q := cell_regrown hc
      by_cases c1 : x < 1
      · have HF := Lib.hid (HBD.out (by rw [HOKI.out]; simp; omega))
        clear HBD HOKI HGE HALL
        go_wp2_with fail
        go_ret
        exact ⟨by rw [HF.out]; rfl, rfl⟩
      · by_cases c2 : 65535 < x
        · have HF := Lib.hid (HBD.out (by rw [HOKI.out]; simp; omega))
          clear HBD HOKI HGE HALL
          go_wp2_with fail
          go_ret
          exact ⟨by rw [HF.out]; rfl, rfl⟩
        · have HT : Hid (okLim x = true) := by show _ = _; rw [HOKI.out]; simp; omega
          clear HBD HOKI
          go_wp2_with fail
          refine ⟨⟨i + 1, by omega, by go_num, fun k hk => HGE.out k hk HT.out, trivial⟩, by simp [intOf]; omega⟩
    · obtain rfl : i = zs.length := by omega
      have hnb := FIN.out HALL.out
      have w2 : (1 : Int) ≤ he → he ≤ 100 → IntKind.i64.wrap (2 * he) = 2 * he := fun h1 h2 => IntWalk.i64_in _ (by omega)
      have hcs := HC.out hnb
      clear HB HC HAT HA FIN HALL hnb
      rcases hcs with ⟨e, f1, f2, f3, f4, f5, f6, f7, f8⟩ | ⟨e, f1⟩ | ⟨e, f1, f2⟩ | ⟨e, f1, f2, f3⟩ | ⟨e, f1, f2, f3, f4⟩ | ⟨e, f1, f2, f3, f4, f5⟩ | ⟨e, f1, f2, f3, f4, f5, f6⟩ | ⟨e, f1, f2, f3, f4, f5, f6, f7⟩ | ⟨e, f1, f2, f3, f4, f5, f6, f7, f8⟩
      · have E := Lib.hid e
        clear e
        have w3 := w2 (of_decide_eq_true f3) (of_decide_eq_true f4)
        clear w2
        go_wp2_with fail
        go_ret
        exact ⟨by rw [E.out]; rfl, rfl⟩
      · have E := Lib.hid e
        clear e
        clear w2
        go_wp2_with fail
        go_ret
        exact ⟨by rw [E.out]; rfl, rfl⟩
      · have E := Lib.hid e
        clear e
        clear w2
        go_wp2_with fail
        go_ret
        exact ⟨by rw [E.out]; rfl, rfl⟩
      · have E := Lib.hid e
        clear e
        clear w2
        go_wp2_with fail
        go_ret
        exact ⟨by rw [E.out]; rfl, rfl⟩
      · have E := Lib.hid e
        clear e
        clear w2
        go_wp2_with fail
        go_ret
        exact ⟨by rw [E.out]; rfl, rfl⟩
      · have E := Lib.hid e
        clear e
        have w3 := w2 (of_decide_eq_true f3) (of_decide_eq_true f4)
        clear w2
        go_wp2_with fail
        go_ret
        exact ⟨by rw [E.out]; rfl, rfl⟩
      · have E := Lib.hid e
        clear e
        have w3 := w2 (of_decide_eq_true f3) (of_decide_eq_true f4)
        clear w2
        go_wp2_with fail
        go_ret
        exact ⟨by rw [E.out]; rfl, rfl⟩
      · have E := Lib.hid e
        clear e
        have w3 := w2 (of_decide_eq_true f3) (of_decide_eq_true f4)
        clear w2
        go_wp2_with fail
        go_ret
        exact ⟨by rw [E.out]; rfl, rfl⟩
      · have E := Lib.hid e
        clear e
        have w3 := w2 (of_decide_eq_true f3) (of_decide_eq_true f4)
        clear w2
        go_wp2_with fail
        go_ret
        exact ⟨by rw [E.out]; rfl, rfl⟩

theorem info_rport : ∃ i z, Try.prog.info? 75 = some i ∧ i.zero = some z ∧ i.size = 30 ∧ i.bytes = 112 ∧ z.cells.size = 30 := by
  have h : (Try.prog.info? 75).map (fun i => (i.zero.map (·.cells.size), i.size, i.bytes)) = some (some 30, 30, 112) := by kernel_rfl
  obtain ⟨i, hi, h⟩ := Option.map_eq_some_iff.1 h
  simp only [Prod.mk.injEq] at h
  obtain ⟨z, hz, h18⟩ := Option.map_eq_some_iff.1 h.1
  exact ⟨i, z, hi, hz, h.2.1, h.2.2, h18⟩

set_option maxRecDepth 20000 in
set_option maxHeartbeats 4000000 in
theorem refCopied_any (B g cap : Nat) (s : SS) (w : World) (hR : RAt B g cap w s.ports) (hl : s.ports.length ≤ 1000) :
    Calls Try.prog 39 #[.agg #[.int .u8 ((s.id.f 0).toNat : Int), .int .u8 ((s.id.f 1).toNat : Int), .int .u8 ((s.id.f 2).toNat : Int), .int .u8 ((s.id.f 3).toNat : Int), .int .u8 ((s.id.f 4).toNat : Int), .int .u8 ((s.id.f 5).toNat : Int), .int .u8 ((s.id.f 6).toNat : Int), .int .u8 ((s.id.f 7).toNat : Int), .int .i64 s.ma, .int .i64 s.he, .int .i64 s.de, .int .i64 s.now, .int .i64 s.chg, .slice (some ⟨g, 0, none⟩) s.ports.length cap, .int .u8 ((s.best.r.f 0).toNat : Int), .int .u8 ((s.best.r.f 1).toNat : Int), .int .u8 ((s.best.r.f 2).toNat : Int), .int .u8 ((s.best.r.f 3).toNat : Int), .int .u8 ((s.best.r.f 4).toNat : Int), .int .u8 ((s.best.r.f 5).toNat : Int), .int .u8 ((s.best.r.f 6).toNat : Int), .int .u8 ((s.best.r.f 7).toNat : Int), .int .i64 s.best.c, .int .u8 ((s.best.b.f 0).toNat : Int), .int .u8 ((s.best.b.f 1).toNat : Int), .int .u8 ((s.best.b.f 2).toNat : Int), .int .u8 ((s.best.b.f 3).toNat : Int), .int .u8 ((s.best.b.f 4).toNat : Int), .int .u8 ((s.best.b.f 5).toNat : Int), .int .u8 ((s.best.b.f 6).toNat : Int), .int .u8 ((s.best.b.f 7).toNat : Int), .int .i64 s.best.p, .int .i64 s.root]] w fun e w' => ∃ g' cap', e = .returned (.agg #[.int .u8 ((s.id.f 0).toNat : Int), .int .u8 ((s.id.f 1).toNat : Int), .int .u8 ((s.id.f 2).toNat : Int), .int .u8 ((s.id.f 3).toNat : Int), .int .u8 ((s.id.f 4).toNat : Int), .int .u8 ((s.id.f 5).toNat : Int), .int .u8 ((s.id.f 6).toNat : Int), .int .u8 ((s.id.f 7).toNat : Int), .int .i64 s.ma, .int .i64 s.he, .int .i64 s.de, .int .i64 s.now, .int .i64 s.chg, (.slice (some ⟨g', 0, none⟩) s.ports.length cap'), .int .u8 ((s.best.r.f 0).toNat : Int), .int .u8 ((s.best.r.f 1).toNat : Int), .int .u8 ((s.best.r.f 2).toNat : Int), .int .u8 ((s.best.r.f 3).toNat : Int), .int .u8 ((s.best.r.f 4).toNat : Int), .int .u8 ((s.best.r.f 5).toNat : Int), .int .u8 ((s.best.r.f 6).toNat : Int), .int .u8 ((s.best.r.f 7).toNat : Int), .int .i64 s.best.c, .int .u8 ((s.best.b.f 0).toNat : Int), .int .u8 ((s.best.b.f 1).toNat : Int), .int .u8 ((s.best.b.f 2).toNat : Int), .int .u8 ((s.best.b.f 3).toNat : Int), .int .u8 ((s.best.b.f 4).toNat : Int), .int .u8 ((s.best.b.f 5).toNat : Int), .int .u8 ((s.best.b.f 6).toNat : Int), .int .u8 ((s.best.b.f 7).toNat : Int), .int .i64 s.best.p, .int .i64 s.root]) ∧ RAt w.heap.size g' cap' w' s.ports ∧ Below w.heap.size w w' := by
  have HR := Lib.hid hR
  clear hR
  go_enter Try.func39, Try.ntmps39
  go_upto_region 1 with fail
  generalize hW : (w.alloc _).alloc _ = W
  have hbW : Below w.heap.size w W := by rw [← hW]; exact ((Below.refl _ _).alloc (Nat.le_refl _) _).alloc (by simp) _
  have R1 : Hid (RowIs W w.heap.size 59 #[.int .u8 ((s.id.f 0).toNat : Int), .int .u8 ((s.id.f 1).toNat : Int), .int .u8 ((s.id.f 2).toNat : Int), .int .u8 ((s.id.f 3).toNat : Int), .int .u8 ((s.id.f 4).toNat : Int), .int .u8 ((s.id.f 5).toNat : Int), .int .u8 ((s.id.f 6).toNat : Int), .int .u8 ((s.id.f 7).toNat : Int), .int .i64 s.ma, .int .i64 s.he, .int .i64 s.de, .int .i64 s.now, .int .i64 s.chg, .slice (some ⟨g, 0, none⟩) s.ports.length cap, .int .u8 ((s.best.r.f 0).toNat : Int), .int .u8 ((s.best.r.f 1).toNat : Int), .int .u8 ((s.best.r.f 2).toNat : Int), .int .u8 ((s.best.r.f 3).toNat : Int), .int .u8 ((s.best.r.f 4).toNat : Int), .int .u8 ((s.best.r.f 5).toNat : Int), .int .u8 ((s.best.r.f 6).toNat : Int), .int .u8 ((s.best.r.f 7).toNat : Int), .int .i64 s.best.c, .int .u8 ((s.best.b.f 0).toNat : Int), .int .u8 ((s.best.b.f 1).toNat : Int), .int .u8 ((s.best.b.f 2).toNat : Int), .int .u8 ((s.best.b.f 3).toNat : Int), .int .u8 ((s.best.b.f 4).toNat : Int), .int .u8 ((s.best.b.f 5).toNat : Int), .int .u8 ((s.best.b.f 6).toNat : Int), .int .u8 ((s.best.b.f 7).toNat : Int), .int .i64 s.best.p, .int .i64 s.root]) := by subst hW; exact (rowIs_new w _ _).alloc _
  have R2 : Hid (RowIs W (w.heap.size + 1) 59 #[.int .u8 0, .int .u8 0, .int .u8 0, .int .u8 0, .int .u8 0, .int .u8 0, .int .u8 0, .int .u8 0, .int .i64 0, .int .i64 0, .int .i64 0, .int .i64 0, .int .i64 0, .slice none 0 0, .int .u8 0, .int .u8 0, .int .u8 0, .int .u8 0, .int .u8 0, .int .u8 0, .int .u8 0, .int .u8 0, .int .i64 0, .int .u8 0, .int .u8 0, .int .u8 0, .int .u8 0, .int .u8 0, .int .u8 0, .int .u8 0, .int .u8 0, .int .i64 0, .int .i64 0]) := by subst hW; exact rowIs_new1 w _ _ _
  clear hW
  have R3 : Hid (RowIs (W.alloc (.cells #[] 75)) W.heap.size 75 #[]) := rowIs_new W _ _
  have R1a := Lib.hid (R1.out.alloc (.cells #[] 75))
  have R2a := Lib.hid (R2.out.alloc (.cells #[] 75))
  have hbX : Below w.heap.size w (W.alloc (.cells #[] 75)) := hbW.alloc hbW.size _
  have HRa := Lib.hid (HR.out.later hbX)
  have c13 : (W.alloc (.cells #[] 75)).cell? ⟨w.heap.size, 13, none⟩ = some (.slice (some ⟨g, 0, none⟩) s.ports.length cap) := R1a.out.cell 13
  have hW1 : w.heap.size + 1 < W.heap.size := R2.out.lt
  clear R1 R2 HR
  obtain ⟨ti, tz, hti, htz, hz1, hz2, hz3⟩ := info_rport
  have HI := Lib.hid hti
  have HZ := Lib.hid htz
  clear hti htz
  have hown : (W.alloc (.cells #[] 75)).ownsRow w.heap.size 75 30 (.slice (some ⟨W.heap.size, 0, none⟩) 0 0) 0 [] := ⟨rfl, .inr ⟨W.heap.size, 0, #[], rfl, by omega, R3.out, Nat.le_refl _, Nat.zero_le _, rfl, rfl⟩⟩
  have HOWN := Lib.hid hown
  have hnl : (s.ports.flatMap SP.rc).length = s.ports.length * 30 := by
    generalize s.ports = qs
    induction qs with
    | nil => rfl
    | cons q qs ih => rw [List.flatMap_cons, List.length_append, ih, SP.rc_len, List.length_cons]; omega
  have HNL := Lib.hid hnl
  have HNC : Hid (∀ u ∈ s.ports.flatMap SP.rc, u.oneCell' = true) := by
    show ∀ u ∈ _, _
    intro u hu
    obtain ⟨p, _, hp⟩ := List.mem_flatMap.1 hu
    have key : ∀ u ∈ p.rc, u.oneCell' = true := by
      unfold SP.rc
      simp [Value.oneCell']
    exact key u hp
  have HNEW : Hid (∀ j u, (s.ports.flatMap SP.rc)[j]? = some u → (W.alloc (.cells #[] 75)).cell? ((⟨g, 0, none⟩ : Addr).add j) = some u) := by
    show ∀ j u, _
    intro j u hj
    obtain ⟨cur, r1, r2, r3, r4, r5⟩ := HRa.out.row
    have hjl := (List.getElem?_eq_some_iff.1 hj).1
    rw [hnl] at hjl
    rw [addr_add, r1.cell, ← Array.getElem?_toList]
    rw [← r5, List.getElem?_take_of_lt hjl] at hj
    exact hj
  generalize hY : W.alloc (.cells #[] 75) = Y at *
  clear hnl hown
  go_wp2_with (at_builtin; refine wpList_append_own_at _ rfl (.tmp 3) (.tmp 5) 55 rfl w.heap.size 75 ti tz 30 112 Try.underlying55 HI.out HZ.out hz1 hz2 hz3 (by decide) _ 0 [] rfl HOWN.out ⟨g, 0, none⟩ s.ports.length cap (s.ports.flatMap SP.rc) rfl HNL.out HNEW.out HNC.out ?c3 ?c4 ?c5 ?c6)
  case c3 => simp [maxLen]; omega
  case c4 => omega
  case c5 => exact hbX.size
  intro v' w3 ho3 hg3 hiff hblk
  have hyz : w.heap.size + 2 ≤ Y.heap.size := by
    rw [← hY]
    simp
    omega
  have hbAP : Below (w.heap.size + 2) Y w3 := (Below.refl _ Y).grown hg3 hyz (fun k e1 => by
    simp only [Value.ownBlock, Option.some.injEq] at e1
    omega)
  obtain ⟨g', cap', rfl, hRA⟩ : ∃ g' cap', v' = .slice (some ⟨g', 0, none⟩) s.ports.length cap' ∧ RAt w.heap.size g' cap' w3 s.ports := by
    rcases ho3.2 with ⟨e, _⟩ | ⟨g', cap', cur, e, q1, q2, q3, q4, q5, q6⟩
    · exact (hiff e).elim
    · exact ⟨g', cap', e, q1, cur, q2, q5, q3, q4, by rw [q6]⟩
  have HRA := Lib.hid hRA
  have R1b : Hid (RowIs w3 w.heap.size 59 (s.rv (.slice (some ⟨g, 0, none⟩) s.ports.length cap))) := R1a.out.below hbAP (by omega)
  have R2b := Lib.hid (R2a.out.below hbAP (by omega))
  have hbZ : Below w.heap.size w w3 := hbX.trans (hbAP.mono (by omega))
  have hgne : g' ≠ w.heap.size ∧ g' ≠ w.heap.size + 1 := by
    simp only [Value.ownBlock, Option.some.injEq] at hblk
    omega
  clear hRA hbAP hyz hg3 ho3 hblk hiff R1a R2a R3 HRa HOWN HNL HNC HNEW HI HZ hbX hbW hY c13
  go_wp2_with ((with_reducible refine at_store 55 (.tmp 7) (.tmp 6) ?_); refine wpList_store_cell rfl 55 (.tmp 7) (.tmp 6) rfl (w.heap.size) 13 ((.slice (some ⟨g', 0, none⟩) s.ports.length cap')) rfl rfl 59 _ R1b.out (show 13 < 33 from by decide) (by kernel_rfl) rfl (w.heap.size) (Nat.le_refl _) ?_)
  intro w4 hR4 ho4 hs4 hb4
  have R1c : Hid (RowIs w4 w.heap.size 59 #[.int .u8 ((s.id.f 0).toNat : Int), .int .u8 ((s.id.f 1).toNat : Int), .int .u8 ((s.id.f 2).toNat : Int), .int .u8 ((s.id.f 3).toNat : Int), .int .u8 ((s.id.f 4).toNat : Int), .int .u8 ((s.id.f 5).toNat : Int), .int .u8 ((s.id.f 6).toNat : Int), .int .u8 ((s.id.f 7).toNat : Int), .int .i64 s.ma, .int .i64 s.he, .int .i64 s.de, .int .i64 s.now, .int .i64 s.chg, (.slice (some ⟨g', 0, none⟩) s.ports.length cap'), .int .u8 ((s.best.r.f 0).toNat : Int), .int .u8 ((s.best.r.f 1).toNat : Int), .int .u8 ((s.best.r.f 2).toNat : Int), .int .u8 ((s.best.r.f 3).toNat : Int), .int .u8 ((s.best.r.f 4).toNat : Int), .int .u8 ((s.best.r.f 5).toNat : Int), .int .u8 ((s.best.r.f 6).toNat : Int), .int .u8 ((s.best.r.f 7).toNat : Int), .int .i64 s.best.c, .int .u8 ((s.best.b.f 0).toNat : Int), .int .u8 ((s.best.b.f 1).toNat : Int), .int .u8 ((s.best.b.f 2).toNat : Int), .int .u8 ((s.best.b.f 3).toNat : Int), .int .u8 ((s.best.b.f 4).toNat : Int), .int .u8 ((s.best.b.f 5).toNat : Int), .int .u8 ((s.best.b.f 6).toNat : Int), .int .u8 ((s.best.b.f 7).toNat : Int), .int .i64 s.best.p, .int .i64 s.root]) := hR4
  have R2c := Lib.hid (rowIs_same R2b.out (ho4 _ (by omega)))
  have HRB := Lib.hid (HRA.out.same (ho4 _ hgne.1))
  have hbV := hbZ.trans (hb4.mono (Nat.le_refl _))
  clear hR4 ho4 hs4 hb4 R1b R2b HRA hbZ
  go_wp2_with (first
    | ((with_reducible refine at_load 59 (.tmp 1) ?_); refine wpList_load_own rfl 59 (.tmp 1) rfl (w.heap.size) rfl _ _ _ R1c.out Try.underlying59 rfl (by kernel_rfl) ?_)
    | ((with_reducible refine at_store 59 (.tmp 2) (.tmp 8) ?_); refine wpList_store_own rfl 59 (.tmp 2) (.tmp 8) rfl (w.heap.size + 1) _ rfl rfl _ _ R2c.out (by kernel_rfl) rfl (by simp [Value.oneCell']) w.heap.size (by omega) ?_))
  intro w5 hR5 ho5 hs5 hb5
  have R2d := Lib.hid hR5
  have HRD := HRB.out.same (ho5 _ hgne.2)
  have hbU := hbV.trans hb5
  clear hR5 ho5 hs5 hb5 R1c R2c HRB hbV
  go_wp2_with fail
  refine bodyPost_ret (results_row Try.results39 _ _ (w.heap.size + 1) _ _ _ rfl R2d.out Try.underlying59 rfl (by kernel_rfl)) rfl ?_
  exact ⟨g', cap', rfl, HRD, hbU⟩

end Go.Proofs.Ytdhiaidbpjjljaa
