/- span: Set. By an AI agent. -/
import Derived.Test.YtdhiaidbpjjljaaSpan7
namespace Go.Proofs.Ytdhiaidbpjjljaa
open Go.RowKit Go.Sort Grow

theorem SS.Ok.put {s : SS} {n : Int} (h : s.Ok n) (k : Nat) (p : SP) (hk : k < s.ports.length) (hs : 0 ≤ p.since ∧ p.since ≤ s.now) (ha : 0 ≤ p.w.age ∧ p.w.age ≤ 1000) : (s.put k p).Ok n := by
  have hp : ∀ j, (s.put k p).port j = if j = k then p else s.port j := fun j => s.port_put k j p hk
  refine ⟨h.chg, h.now, fun j => ?_, fun j => ?_, h.ma, h.he, h.de, ?_, by rw [SS.put_len]; exact h.len, h.noroot⟩
  · rw [hp]
    split
    · exact hs
    · exact h.since j
  · rw [hp]
    split
    · exact ha
    · exact h.age j
  · unfold SS.RootOk
    rw [SS.put_len]
    exact h.root

def SP.upTo (p : SP) (up : Bool) : SP := if up then { p with up := true } else { p with up := false, heard := false, w := .zero }
def SS.setF (s : SS) (k : Nat) (up : Bool) : SS × Bool := (s.put k ((s.port k).upTo up)).found
def SS.setUp (s : SS) (i : Int) (up : Bool) : SS × List SO :=
  if s.has i = true then ((s.setF i.toNat up).1, if (s.setF i.toNat up).2 = true then (s.setF i.toNat up).1.tells (fun _ => true) else []) else (s, [])
theorem SP.upTo_ok (p : SP) (up : Bool) (now : Int) (hs : 0 ≤ p.since ∧ p.since ≤ now) (ha : 0 ≤ p.w.age ∧ p.w.age ≤ 1000) : (0 ≤ (p.upTo up).since ∧ (p.upTo up).since ≤ now) ∧ (0 ≤ (p.upTo up).w.age ∧ (p.upTo up).w.age ≤ 1000) := by
  unfold SP.upTo
  split
  · exact ⟨hs, ha⟩
  · exact ⟨hs, Int.le_refl _, show (0 : Int) ≤ 1000 by decide⟩
theorem SS.Ok.setF {s : SS} {n : Int} (h : s.Ok n) (k : Nat) (up : Bool) (hk : k < s.ports.length) : (s.setF k up).1.Ok (n + 100) :=
  (h.put k _ hk ((s.port k).upTo_ok up s.now (h.since k) (h.age k)).1 ((s.port k).upTo_ok up s.now (h.since k) (h.age k)).2).found
theorem SS.Ok.setUp {s : SS} {n : Int} (h : s.Ok n) (i : Int) (up : Bool) : (s.setUp i up).1.Ok (n + 100) := by
  unfold SS.setUp
  split
  · rename_i hh
    obtain ⟨k, rfl, hk⟩ := s.has_true i hh
    exact h.setF _ up hk
  · exact h.mono (by omega)

set_option maxRecDepth 20000 in
set_option maxHeartbeats 8000000 in
theorem set_any (B S g cap : Nat) (pbs : List Nat) (w : World) (s : SS) (h : SpAt B S g cap pbs w s) (n : Int) (hok : s.Ok n) (hn : n ≤ 900000000) (i : Int) (hi : (Lit.int .i64 i).wf = true) (up : Bool) :
    Calls Try.prog 8 #[.pointer (some ⟨S, 0, none⟩), .int .i64 i, .bool up] w fun e w' => ∃ v, e = .returned v ∧ OutAt w' w.heap.size v (s.setUp i up).2 ∧ SpAt B S g cap pbs w' (s.setUp i up).1 ∧ Below B w w' ∧ Only (S :: pbs) w w' := by
  have hp1 := hok.len
  have hlen : s.ports.length = pbs.length := h.len.symm
  have hp : pbs.length ≤ 1000 := by omega
  have HH := Lib.hid (has_any B S g cap pbs w s h hp i hi)
  have HA := Lib.hid h
  have hB0 : B ≤ w.heap.size := Nat.le_trans h.hB (Nat.le_of_lt h.row.lt)
  have HE : Hid (s.setUp i up = if s.has i = true then ((s.setF i.toNat up).1, if (s.setF i.toNat up).2 = true then (s.setF i.toNat up).1.tells (fun _ => true) else []) else (s, [])) := rfl
  cases hh : s.has i
  · have HE : Hid (s.setUp i up = (s, [])) := by show _ = _; rw [HE.out, hh]; rfl
    rw [hh] at HH
    clear h hi hh hok
    go_enter Try.func8, Try.ntmps8
    go_wp2_with fail
    refine HH.out.mono ?_
    rintro e w1 ⟨rfl, rfl⟩
    go_wp2_with fail
    go_ret
    rw [HE.out]
    exact ⟨_, rfl, (by exact out_nil _ _), HA.out, Below.refl _ _, Only.refl _ _⟩
  · rw [hh] at HH HE
    obtain ⟨k, rfl, hk⟩ := s.has_true i hh
    rw [Int.toNat_natCast] at HE
    have HE : Hid (s.setUp (k : Nat) up = ((s.setF k up).1, if (s.setF k up).2 = true then (s.setF k up).1.tells (fun _ => true) else [])) := HE.out
    have hkp : k < pbs.length := by omega
    have hip := hkp
    have q0 := h.ptr hkp
    have q1 : w.cell? ⟨S, 11, none⟩ = some (.slice (some ⟨g, 0, none⟩) s.ports.length cap) := h.row.cell 11
    have HOKF := Lib.hid (hok.setF k up hk)
    have HP := Lib.hid (h.ports k hkp).2
    have HSF : Hid (s.setF k up = (s.put k ((s.port k).upTo up)).found) := rfl
    have HOKP := Lib.hid (hok.put k _ hk ((s.port k).upTo_ok up s.now (hok.since k) (hok.age k)).1 ((s.port k).upTo_ok up s.now (hok.since k) (hok.age k)).2)
    generalize s.setF k up = sf at *
    obtain ⟨sf, ch⟩ := sf
    generalize s.port k = p at *
    obtain ⟨pc, up0, heard, pw, prole, pstate, psince⟩ := p
    clear h hi hh hok hp1
    go_enter Try.func8, Try.ntmps8
    go_wp2_with fail
    refine HH.out.mono ?_
    rintro e w1 ⟨rfl, rfl⟩
    go_wp2_with ((with_reducible refine at_store 4 (.tmp 22) (.tmp 20) ?_); refine wpList_store_cell rfl 4 (.tmp 22) (.tmp 20) rfl (pbs[k]) 1 _ rfl rfl 85 _ HP.out (show 1 < 30 by decide) (by kernel_rfl) rfl B (HA.out.ports k hip).1 ?_)
    intro w3 hR3 ho3 hs3 hb3
    have R3 : Hid (RowIs w3 pbs[k] 85 (SP.cells ⟨pc, up, heard, pw, prole, pstate, psince⟩)) := hR3
    have HW3 : Hid (SpAt B S g cap pbs w3 (s.put k ⟨pc, up, heard, pw, prole, pstate, psince⟩)) := HA.out.portSet hip hR3 ho3
    have HO3 : Hid (Only (S :: pbs) w w3) := (Only.refl _ w).store (S := pbs[k]) (by simp) ho3 hs3
    clear HP HA hR3 ho3 q0 q1 HH
    cases up
    · have HSF : Hid ((sf, ch) = (s.put k ⟨pc, false, false, .zero, prole, pstate, psince⟩).found) := HSF
      have HOKP : Hid ((s.put k ⟨pc, false, false, .zero, prole, pstate, psince⟩).Ok n) := HOKP
      go_wp2_with ((with_reducible refine at_store 4 (.tmp 29) (.const (.bool false)) ?_); refine wpList_store_cell rfl 4 (.tmp 29) (.const (.bool false)) rfl (pbs[k]) 2 _ rfl rfl 85 _ R3.out (show 2 < 30 by decide) (by kernel_rfl) rfl B (HW3.out.ports k hip).1 ?_)
      intro w4 hR4 ho4 hs4 hb4
      have R4 : Hid (RowIs w4 pbs[k] 85 (SP.cells ⟨pc, false, false, pw, prole, pstate, psince⟩)) := hR4
      have HW4 : Hid (SpAt B S g cap pbs w4 (s.put k ⟨pc, false, false, pw, prole, pstate, psince⟩)) := by
        have := HW3.out.portSet (p := ⟨pc, false, false, pw, prole, pstate, psince⟩) hip hR4 ho4
        rw [SS.put_put] at this
        exact this
      have HO4 := Lib.hid (HO3.out.store (S := pbs[k]) (by simp) ho4 (by omega))
      have hb4 := hb3.trans hb4
      clear R3 HW3 HO3 hb3 hR4 ho4
      go_wp2_with ((with_reducible refine at_store 45 (.tmp 31) (.tmp 27) ?_); refine wpList_store_part rfl 45 (.tmp 31) (.tmp 27) rfl (pbs[k]) 3 _ rfl rfl 85 _ R4.out (show 3 + 24 ≤ 30 by decide) (by kernel_rfl) (by simp [Value.oneCell']) (SP.cells ⟨pc, false, false, .zero, prole, pstate, psince⟩) (by kernel_rfl) B (HW4.out.ports k hip).1 ?_)
      intro w5 hR5 ho5 hs5 hb5
      have HW5 : Hid (SpAt B S g cap pbs w5 (s.put k ⟨pc, false, false, .zero, prole, pstate, psince⟩)) := by
        have := HW4.out.portSet (p := ⟨pc, false, false, .zero, prole, pstate, psince⟩) hip hR5 ho5
        rw [SS.put_put] at this
        exact this
      have HO5 := Lib.hid (HO4.out.store (S := pbs[k]) (by simp) ho5 (by omega))
      have hb5 := hb4.trans hb5
      have hsz5 : w.heap.size = w5.heap.size := by omega
      clear R4 HW4 HO4 hb4 hR5 ho5
      generalize s.put k ⟨pc, false, false, .zero, prole, pstate, psince⟩ = s5 at *
      have HF := Lib.hid (found_any B S g cap pbs w5 s5 HW5.out hp (by have := HOKP.out.chg; omega))
      rw [← HSF.out] at HF
      go_wp2_with fail
      refine HF.out.mono ?_
      rintro e w6 ⟨rfl, hA6, hb6, ho6⟩
      have HW6 : Hid (SpAt B S g cap pbs w6 sf) := hA6
      have HO6 := Lib.hid (HO5.out.trans ho6)
      have hb6 := hb5.trans hb6
      have hszw : w.heap.size ≤ w6.heap.size := HO6.out.1
      clear HF hA6 ho6 HW5 HO5 hb5 HOKP HSF
      cases ch
      · have HE : Hid (s.setUp (k : Nat) _ = (sf, [])) := HE.out
        go_wp2_with fail
        go_ret
        rw [HE.out]
        exact ⟨_, rfl, (by exact out_nil _ _), HW6.out, hb6, HO6.out⟩
      · have HE : Hid (s.setUp (k : Nat) _ = (sf, sf.tells (fun _ => true))) := HE.out
        have HOKF : Hid (sf.Ok (n + 100)) := HOKF
        have HON := Lib.hid (on_all B S g cap pbs w6 sf HW6.out hp HOKF.out.root HOKF.out.ages)
        go_wp2_with fail
        refine HON.out.mono ?_
        rintro e w7 ⟨v, rfl, hO7, hb7⟩
        have HO7 := Lib.hid hO7
        have HW7 := Lib.hid (HW6.out.later hb7)
        have HOO7 := Lib.hid (HO6.out.below hb7)
        have hbR7 := hb6.trans (hb7.mono (Nat.le_trans hB0 hszw))
        clear hO7 hb7 HON HW6 HO6 hb6
        go_wp2_with fail
        go_ret
        rw [HE.out]
        exact ⟨_, rfl, HO7.out.lower hszw, HW7.out, hbR7, HOO7.out⟩
    · have HSF : Hid ((sf, ch) = (s.put k ⟨pc, true, heard, pw, prole, pstate, psince⟩).found) := HSF
      have HOKP : Hid ((s.put k ⟨pc, true, heard, pw, prole, pstate, psince⟩).Ok n) := HOKP
      have HW5 := HW3
      have HO5 := HO3
      have hb5 := hb3
      have hsz5 : w.heap.size = w3.heap.size := by omega
      clear R3 HW3 HO3 hb3
      generalize s.put k ⟨pc, true, heard, pw, prole, pstate, psince⟩ = s5 at *
      generalize w3 = w5 at *
      have HF := Lib.hid (found_any B S g cap pbs w5 s5 HW5.out hp (by have := HOKP.out.chg; omega))
      rw [← HSF.out] at HF
      go_wp2_with fail
      refine HF.out.mono ?_
      rintro e w6 ⟨rfl, hA6, hb6, ho6⟩
      have HW6 : Hid (SpAt B S g cap pbs w6 sf) := hA6
      have HO6 := Lib.hid (HO5.out.trans ho6)
      have hb6 := hb5.trans hb6
      have hszw : w.heap.size ≤ w6.heap.size := HO6.out.1
      clear HF hA6 ho6 HW5 HO5 hb5 HOKP HSF
      cases ch
      · have HE : Hid (s.setUp (k : Nat) _ = (sf, [])) := HE.out
        go_wp2_with fail
        go_ret
        rw [HE.out]
        exact ⟨_, rfl, (by exact out_nil _ _), HW6.out, hb6, HO6.out⟩
      · have HE : Hid (s.setUp (k : Nat) _ = (sf, sf.tells (fun _ => true))) := HE.out
        have HOKF : Hid (sf.Ok (n + 100)) := HOKF
        have HON := Lib.hid (on_all B S g cap pbs w6 sf HW6.out hp HOKF.out.root HOKF.out.ages)
        go_wp2_with fail
        refine HON.out.mono ?_
        rintro e w7 ⟨v, rfl, hO7, hb7⟩
        have HO7 := Lib.hid hO7
        have HW7 := Lib.hid (HW6.out.later hb7)
        have HOO7 := Lib.hid (HO6.out.below hb7)
        have hbR7 := hb6.trans (hb7.mono (Nat.le_trans hB0 hszw))
        clear hO7 hb7 HON HW6 HO6 hb6
        go_wp2_with fail
        go_ret
        rw [HE.out]
        exact ⟨_, rfl, HO7.out.lower hszw, HW7.out, hbR7, HOO7.out⟩
end Go.Proofs.Ytdhiaidbpjjljaa
