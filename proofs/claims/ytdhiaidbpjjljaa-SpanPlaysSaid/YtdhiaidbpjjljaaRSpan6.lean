/- causeyref17: Set. By an AI agent. -/
import Derived.Test.YtdhiaidbpjjljaaRSpan5
namespace Go.Proofs.Ytdhiaidbpjjljaa
open Go.RowKit Go.WideShapes Go.Sort Grow

set_option maxRecDepth 20000 in
set_option maxHeartbeats 16000000 in
theorem refSet_any (B g cap : Nat) (s : SS) (i : Int) (up : Bool) (w : World) (n0 : Int) (hR : RAt B g cap w s.ports) (hok : s.Ok n0) (hn : n0 ≤ 900000000) (hF : s.Fit) :
    Calls Try.prog 20 #[.agg #[.int .u8 ((s.id.f 0).toNat : Int), .int .u8 ((s.id.f 1).toNat : Int), .int .u8 ((s.id.f 2).toNat : Int), .int .u8 ((s.id.f 3).toNat : Int), .int .u8 ((s.id.f 4).toNat : Int), .int .u8 ((s.id.f 5).toNat : Int), .int .u8 ((s.id.f 6).toNat : Int), .int .u8 ((s.id.f 7).toNat : Int), .int .i64 s.ma, .int .i64 s.he, .int .i64 s.de, .int .i64 s.now, .int .i64 s.chg, (.slice (some ⟨g, 0, none⟩) s.ports.length cap), .int .u8 ((s.best.r.f 0).toNat : Int), .int .u8 ((s.best.r.f 1).toNat : Int), .int .u8 ((s.best.r.f 2).toNat : Int), .int .u8 ((s.best.r.f 3).toNat : Int), .int .u8 ((s.best.r.f 4).toNat : Int), .int .u8 ((s.best.r.f 5).toNat : Int), .int .u8 ((s.best.r.f 6).toNat : Int), .int .u8 ((s.best.r.f 7).toNat : Int), .int .i64 s.best.c, .int .u8 ((s.best.b.f 0).toNat : Int), .int .u8 ((s.best.b.f 1).toNat : Int), .int .u8 ((s.best.b.f 2).toNat : Int), .int .u8 ((s.best.b.f 3).toNat : Int), .int .u8 ((s.best.b.f 4).toNat : Int), .int .u8 ((s.best.b.f 5).toNat : Int), .int .u8 ((s.best.b.f 6).toNat : Int), .int .u8 ((s.best.b.f 7).toNat : Int), .int .i64 s.best.p, .int .i64 s.root], .int .i64 i, .bool up] w fun e w' => ∃ g' cap' v, e = .returned (.tuple #[.agg #[.int .u8 (((s.setUp i up).1.id.f 0).toNat : Int), .int .u8 (((s.setUp i up).1.id.f 1).toNat : Int), .int .u8 (((s.setUp i up).1.id.f 2).toNat : Int), .int .u8 (((s.setUp i up).1.id.f 3).toNat : Int), .int .u8 (((s.setUp i up).1.id.f 4).toNat : Int), .int .u8 (((s.setUp i up).1.id.f 5).toNat : Int), .int .u8 (((s.setUp i up).1.id.f 6).toNat : Int), .int .u8 (((s.setUp i up).1.id.f 7).toNat : Int), .int .i64 (s.setUp i up).1.ma, .int .i64 (s.setUp i up).1.he, .int .i64 (s.setUp i up).1.de, .int .i64 (s.setUp i up).1.now, .int .i64 (s.setUp i up).1.chg, (.slice (some ⟨g', 0, none⟩) s.ports.length cap'), .int .u8 (((s.setUp i up).1.best.r.f 0).toNat : Int), .int .u8 (((s.setUp i up).1.best.r.f 1).toNat : Int), .int .u8 (((s.setUp i up).1.best.r.f 2).toNat : Int), .int .u8 (((s.setUp i up).1.best.r.f 3).toNat : Int), .int .u8 (((s.setUp i up).1.best.r.f 4).toNat : Int), .int .u8 (((s.setUp i up).1.best.r.f 5).toNat : Int), .int .u8 (((s.setUp i up).1.best.r.f 6).toNat : Int), .int .u8 (((s.setUp i up).1.best.r.f 7).toNat : Int), .int .i64 (s.setUp i up).1.best.c, .int .u8 (((s.setUp i up).1.best.b.f 0).toNat : Int), .int .u8 (((s.setUp i up).1.best.b.f 1).toNat : Int), .int .u8 (((s.setUp i up).1.best.b.f 2).toNat : Int), .int .u8 (((s.setUp i up).1.best.b.f 3).toNat : Int), .int .u8 (((s.setUp i up).1.best.b.f 4).toNat : Int), .int .u8 (((s.setUp i up).1.best.b.f 5).toNat : Int), .int .u8 (((s.setUp i up).1.best.b.f 6).toNat : Int), .int .u8 (((s.setUp i up).1.best.b.f 7).toNat : Int), .int .i64 (s.setUp i up).1.best.p, .int .i64 (s.setUp i up).1.root], v]) ∧ RAt B g' cap' w' (s.setUp i up).1.ports ∧ ROutAt w' w.heap.size v (s.setUp i up).2 ∧ Below w.heap.size w w' := by
  have hl : s.ports.length ≤ 1000 := by have := hok.len; omega
  have HR := Lib.hid hR
  have HOK := Lib.hid hok
  have HF0 := Lib.hid hF
  have HBW : Hid (B ≤ w.heap.size) := Nat.le_trans hR.hB (Nat.le_of_lt hR.lt)
  clear hR hok hF
  go_enter Try.func20, Try.ntmps20
  go_upto_region 1 with fail
  generalize hW : (w.alloc _).alloc _ = W
  have hbW : Below w.heap.size w W := by rw [← hW]; exact ((Below.refl _ _).alloc (Nat.le_refl _) _).alloc (by simp) _
  have R1 : Hid (RowIs W w.heap.size 59 #[.int .u8 ((s.id.f 0).toNat : Int), .int .u8 ((s.id.f 1).toNat : Int), .int .u8 ((s.id.f 2).toNat : Int), .int .u8 ((s.id.f 3).toNat : Int), .int .u8 ((s.id.f 4).toNat : Int), .int .u8 ((s.id.f 5).toNat : Int), .int .u8 ((s.id.f 6).toNat : Int), .int .u8 ((s.id.f 7).toNat : Int), .int .i64 s.ma, .int .i64 s.he, .int .i64 s.de, .int .i64 s.now, .int .i64 s.chg, (.slice (some ⟨g, 0, none⟩) s.ports.length cap), .int .u8 ((s.best.r.f 0).toNat : Int), .int .u8 ((s.best.r.f 1).toNat : Int), .int .u8 ((s.best.r.f 2).toNat : Int), .int .u8 ((s.best.r.f 3).toNat : Int), .int .u8 ((s.best.r.f 4).toNat : Int), .int .u8 ((s.best.r.f 5).toNat : Int), .int .u8 ((s.best.r.f 6).toNat : Int), .int .u8 ((s.best.r.f 7).toNat : Int), .int .i64 s.best.c, .int .u8 ((s.best.b.f 0).toNat : Int), .int .u8 ((s.best.b.f 1).toNat : Int), .int .u8 ((s.best.b.f 2).toNat : Int), .int .u8 ((s.best.b.f 3).toNat : Int), .int .u8 ((s.best.b.f 4).toNat : Int), .int .u8 ((s.best.b.f 5).toNat : Int), .int .u8 ((s.best.b.f 6).toNat : Int), .int .u8 ((s.best.b.f 7).toNat : Int), .int .i64 s.best.p, .int .i64 s.root]) := by subst hW; exact (rowIs_new w _ _).alloc _
  have R2 : Hid (RowIs W (w.heap.size + 1) 59 #[.int .u8 0, .int .u8 0, .int .u8 0, .int .u8 0, .int .u8 0, .int .u8 0, .int .u8 0, .int .u8 0, .int .i64 0, .int .i64 0, .int .i64 0, .int .i64 0, .int .i64 0, .slice none 0 0, .int .u8 0, .int .u8 0, .int .u8 0, .int .u8 0, .int .u8 0, .int .u8 0, .int .u8 0, .int .u8 0, .int .i64 0, .int .u8 0, .int .u8 0, .int .u8 0, .int .u8 0, .int .u8 0, .int .u8 0, .int .u8 0, .int .u8 0, .int .i64 0, .int .i64 0]) := by subst hW; exact rowIs_new1 w _ _ _
  have hWs : w.heap.size + 1 < W.heap.size := R2.out.lt
  clear hW
  have c13 : W.cell? ⟨w.heap.size, 13, none⟩ = some (.slice (some ⟨g, 0, none⟩) s.ports.length cap) := R1.out.cell 13
  go_upto_region 1 with fail
  go_cut [17] (fun v wx => v = .bool (!s.has i) ∧ W = wx)
  case first =>
    have HH : Hid (s.has i = (decide (0 ≤ i) && decide (i < (s.ports.length : Int)))) := rfl
    by_cases h1 : i < 0
    · have H1 : Hid (s.has i = false) := by show _ = _; rw [HH.out, decide_eq_false (by omega)]; rfl
      go_wp2_with fail
      go_meet
      exact ⟨by rw [H1.out]; rfl, rfl⟩
    · by_cases h2 : (s.ports.length : Int) ≤ i
      · have H1 : Hid (s.has i = false) := by show _ = _; rw [HH.out, decide_eq_false (p := i < _) (by omega)]; simp
        go_wp2_with fail
        go_meet
        exact ⟨by rw [H1.out]; rfl, rfl⟩
      · have H1 : Hid (s.has i = true) := by show _ = _; rw [HH.out, decide_eq_true (by omega), decide_eq_true (by omega)]; rfl
        go_wp2_with fail
        go_meet
        exact ⟨by rw [H1.out]; rfl, rfl⟩
  case rest =>
    obtain ⟨rfl, rfl⟩ := hcut
    clear c13
    cases hh : s.has i
    · have HT1 : Hid (s.setUp i up = (s, [])) := by show _ = _; unfold SS.setUp; rw [if_neg (by rw [hh]; decide)]
      go_wp2_with (first
        | ((with_reducible refine at_load 59 (.tmp 3) ?_); refine wpList_load_midW rfl 59 (.tmp 3) rfl (w.heap.size) (0) rfl [.int .u8 ((s.id.f 0).toNat : Int), .int .u8 ((s.id.f 1).toNat : Int), .int .u8 ((s.id.f 2).toNat : Int), .int .u8 ((s.id.f 3).toNat : Int), .int .u8 ((s.id.f 4).toNat : Int), .int .u8 ((s.id.f 5).toNat : Int), .int .u8 ((s.id.f 6).toNat : Int), .int .u8 ((s.id.f 7).toNat : Int), .int .i64 s.ma, .int .i64 s.he, .int .i64 s.de, .int .i64 s.now, .int .i64 s.chg, (.slice (some ⟨g, 0, none⟩) s.ports.length cap), .int .u8 ((s.best.r.f 0).toNat : Int), .int .u8 ((s.best.r.f 1).toNat : Int), .int .u8 ((s.best.r.f 2).toNat : Int), .int .u8 ((s.best.r.f 3).toNat : Int), .int .u8 ((s.best.r.f 4).toNat : Int), .int .u8 ((s.best.r.f 5).toNat : Int), .int .u8 ((s.best.r.f 6).toNat : Int), .int .u8 ((s.best.r.f 7).toNat : Int), .int .i64 s.best.c, .int .u8 ((s.best.b.f 0).toNat : Int), .int .u8 ((s.best.b.f 1).toNat : Int), .int .u8 ((s.best.b.f 2).toNat : Int), .int .u8 ((s.best.b.f 3).toNat : Int), .int .u8 ((s.best.b.f 4).toNat : Int), .int .u8 ((s.best.b.f 5).toNat : Int), .int .u8 ((s.best.b.f 6).toNat : Int), .int .u8 ((s.best.b.f 7).toNat : Int), .int .i64 s.best.p, .int .i64 s.root] _ (range_of_row R1.out rfl) Try.underlying59 rfl (by kernel_rfl) ?_)
        | ((with_reducible refine at_store 59 (.tmp 6) (.tmp 18) ?_); refine wpList_store_own rfl 59 (.tmp 6) (.tmp 18) rfl (w.heap.size + 1) _ rfl rfl _ _ R2.out (by kernel_rfl) rfl (by simp [Value.oneCell']) (w.heap.size) (Nat.le_succ _) ?_))
      intro we hRe hoe hse hbe
      have HRE : Hid (RowIs we (w.heap.size + 1) 59 #[.int .u8 ((s.id.f 0).toNat : Int), .int .u8 ((s.id.f 1).toNat : Int), .int .u8 ((s.id.f 2).toNat : Int), .int .u8 ((s.id.f 3).toNat : Int), .int .u8 ((s.id.f 4).toNat : Int), .int .u8 ((s.id.f 5).toNat : Int), .int .u8 ((s.id.f 6).toNat : Int), .int .u8 ((s.id.f 7).toNat : Int), .int .i64 s.ma, .int .i64 s.he, .int .i64 s.de, .int .i64 s.now, .int .i64 s.chg, (.slice (some ⟨g, 0, none⟩) s.ports.length cap), .int .u8 ((s.best.r.f 0).toNat : Int), .int .u8 ((s.best.r.f 1).toNat : Int), .int .u8 ((s.best.r.f 2).toNat : Int), .int .u8 ((s.best.r.f 3).toNat : Int), .int .u8 ((s.best.r.f 4).toNat : Int), .int .u8 ((s.best.r.f 5).toNat : Int), .int .u8 ((s.best.r.f 6).toNat : Int), .int .u8 ((s.best.r.f 7).toNat : Int), .int .i64 s.best.c, .int .u8 ((s.best.b.f 0).toNat : Int), .int .u8 ((s.best.b.f 1).toNat : Int), .int .u8 ((s.best.b.f 2).toNat : Int), .int .u8 ((s.best.b.f 3).toNat : Int), .int .u8 ((s.best.b.f 4).toNat : Int), .int .u8 ((s.best.b.f 5).toNat : Int), .int .u8 ((s.best.b.f 6).toNat : Int), .int .u8 ((s.best.b.f 7).toNat : Int), .int .i64 s.best.p, .int .i64 s.root]) := hRe
      have hRA : RAt B g cap we s.ports := (HR.out.later hbW).same (hoe _ (by have := HR.out.lt; omega))
      have hbf := hbW.trans hbe
      clear hRe hoe hse hbe
      go_wp2_with fail
      refine bodyPost_ret (results_row_tmp1 Try.results20 _ _ (w.heap.size + 1) _ _ _ rfl HRE.out Try.underlying59 rfl (by kernel_rfl)) rfl ?_
      refine ⟨g, cap, .slice none 0 0, ?_, ?_, ?_, hbf⟩
      · (rw [HT1.out]; try rfl)
      · rw [HT1.out]; exact hRA
      · rw [HT1.out]; exact rout_nil _ _
    · obtain ⟨k, rfl, hltk0⟩ := s.has_true i hh
      have HH := Lib.hid hh
      have HC := Lib.hid (refCopied_any B g cap s W (HR.out.later hbW) hl)
      go_wp2_with ((with_reducible refine at_load 59 (.tmp 3) ?_); refine wpList_load_midW rfl 59 (.tmp 3) rfl (w.heap.size) (0) rfl [.int .u8 ((s.id.f 0).toNat : Int), .int .u8 ((s.id.f 1).toNat : Int), .int .u8 ((s.id.f 2).toNat : Int), .int .u8 ((s.id.f 3).toNat : Int), .int .u8 ((s.id.f 4).toNat : Int), .int .u8 ((s.id.f 5).toNat : Int), .int .u8 ((s.id.f 6).toNat : Int), .int .u8 ((s.id.f 7).toNat : Int), .int .i64 s.ma, .int .i64 s.he, .int .i64 s.de, .int .i64 s.now, .int .i64 s.chg, (.slice (some ⟨g, 0, none⟩) s.ports.length cap), .int .u8 ((s.best.r.f 0).toNat : Int), .int .u8 ((s.best.r.f 1).toNat : Int), .int .u8 ((s.best.r.f 2).toNat : Int), .int .u8 ((s.best.r.f 3).toNat : Int), .int .u8 ((s.best.r.f 4).toNat : Int), .int .u8 ((s.best.r.f 5).toNat : Int), .int .u8 ((s.best.r.f 6).toNat : Int), .int .u8 ((s.best.r.f 7).toNat : Int), .int .i64 s.best.c, .int .u8 ((s.best.b.f 0).toNat : Int), .int .u8 ((s.best.b.f 1).toNat : Int), .int .u8 ((s.best.b.f 2).toNat : Int), .int .u8 ((s.best.b.f 3).toNat : Int), .int .u8 ((s.best.b.f 4).toNat : Int), .int .u8 ((s.best.b.f 5).toNat : Int), .int .u8 ((s.best.b.f 6).toNat : Int), .int .u8 ((s.best.b.f 7).toNat : Int), .int .i64 s.best.p, .int .i64 s.root] _ (range_of_row R1.out rfl) Try.underlying59 rfl (by kernel_rfl) ?_)
      refine HC.out.mono ?_
      rintro e w1 ⟨g1, cap1, rfl, hR1, hb1⟩
      have R1 := Lib.hid (R1.out.kept hb1)
      have R2 := Lib.hid (R2.out.kept hb1)
      have hg1 : W.heap.size ≤ g1 := hR1.hB
      clear HC
      go_wp2_with ((with_reducible refine at_store 59 (.tmp 3) (.tmp 20) ?_); refine wpList_store_own rfl 59 (.tmp 3) (.tmp 20) rfl (w.heap.size) _ rfl rfl _ _ R1.out (by kernel_rfl) rfl (by simp [Value.oneCell']) (w.heap.size) (Nat.le_refl _) ?_)
      intro w2 hR2 ho2 hs2 hb2
      have HA : Hid (BAt g1 cap1 s.ports.length w.heap.size (w.heap.size + 1) w w2 s) := ⟨hR2, rowIs_same R2.out (ho2 _ (by omega)), (hR1.same (ho2 _ (by omega))).lower hbW.size, rfl, by omega, by omega, by omega, Nat.le_refl _, Nat.le_succ _, (hbW.trans (hb1.mono hbW.size)).trans hb2⟩
      clear hR2 ho2 hs2 hb2 R1 R2 hR1 hb1 hg1 hbW HR
      have hltk : k < s.ports.length := hltk0
      have HPT0 : Hid ((s.port k).upTo up = if up then { s.port k with up := true } else { s.port k with up := false, heard := false, w := .zero }) := rfl
      have HPK0 : Hid (s.ports[k] = s.port k) := s.port_get hltk
      have HSC0 : Hid (0 ≤ (s.port k).since ∧ (s.port k).since ≤ s.now) := HOK.out.since k
      have HAG0 : Hid (0 ≤ (s.port k).w.age ∧ (s.port k).w.age ≤ 1000) := HOK.out.age k
      have HPF0 : Hid (s.port k).Fit := HF0.out k
      have HPP : Hid (s.port k = s.port k) := rfl
      cases hpk : s.port k with
      | mk pc up0 heard pw prole pstate psince =>
      rw [hpk] at HPT0 HPK0 HSC0 HAG0 HPF0
      have HPK := HPK0
      have HSC : Hid (0 ≤ psince ∧ psince ≤ s.now) := HSC0
      have HAG : Hid (0 ≤ pw.age ∧ pw.age ≤ 1000) := HAG0
      have HPF : Hid (SP.Fit ⟨pc, up0, heard, pw, prole, pstate, psince⟩) := HPF0
      clear HSC0 HAG0 HPF0 HPK0 HPP
      have c13 : w2.cell? ⟨w.heap.size, 13, none⟩ = some (.slice (some ⟨g1, 0, none⟩) s.ports.length cap1) := HA.out.box.cell 13
      go_wp2_with ((with_reducible refine at_store 4 (.tmp 26) (.tmp 24) ?_); refine wpList_store_rp1 rfl 4 (.tmp 26) (.tmp 24) rfl g1 (k * 30 + 4) k 4 (.bool up) rfl rfl HA.out.ports hltk rfl (show 4 + 1 ≤ 30 from by decide) (by kernel_rfl) rfl (⟨pc, up, heard, pw, prole, pstate, psince⟩ : SP) (by rw [HPK.out]; rfl) w.heap.size HA.out.ports.hB ?_)
      intro w3 hRx hox hsx hbx
      have HA : Hid (BAt g1 cap1 s.ports.length w.heap.size (w.heap.size + 1) w w3 (s.put k (⟨pc, up, heard, pw, prole, pstate, psince⟩ : SP))) := HA.out.putSet hRx hox hbx
      clear hRx hox hsx hbx
      have hltp : ∀ q, k < (s.put k q).ports.length := fun q => by rw [SS.put_len]; exact hltk
      cases up
      · have HPT : Hid ((s.port k).upTo false = ⟨pc, false, false, .zero, prole, pstate, psince⟩) := by show _ = _; rw [hpk]; exact HPT0.out
        have c13 : w3.cell? ⟨w.heap.size, 13, none⟩ = some (.slice (some ⟨g1, 0, none⟩) s.ports.length cap1) := HA.out.box.cell 13
        go_wp2_with ((with_reducible refine at_store 4 (.tmp 33) (.const (.bool false)) ?_); refine wpList_store_rp1 rfl 4 (.tmp 33) (.const (.bool false)) rfl g1 (k * 30 + 5) k 5 (.bool false) rfl rfl HA.out.ports (hltp _) rfl (show 5 + 1 ≤ 30 from by decide) (by kernel_rfl) rfl (⟨pc, false, false, pw, prole, pstate, psince⟩ : SP) (by simp only [SS.put, List.getElem_set_self]; rfl) w.heap.size HA.out.ports.hB ?_)
        intro w4 hRx hox hsx hbx
        have HA : Hid (BAt g1 cap1 s.ports.length w.heap.size (w.heap.size + 1) w w4 (s.put k (⟨pc, false, false, pw, prole, pstate, psince⟩ : SP))) := by
          have h0 := HA.out.putSet hRx hox hbx
          rw [SS.put_put] at h0
          exact h0
        clear hRx hox hsx hbx
        have c13 : w4.cell? ⟨w.heap.size, 13, none⟩ = some (.slice (some ⟨g1, 0, none⟩) s.ports.length cap1) := HA.out.box.cell 13
        go_wp2_with ((with_reducible refine at_store 63 (.tmp 39) (.tmp 37) ?_); refine wpList_store_rp rfl 63 (.tmp 39) (.tmp 37) rfl g1 (k * 30 + 6) k 6 #[.int .u8 0, .int .u8 0, .int .u8 0, .int .u8 0, .int .u8 0, .int .u8 0, .int .u8 0, .int .u8 0, .int .u8 0, .int .u8 0, .int .u8 0, .int .u8 0, .int .u8 0, .int .u8 0, .int .u8 0, .int .u8 0, .int .i64 0, .int .i64 0, .int .i64 0, .int .i64 0, .int .i64 0, .int .i64 0, .bool false, .bool false] rfl rfl HA.out.ports (hltp _) rfl (show 6 + 24 ≤ 30 from by decide) (by kernel_rfl) (by simp [Value.oneCell']) (⟨pc, false, false, .zero, prole, pstate, psince⟩ : SP) (by simp only [SS.put, List.getElem_set_self]; rfl) w.heap.size HA.out.ports.hB ?_)
        intro w5 hRx hox hsx hbx
        have HA : Hid (BAt g1 cap1 s.ports.length w.heap.size (w.heap.size + 1) w w5 (s.put k (⟨pc, false, false, .zero, prole, pstate, psince⟩ : SP))) := by
          have h0 := HA.out.putSet hRx hox hbx
          rw [SS.put_put] at h0
          exact h0
        clear hRx hox hsx hbx
        clear c13 HPT0 hltp
        have HT2 : Hid (s.setUp (k : Int) false = ((s.put k (⟨pc, false, false, .zero, prole, pstate, psince⟩ : SP)).found.1, if (s.put k (⟨pc, false, false, .zero, prole, pstate, psince⟩ : SP)).found.2 = true then (s.put k (⟨pc, false, false, .zero, prole, pstate, psince⟩ : SP)).found.1.tells (fun _ => true) else [])) := by
          show _ = _
          unfold SS.setUp SS.setF
          rw [if_pos HH.out, Int.toNat_natCast, HPT.out]
          try rfl
        have HOK2 : Hid ((s.put k (⟨pc, false, false, .zero, prole, pstate, psince⟩ : SP)).Ok n0) := HOK.out.put k _ hltk HSC.out ⟨Int.le_refl _, (show (0 : Int) ≤ 1000 from by decide)⟩
        have HF2 : Hid (s.put k (⟨pc, false, false, .zero, prole, pstate, psince⟩ : SP)).Fit := SS.Fit.put HF0.out k _ ⟨⟨Int.le_refl _, (show (0 : Int) ≤ 1073741824 by decide)⟩, HPF.out.2⟩
        have HC2 : Hid (0 ≤ (s.put k (⟨pc, false, false, .zero, prole, pstate, psince⟩ : SP)).chg ∧ (s.put k (⟨pc, false, false, .zero, prole, pstate, psince⟩ : SP)).chg ≤ 999990000) := by have := HOK2.out.chg; show _ ∧ _; omega
        clear HOK HF0 HSC HAG HPF HPT HPK
        generalize hgen : (s.put k (⟨pc, false, false, .zero, prole, pstate, psince⟩ : SP)) = s2 at *
        clear hgen
        have HC := Lib.hid (refFound_n w.heap.size g1 cap1 s2 w5 HA.out.len HA.out.ports hl HF2.out HC2.out)
        go_wp2_with ((with_reducible refine at_load 59 (.tmp 3) ?_); refine wpList_load_midW rfl 59 (.tmp 3) rfl (w.heap.size) (0) rfl [.int .u8 ((s2.id.f 0).toNat : Int), .int .u8 ((s2.id.f 1).toNat : Int), .int .u8 ((s2.id.f 2).toNat : Int), .int .u8 ((s2.id.f 3).toNat : Int), .int .u8 ((s2.id.f 4).toNat : Int), .int .u8 ((s2.id.f 5).toNat : Int), .int .u8 ((s2.id.f 6).toNat : Int), .int .u8 ((s2.id.f 7).toNat : Int), .int .i64 s2.ma, .int .i64 s2.he, .int .i64 s2.de, .int .i64 s2.now, .int .i64 s2.chg, (.slice (some ⟨g1, 0, none⟩) s.ports.length cap1), .int .u8 ((s2.best.r.f 0).toNat : Int), .int .u8 ((s2.best.r.f 1).toNat : Int), .int .u8 ((s2.best.r.f 2).toNat : Int), .int .u8 ((s2.best.r.f 3).toNat : Int), .int .u8 ((s2.best.r.f 4).toNat : Int), .int .u8 ((s2.best.r.f 5).toNat : Int), .int .u8 ((s2.best.r.f 6).toNat : Int), .int .u8 ((s2.best.r.f 7).toNat : Int), .int .i64 s2.best.c, .int .u8 ((s2.best.b.f 0).toNat : Int), .int .u8 ((s2.best.b.f 1).toNat : Int), .int .u8 ((s2.best.b.f 2).toNat : Int), .int .u8 ((s2.best.b.f 3).toNat : Int), .int .u8 ((s2.best.b.f 4).toNat : Int), .int .u8 ((s2.best.b.f 5).toNat : Int), .int .u8 ((s2.best.b.f 6).toNat : Int), .int .u8 ((s2.best.b.f 7).toNat : Int), .int .i64 s2.best.p, .int .i64 s2.root] _ (range_of_row HA.out.box rfl) Try.underlying59 rfl (by kernel_rfl) ?_)
        refine HC.out.mono ?_
        rintro e wm ⟨rfl, hR4, hb4, ho4⟩
        have HA := Lib.hid (HA.out.portsSet hR4 (by rw [SS.found_len]; exact HA.out.len) ho4 hb4)
        clear HC hR4 ho4 hb4
        go_wp2_with ((with_reducible refine at_store 59 (.tmp 3) (.tmp 43) ?_); refine wpList_store_own rfl 59 (.tmp 3) (.tmp 43) rfl (w.heap.size) _ rfl rfl _ _ HA.out.box (by kernel_rfl) rfl (by simp [Value.oneCell']) (w.heap.size) (Nat.le_refl _) ?_)
        intro wq hR5 ho5 hs5 hb5
        have HA : Hid (BAt g1 cap1 s.ports.length w.heap.size (w.heap.size + 1) w wq s2.found.1) := HA.out.boxSet (s' := s2.found.1) rfl hR5 ho5 hb5
        clear hR5 ho5 hs5 hb5
        have HOKF := Lib.hid HOK2.out.found
        clear HOK2 HF2 HC2
        generalize s2.found = f3 at *
        obtain ⟨sf, ch⟩ := f3
        have HA : Hid (BAt g1 cap1 s.ports.length w.heap.size (w.heap.size + 1) w wq sf) := HA
        have HOKF : Hid (sf.Ok (n0 + 100)) := HOKF
        have HWQ : Hid (w.heap.size ≤ wq.heap.size) := HA.out.below.size
        have HRL : Hid (w.heap.size + 1 < wq.heap.size) := HA.out.ret.lt
        cases ch
        · have HT1 : Hid (s.setUp (k : Int) false = (sf, [])) := HT2.out
          clear HT2
          go_wp2_with (first
            | ((with_reducible refine at_load 59 (.tmp 3) ?_); refine wpList_load_midW rfl 59 (.tmp 3) rfl (w.heap.size) (0) rfl [.int .u8 ((sf.id.f 0).toNat : Int), .int .u8 ((sf.id.f 1).toNat : Int), .int .u8 ((sf.id.f 2).toNat : Int), .int .u8 ((sf.id.f 3).toNat : Int), .int .u8 ((sf.id.f 4).toNat : Int), .int .u8 ((sf.id.f 5).toNat : Int), .int .u8 ((sf.id.f 6).toNat : Int), .int .u8 ((sf.id.f 7).toNat : Int), .int .i64 sf.ma, .int .i64 sf.he, .int .i64 sf.de, .int .i64 sf.now, .int .i64 sf.chg, (.slice (some ⟨g1, 0, none⟩) s.ports.length cap1), .int .u8 ((sf.best.r.f 0).toNat : Int), .int .u8 ((sf.best.r.f 1).toNat : Int), .int .u8 ((sf.best.r.f 2).toNat : Int), .int .u8 ((sf.best.r.f 3).toNat : Int), .int .u8 ((sf.best.r.f 4).toNat : Int), .int .u8 ((sf.best.r.f 5).toNat : Int), .int .u8 ((sf.best.r.f 6).toNat : Int), .int .u8 ((sf.best.r.f 7).toNat : Int), .int .i64 sf.best.c, .int .u8 ((sf.best.b.f 0).toNat : Int), .int .u8 ((sf.best.b.f 1).toNat : Int), .int .u8 ((sf.best.b.f 2).toNat : Int), .int .u8 ((sf.best.b.f 3).toNat : Int), .int .u8 ((sf.best.b.f 4).toNat : Int), .int .u8 ((sf.best.b.f 5).toNat : Int), .int .u8 ((sf.best.b.f 6).toNat : Int), .int .u8 ((sf.best.b.f 7).toNat : Int), .int .i64 sf.best.p, .int .i64 sf.root] _ (range_of_row HA.out.box rfl) Try.underlying59 rfl (by kernel_rfl) ?_)
            | ((with_reducible refine at_store 59 (.tmp 6) (.tmp 47) ?_); refine wpList_store_own rfl 59 (.tmp 6) (.tmp 47) rfl (w.heap.size + 1) _ rfl rfl _ _ HA.out.ret (by kernel_rfl) rfl (by simp [Value.oneCell']) (w.heap.size) HA.out.hr ?_))
          intro we hRe hoe hse hbe
          have HRE : Hid (RowIs we (w.heap.size + 1) 59 #[.int .u8 ((sf.id.f 0).toNat : Int), .int .u8 ((sf.id.f 1).toNat : Int), .int .u8 ((sf.id.f 2).toNat : Int), .int .u8 ((sf.id.f 3).toNat : Int), .int .u8 ((sf.id.f 4).toNat : Int), .int .u8 ((sf.id.f 5).toNat : Int), .int .u8 ((sf.id.f 6).toNat : Int), .int .u8 ((sf.id.f 7).toNat : Int), .int .i64 sf.ma, .int .i64 sf.he, .int .i64 sf.de, .int .i64 sf.now, .int .i64 sf.chg, (.slice (some ⟨g1, 0, none⟩) s.ports.length cap1), .int .u8 ((sf.best.r.f 0).toNat : Int), .int .u8 ((sf.best.r.f 1).toNat : Int), .int .u8 ((sf.best.r.f 2).toNat : Int), .int .u8 ((sf.best.r.f 3).toNat : Int), .int .u8 ((sf.best.r.f 4).toNat : Int), .int .u8 ((sf.best.r.f 5).toNat : Int), .int .u8 ((sf.best.r.f 6).toNat : Int), .int .u8 ((sf.best.r.f 7).toNat : Int), .int .i64 sf.best.c, .int .u8 ((sf.best.b.f 0).toNat : Int), .int .u8 ((sf.best.b.f 1).toNat : Int), .int .u8 ((sf.best.b.f 2).toNat : Int), .int .u8 ((sf.best.b.f 3).toNat : Int), .int .u8 ((sf.best.b.f 4).toNat : Int), .int .u8 ((sf.best.b.f 5).toNat : Int), .int .u8 ((sf.best.b.f 6).toNat : Int), .int .u8 ((sf.best.b.f 7).toNat : Int), .int .i64 sf.best.p, .int .i64 sf.root]) := hRe
          have hRA : RAt w.heap.size g1 cap1 we sf.ports := HA.out.ports.same (hoe _ HA.out.gr)
          have hbf := HA.out.below.trans hbe
          clear hRe hoe hse hbe HA
          go_wp2_with fail
          refine bodyPost_ret (results_row_tmp1 Try.results20 _ _ (w.heap.size + 1) _ _ _ rfl HRE.out Try.underlying59 rfl (by kernel_rfl)) rfl ?_
          refine ⟨g1, cap1, .slice none 0 0, ?_, ?_, ?_, hbf⟩
          · (rw [HT1.out]; try rfl)
          · rw [HT1.out]; exact hRA.lower HBW.out
          · rw [HT1.out]; exact rout_nil _ _
        · have HT1 : Hid (s.setUp (k : Int) false = (sf, sf.tells (fun _ => true))) := HT2.out
          clear HT2
          have HT : Hid (∀ w', Below wq.heap.size wq w' → Calls Try.prog 40 #[.agg #[.int .u8 ((sf.id.f 0).toNat : Int), .int .u8 ((sf.id.f 1).toNat : Int), .int .u8 ((sf.id.f 2).toNat : Int), .int .u8 ((sf.id.f 3).toNat : Int), .int .u8 ((sf.id.f 4).toNat : Int), .int .u8 ((sf.id.f 5).toNat : Int), .int .u8 ((sf.id.f 6).toNat : Int), .int .u8 ((sf.id.f 7).toNat : Int), .int .i64 sf.ma, .int .i64 sf.he, .int .i64 sf.de, .int .i64 sf.now, .int .i64 sf.chg, (.slice (some ⟨g1, 0, none⟩) s.ports.length cap1), .int .u8 ((sf.best.r.f 0).toNat : Int), .int .u8 ((sf.best.r.f 1).toNat : Int), .int .u8 ((sf.best.r.f 2).toNat : Int), .int .u8 ((sf.best.r.f 3).toNat : Int), .int .u8 ((sf.best.r.f 4).toNat : Int), .int .u8 ((sf.best.r.f 5).toNat : Int), .int .u8 ((sf.best.r.f 6).toNat : Int), .int .u8 ((sf.best.r.f 7).toNat : Int), .int .i64 sf.best.c, .int .u8 ((sf.best.b.f 0).toNat : Int), .int .u8 ((sf.best.b.f 1).toNat : Int), .int .u8 ((sf.best.b.f 2).toNat : Int), .int .u8 ((sf.best.b.f 3).toNat : Int), .int .u8 ((sf.best.b.f 4).toNat : Int), .int .u8 ((sf.best.b.f 5).toNat : Int), .int .u8 ((sf.best.b.f 6).toNat : Int), .int .u8 ((sf.best.b.f 7).toNat : Int), .int .i64 sf.best.p, .int .i64 sf.root], .int .i64 (-1)] w' fun e w'' => ∃ v, e = .returned v ∧ ROutAt w'' w'.heap.size v (sf.tells (fun _ => true)) ∧ Below w'.heap.size w' w'') := fun w' hb => refTells_n w.heap.size g1 cap1 sf (-1) w' HA.out.len (HA.out.ports.later hb) hl HOKF.out.root HOKF.out.ages HOKF.out.ma.1
          go_upto_region 11 with fail
          refine wp_region_mix 3 (by kernel_rfl) (by kernel_rfl) (by kernel_rfl) ?_
          refine mix_exact (.agg #[.int .u8 ((sf.id.f 0).toNat : Int), .int .u8 ((sf.id.f 1).toNat : Int), .int .u8 ((sf.id.f 2).toNat : Int), .int .u8 ((sf.id.f 3).toNat : Int), .int .u8 ((sf.id.f 4).toNat : Int), .int .u8 ((sf.id.f 5).toNat : Int), .int .u8 ((sf.id.f 6).toNat : Int), .int .u8 ((sf.id.f 7).toNat : Int), .int .i64 sf.ma, .int .i64 sf.he, .int .i64 sf.de, .int .i64 sf.now, .int .i64 sf.chg, (.slice (some ⟨g1, 0, none⟩) s.ports.length cap1), .int .u8 ((sf.best.r.f 0).toNat : Int), .int .u8 ((sf.best.r.f 1).toNat : Int), .int .u8 ((sf.best.r.f 2).toNat : Int), .int .u8 ((sf.best.r.f 3).toNat : Int), .int .u8 ((sf.best.r.f 4).toNat : Int), .int .u8 ((sf.best.r.f 5).toNat : Int), .int .u8 ((sf.best.r.f 6).toNat : Int), .int .u8 ((sf.best.r.f 7).toNat : Int), .int .i64 sf.best.c, .int .u8 ((sf.best.b.f 0).toNat : Int), .int .u8 ((sf.best.b.f 1).toNat : Int), .int .u8 ((sf.best.b.f 2).toNat : Int), .int .u8 ((sf.best.b.f 3).toNat : Int), .int .u8 ((sf.best.b.f 4).toNat : Int), .int .u8 ((sf.best.b.f 5).toNat : Int), .int .u8 ((sf.best.b.f 6).toNat : Int), .int .u8 ((sf.best.b.f 7).toNat : Int), .int .i64 sf.best.p, .int .i64 sf.root]) rfl (exact_load_row rfl rfl (by simp) HA.out.box Try.underlying59 rfl (by kernel_rfl)) ?_
          refine mix_exact (.agg #[.int .u8 ((sf.id.f 0).toNat : Int), .int .u8 ((sf.id.f 1).toNat : Int), .int .u8 ((sf.id.f 2).toNat : Int), .int .u8 ((sf.id.f 3).toNat : Int), .int .u8 ((sf.id.f 4).toNat : Int), .int .u8 ((sf.id.f 5).toNat : Int), .int .u8 ((sf.id.f 6).toNat : Int), .int .u8 ((sf.id.f 7).toNat : Int), .int .i64 sf.ma, .int .i64 sf.he, .int .i64 sf.de, .int .i64 sf.now, .int .i64 sf.chg, (.slice (some ⟨g1, 0, none⟩) s.ports.length cap1), .int .u8 ((sf.best.r.f 0).toNat : Int), .int .u8 ((sf.best.r.f 1).toNat : Int), .int .u8 ((sf.best.r.f 2).toNat : Int), .int .u8 ((sf.best.r.f 3).toNat : Int), .int .u8 ((sf.best.r.f 4).toNat : Int), .int .u8 ((sf.best.r.f 5).toNat : Int), .int .u8 ((sf.best.r.f 6).toNat : Int), .int .u8 ((sf.best.r.f 7).toNat : Int), .int .i64 sf.best.c, .int .u8 ((sf.best.b.f 0).toNat : Int), .int .u8 ((sf.best.b.f 1).toNat : Int), .int .u8 ((sf.best.b.f 2).toNat : Int), .int .u8 ((sf.best.b.f 3).toNat : Int), .int .u8 ((sf.best.b.f 4).toNat : Int), .int .u8 ((sf.best.b.f 5).toNat : Int), .int .u8 ((sf.best.b.f 6).toNat : Int), .int .u8 ((sf.best.b.f 7).toNat : Int), .int .i64 sf.best.p, .int .i64 sf.root]) rfl (exact_load_row rfl rfl (by simp) HA.out.box Try.underlying59 rfl (by kernel_rfl)) ?_
          refine mix_special (TellAt wq.heap.size (sf.tells (fun _ => true))) 50 rfl rfl (stable_tell _ _) (owes_callO (xs := [.tmp 49, .const (.int .i64 (-1))]) (vs := [.agg #[.int .u8 ((sf.id.f 0).toNat : Int), .int .u8 ((sf.id.f 1).toNat : Int), .int .u8 ((sf.id.f 2).toNat : Int), .int .u8 ((sf.id.f 3).toNat : Int), .int .u8 ((sf.id.f 4).toNat : Int), .int .u8 ((sf.id.f 5).toNat : Int), .int .u8 ((sf.id.f 6).toNat : Int), .int .u8 ((sf.id.f 7).toNat : Int), .int .i64 sf.ma, .int .i64 sf.he, .int .i64 sf.de, .int .i64 sf.now, .int .i64 sf.chg, (.slice (some ⟨g1, 0, none⟩) s.ports.length cap1), .int .u8 ((sf.best.r.f 0).toNat : Int), .int .u8 ((sf.best.r.f 1).toNat : Int), .int .u8 ((sf.best.r.f 2).toNat : Int), .int .u8 ((sf.best.r.f 3).toNat : Int), .int .u8 ((sf.best.r.f 4).toNat : Int), .int .u8 ((sf.best.r.f 5).toNat : Int), .int .u8 ((sf.best.r.f 6).toNat : Int), .int .u8 ((sf.best.r.f 7).toNat : Int), .int .i64 sf.best.c, .int .u8 ((sf.best.b.f 0).toNat : Int), .int .u8 ((sf.best.b.f 1).toNat : Int), .int .u8 ((sf.best.b.f 2).toNat : Int), .int .u8 ((sf.best.b.f 3).toNat : Int), .int .u8 ((sf.best.b.f 4).toNat : Int), .int .u8 ((sf.best.b.f 5).toNat : Int), .int .u8 ((sf.best.b.f 6).toNat : Int), .int .u8 ((sf.best.b.f 7).toNat : Int), .int .i64 sf.best.p, .int .i64 sf.root], .int .i64 (-1)]) rfl (by simp) rfl Try.func40 (by kernel_rfl) (by kernel_rfl) (fun w' hb => (HT.out w' hb).mono (by
            rintro e w'' ⟨u, rfl, ho, hbb⟩
            exact ⟨u, rfl, hbb, ROutAt.lower ho hb.size⟩))) ?_
          refine mix_nil ?_
          rintro ⟨dr, osr⟩
          have hb8 := below_regrown wq dr osr
          intro u1 f1
          have F1 : Hid (ROutAt _ wq.heap.size u1 (sf.tells (fun _ => true))) := f1
          have HA := Lib.hid (HA.out.later hb8)
          clear f1
          generalize grow (redrawn wq dr) osr = wz at *
          refine (show wpList _ _ _ _ _ _ from ?_)
          simp only [List.drop, Act.put, List.setIfInBounds_toArray, List.set]
          go_wp2_with ((with_reducible refine at_store 59 (.tmp 6) (.tmp 48) ?_); refine wpList_store_own rfl 59 (.tmp 6) (.tmp 48) rfl (w.heap.size + 1) _ rfl rfl _ _ HA.out.ret (by kernel_rfl) rfl (by simp [Value.oneCell']) (w.heap.size) HA.out.hr ?_)
          intro we hRe hoe hse hbe
          have HRE : Hid (RowIs we (w.heap.size + 1) 59 #[.int .u8 ((sf.id.f 0).toNat : Int), .int .u8 ((sf.id.f 1).toNat : Int), .int .u8 ((sf.id.f 2).toNat : Int), .int .u8 ((sf.id.f 3).toNat : Int), .int .u8 ((sf.id.f 4).toNat : Int), .int .u8 ((sf.id.f 5).toNat : Int), .int .u8 ((sf.id.f 6).toNat : Int), .int .u8 ((sf.id.f 7).toNat : Int), .int .i64 sf.ma, .int .i64 sf.he, .int .i64 sf.de, .int .i64 sf.now, .int .i64 sf.chg, (.slice (some ⟨g1, 0, none⟩) s.ports.length cap1), .int .u8 ((sf.best.r.f 0).toNat : Int), .int .u8 ((sf.best.r.f 1).toNat : Int), .int .u8 ((sf.best.r.f 2).toNat : Int), .int .u8 ((sf.best.r.f 3).toNat : Int), .int .u8 ((sf.best.r.f 4).toNat : Int), .int .u8 ((sf.best.r.f 5).toNat : Int), .int .u8 ((sf.best.r.f 6).toNat : Int), .int .u8 ((sf.best.r.f 7).toNat : Int), .int .i64 sf.best.c, .int .u8 ((sf.best.b.f 0).toNat : Int), .int .u8 ((sf.best.b.f 1).toNat : Int), .int .u8 ((sf.best.b.f 2).toNat : Int), .int .u8 ((sf.best.b.f 3).toNat : Int), .int .u8 ((sf.best.b.f 4).toNat : Int), .int .u8 ((sf.best.b.f 5).toNat : Int), .int .u8 ((sf.best.b.f 6).toNat : Int), .int .u8 ((sf.best.b.f 7).toNat : Int), .int .i64 sf.best.p, .int .i64 sf.root]) := hRe
          have hRA : RAt w.heap.size g1 cap1 we sf.ports := HA.out.ports.same (hoe _ HA.out.gr)
          have hbf := HA.out.below.trans hbe
          have hOF := ROutAt.lower (ROutAt.same F1.out (fun m hm => hoe m (by have := HRL.out; omega))) HWQ.out
          clear hRe hoe hse hbe HA
          go_wp2_with fail
          refine bodyPost_ret (results_row_tmp1 Try.results20 _ _ (w.heap.size + 1) _ _ _ rfl HRE.out Try.underlying59 rfl (by kernel_rfl)) rfl ?_
          refine ⟨g1, cap1, u1, ?_, ?_, ?_, hbf⟩
          · (rw [HT1.out]; try rfl)
          · rw [HT1.out]; exact hRA.lower HBW.out
          · rw [HT1.out]; exact hOF
      · have HPT : Hid ((s.port k).upTo true = ⟨pc, true, heard, pw, prole, pstate, psince⟩) := by show _ = _; rw [hpk]; exact HPT0.out
        clear c13 HPT0 hltp
        have HT2 : Hid (s.setUp (k : Int) true = ((s.put k (⟨pc, true, heard, pw, prole, pstate, psince⟩ : SP)).found.1, if (s.put k (⟨pc, true, heard, pw, prole, pstate, psince⟩ : SP)).found.2 = true then (s.put k (⟨pc, true, heard, pw, prole, pstate, psince⟩ : SP)).found.1.tells (fun _ => true) else [])) := by
          show _ = _
          unfold SS.setUp SS.setF
          rw [if_pos HH.out, Int.toNat_natCast, HPT.out]
          try rfl
        have HOK2 : Hid ((s.put k (⟨pc, true, heard, pw, prole, pstate, psince⟩ : SP)).Ok n0) := HOK.out.put k _ hltk HSC.out HAG.out
        have HF2 : Hid (s.put k (⟨pc, true, heard, pw, prole, pstate, psince⟩ : SP)).Fit := SS.Fit.put HF0.out k _ HPF.out
        have HC2 : Hid (0 ≤ (s.put k (⟨pc, true, heard, pw, prole, pstate, psince⟩ : SP)).chg ∧ (s.put k (⟨pc, true, heard, pw, prole, pstate, psince⟩ : SP)).chg ≤ 999990000) := by have := HOK2.out.chg; show _ ∧ _; omega
        clear HOK HF0 HSC HAG HPF HPT HPK
        generalize hgen : (s.put k (⟨pc, true, heard, pw, prole, pstate, psince⟩ : SP)) = s2 at *
        clear hgen
        have HC := Lib.hid (refFound_n w.heap.size g1 cap1 s2 w3 HA.out.len HA.out.ports hl HF2.out HC2.out)
        go_wp2_with ((with_reducible refine at_load 59 (.tmp 3) ?_); refine wpList_load_midW rfl 59 (.tmp 3) rfl (w.heap.size) (0) rfl [.int .u8 ((s2.id.f 0).toNat : Int), .int .u8 ((s2.id.f 1).toNat : Int), .int .u8 ((s2.id.f 2).toNat : Int), .int .u8 ((s2.id.f 3).toNat : Int), .int .u8 ((s2.id.f 4).toNat : Int), .int .u8 ((s2.id.f 5).toNat : Int), .int .u8 ((s2.id.f 6).toNat : Int), .int .u8 ((s2.id.f 7).toNat : Int), .int .i64 s2.ma, .int .i64 s2.he, .int .i64 s2.de, .int .i64 s2.now, .int .i64 s2.chg, (.slice (some ⟨g1, 0, none⟩) s.ports.length cap1), .int .u8 ((s2.best.r.f 0).toNat : Int), .int .u8 ((s2.best.r.f 1).toNat : Int), .int .u8 ((s2.best.r.f 2).toNat : Int), .int .u8 ((s2.best.r.f 3).toNat : Int), .int .u8 ((s2.best.r.f 4).toNat : Int), .int .u8 ((s2.best.r.f 5).toNat : Int), .int .u8 ((s2.best.r.f 6).toNat : Int), .int .u8 ((s2.best.r.f 7).toNat : Int), .int .i64 s2.best.c, .int .u8 ((s2.best.b.f 0).toNat : Int), .int .u8 ((s2.best.b.f 1).toNat : Int), .int .u8 ((s2.best.b.f 2).toNat : Int), .int .u8 ((s2.best.b.f 3).toNat : Int), .int .u8 ((s2.best.b.f 4).toNat : Int), .int .u8 ((s2.best.b.f 5).toNat : Int), .int .u8 ((s2.best.b.f 6).toNat : Int), .int .u8 ((s2.best.b.f 7).toNat : Int), .int .i64 s2.best.p, .int .i64 s2.root] _ (range_of_row HA.out.box rfl) Try.underlying59 rfl (by kernel_rfl) ?_)
        refine HC.out.mono ?_
        rintro e wm ⟨rfl, hR4, hb4, ho4⟩
        have HA := Lib.hid (HA.out.portsSet hR4 (by rw [SS.found_len]; exact HA.out.len) ho4 hb4)
        clear HC hR4 ho4 hb4
        go_wp2_with ((with_reducible refine at_store 59 (.tmp 3) (.tmp 43) ?_); refine wpList_store_own rfl 59 (.tmp 3) (.tmp 43) rfl (w.heap.size) _ rfl rfl _ _ HA.out.box (by kernel_rfl) rfl (by simp [Value.oneCell']) (w.heap.size) (Nat.le_refl _) ?_)
        intro wq hR5 ho5 hs5 hb5
        have HA : Hid (BAt g1 cap1 s.ports.length w.heap.size (w.heap.size + 1) w wq s2.found.1) := HA.out.boxSet (s' := s2.found.1) rfl hR5 ho5 hb5
        clear hR5 ho5 hs5 hb5
        have HOKF := Lib.hid HOK2.out.found
        clear HOK2 HF2 HC2
        generalize s2.found = f3 at *
        obtain ⟨sf, ch⟩ := f3
        have HA : Hid (BAt g1 cap1 s.ports.length w.heap.size (w.heap.size + 1) w wq sf) := HA
        have HOKF : Hid (sf.Ok (n0 + 100)) := HOKF
        have HWQ : Hid (w.heap.size ≤ wq.heap.size) := HA.out.below.size
        have HRL : Hid (w.heap.size + 1 < wq.heap.size) := HA.out.ret.lt
        cases ch
        · have HT1 : Hid (s.setUp (k : Int) true = (sf, [])) := HT2.out
          clear HT2
          go_wp2_with (first
            | ((with_reducible refine at_load 59 (.tmp 3) ?_); refine wpList_load_midW rfl 59 (.tmp 3) rfl (w.heap.size) (0) rfl [.int .u8 ((sf.id.f 0).toNat : Int), .int .u8 ((sf.id.f 1).toNat : Int), .int .u8 ((sf.id.f 2).toNat : Int), .int .u8 ((sf.id.f 3).toNat : Int), .int .u8 ((sf.id.f 4).toNat : Int), .int .u8 ((sf.id.f 5).toNat : Int), .int .u8 ((sf.id.f 6).toNat : Int), .int .u8 ((sf.id.f 7).toNat : Int), .int .i64 sf.ma, .int .i64 sf.he, .int .i64 sf.de, .int .i64 sf.now, .int .i64 sf.chg, (.slice (some ⟨g1, 0, none⟩) s.ports.length cap1), .int .u8 ((sf.best.r.f 0).toNat : Int), .int .u8 ((sf.best.r.f 1).toNat : Int), .int .u8 ((sf.best.r.f 2).toNat : Int), .int .u8 ((sf.best.r.f 3).toNat : Int), .int .u8 ((sf.best.r.f 4).toNat : Int), .int .u8 ((sf.best.r.f 5).toNat : Int), .int .u8 ((sf.best.r.f 6).toNat : Int), .int .u8 ((sf.best.r.f 7).toNat : Int), .int .i64 sf.best.c, .int .u8 ((sf.best.b.f 0).toNat : Int), .int .u8 ((sf.best.b.f 1).toNat : Int), .int .u8 ((sf.best.b.f 2).toNat : Int), .int .u8 ((sf.best.b.f 3).toNat : Int), .int .u8 ((sf.best.b.f 4).toNat : Int), .int .u8 ((sf.best.b.f 5).toNat : Int), .int .u8 ((sf.best.b.f 6).toNat : Int), .int .u8 ((sf.best.b.f 7).toNat : Int), .int .i64 sf.best.p, .int .i64 sf.root] _ (range_of_row HA.out.box rfl) Try.underlying59 rfl (by kernel_rfl) ?_)
            | ((with_reducible refine at_store 59 (.tmp 6) (.tmp 47) ?_); refine wpList_store_own rfl 59 (.tmp 6) (.tmp 47) rfl (w.heap.size + 1) _ rfl rfl _ _ HA.out.ret (by kernel_rfl) rfl (by simp [Value.oneCell']) (w.heap.size) HA.out.hr ?_))
          intro we hRe hoe hse hbe
          have HRE : Hid (RowIs we (w.heap.size + 1) 59 #[.int .u8 ((sf.id.f 0).toNat : Int), .int .u8 ((sf.id.f 1).toNat : Int), .int .u8 ((sf.id.f 2).toNat : Int), .int .u8 ((sf.id.f 3).toNat : Int), .int .u8 ((sf.id.f 4).toNat : Int), .int .u8 ((sf.id.f 5).toNat : Int), .int .u8 ((sf.id.f 6).toNat : Int), .int .u8 ((sf.id.f 7).toNat : Int), .int .i64 sf.ma, .int .i64 sf.he, .int .i64 sf.de, .int .i64 sf.now, .int .i64 sf.chg, (.slice (some ⟨g1, 0, none⟩) s.ports.length cap1), .int .u8 ((sf.best.r.f 0).toNat : Int), .int .u8 ((sf.best.r.f 1).toNat : Int), .int .u8 ((sf.best.r.f 2).toNat : Int), .int .u8 ((sf.best.r.f 3).toNat : Int), .int .u8 ((sf.best.r.f 4).toNat : Int), .int .u8 ((sf.best.r.f 5).toNat : Int), .int .u8 ((sf.best.r.f 6).toNat : Int), .int .u8 ((sf.best.r.f 7).toNat : Int), .int .i64 sf.best.c, .int .u8 ((sf.best.b.f 0).toNat : Int), .int .u8 ((sf.best.b.f 1).toNat : Int), .int .u8 ((sf.best.b.f 2).toNat : Int), .int .u8 ((sf.best.b.f 3).toNat : Int), .int .u8 ((sf.best.b.f 4).toNat : Int), .int .u8 ((sf.best.b.f 5).toNat : Int), .int .u8 ((sf.best.b.f 6).toNat : Int), .int .u8 ((sf.best.b.f 7).toNat : Int), .int .i64 sf.best.p, .int .i64 sf.root]) := hRe
          have hRA : RAt w.heap.size g1 cap1 we sf.ports := HA.out.ports.same (hoe _ HA.out.gr)
          have hbf := HA.out.below.trans hbe
          clear hRe hoe hse hbe HA
          go_wp2_with fail
          refine bodyPost_ret (results_row_tmp1 Try.results20 _ _ (w.heap.size + 1) _ _ _ rfl HRE.out Try.underlying59 rfl (by kernel_rfl)) rfl ?_
          refine ⟨g1, cap1, .slice none 0 0, ?_, ?_, ?_, hbf⟩
          · (rw [HT1.out]; try rfl)
          · rw [HT1.out]; exact hRA.lower HBW.out
          · rw [HT1.out]; exact rout_nil _ _
        · have HT1 : Hid (s.setUp (k : Int) true = (sf, sf.tells (fun _ => true))) := HT2.out
          clear HT2
          have HT : Hid (∀ w', Below wq.heap.size wq w' → Calls Try.prog 40 #[.agg #[.int .u8 ((sf.id.f 0).toNat : Int), .int .u8 ((sf.id.f 1).toNat : Int), .int .u8 ((sf.id.f 2).toNat : Int), .int .u8 ((sf.id.f 3).toNat : Int), .int .u8 ((sf.id.f 4).toNat : Int), .int .u8 ((sf.id.f 5).toNat : Int), .int .u8 ((sf.id.f 6).toNat : Int), .int .u8 ((sf.id.f 7).toNat : Int), .int .i64 sf.ma, .int .i64 sf.he, .int .i64 sf.de, .int .i64 sf.now, .int .i64 sf.chg, (.slice (some ⟨g1, 0, none⟩) s.ports.length cap1), .int .u8 ((sf.best.r.f 0).toNat : Int), .int .u8 ((sf.best.r.f 1).toNat : Int), .int .u8 ((sf.best.r.f 2).toNat : Int), .int .u8 ((sf.best.r.f 3).toNat : Int), .int .u8 ((sf.best.r.f 4).toNat : Int), .int .u8 ((sf.best.r.f 5).toNat : Int), .int .u8 ((sf.best.r.f 6).toNat : Int), .int .u8 ((sf.best.r.f 7).toNat : Int), .int .i64 sf.best.c, .int .u8 ((sf.best.b.f 0).toNat : Int), .int .u8 ((sf.best.b.f 1).toNat : Int), .int .u8 ((sf.best.b.f 2).toNat : Int), .int .u8 ((sf.best.b.f 3).toNat : Int), .int .u8 ((sf.best.b.f 4).toNat : Int), .int .u8 ((sf.best.b.f 5).toNat : Int), .int .u8 ((sf.best.b.f 6).toNat : Int), .int .u8 ((sf.best.b.f 7).toNat : Int), .int .i64 sf.best.p, .int .i64 sf.root], .int .i64 (-1)] w' fun e w'' => ∃ v, e = .returned v ∧ ROutAt w'' w'.heap.size v (sf.tells (fun _ => true)) ∧ Below w'.heap.size w' w'') := fun w' hb => refTells_n w.heap.size g1 cap1 sf (-1) w' HA.out.len (HA.out.ports.later hb) hl HOKF.out.root HOKF.out.ages HOKF.out.ma.1
          go_upto_region 11 with fail
          refine wp_region_mix 3 (by kernel_rfl) (by kernel_rfl) (by kernel_rfl) ?_
          refine mix_exact (.agg #[.int .u8 ((sf.id.f 0).toNat : Int), .int .u8 ((sf.id.f 1).toNat : Int), .int .u8 ((sf.id.f 2).toNat : Int), .int .u8 ((sf.id.f 3).toNat : Int), .int .u8 ((sf.id.f 4).toNat : Int), .int .u8 ((sf.id.f 5).toNat : Int), .int .u8 ((sf.id.f 6).toNat : Int), .int .u8 ((sf.id.f 7).toNat : Int), .int .i64 sf.ma, .int .i64 sf.he, .int .i64 sf.de, .int .i64 sf.now, .int .i64 sf.chg, (.slice (some ⟨g1, 0, none⟩) s.ports.length cap1), .int .u8 ((sf.best.r.f 0).toNat : Int), .int .u8 ((sf.best.r.f 1).toNat : Int), .int .u8 ((sf.best.r.f 2).toNat : Int), .int .u8 ((sf.best.r.f 3).toNat : Int), .int .u8 ((sf.best.r.f 4).toNat : Int), .int .u8 ((sf.best.r.f 5).toNat : Int), .int .u8 ((sf.best.r.f 6).toNat : Int), .int .u8 ((sf.best.r.f 7).toNat : Int), .int .i64 sf.best.c, .int .u8 ((sf.best.b.f 0).toNat : Int), .int .u8 ((sf.best.b.f 1).toNat : Int), .int .u8 ((sf.best.b.f 2).toNat : Int), .int .u8 ((sf.best.b.f 3).toNat : Int), .int .u8 ((sf.best.b.f 4).toNat : Int), .int .u8 ((sf.best.b.f 5).toNat : Int), .int .u8 ((sf.best.b.f 6).toNat : Int), .int .u8 ((sf.best.b.f 7).toNat : Int), .int .i64 sf.best.p, .int .i64 sf.root]) rfl (exact_load_row rfl rfl (by simp) HA.out.box Try.underlying59 rfl (by kernel_rfl)) ?_
          refine mix_exact (.agg #[.int .u8 ((sf.id.f 0).toNat : Int), .int .u8 ((sf.id.f 1).toNat : Int), .int .u8 ((sf.id.f 2).toNat : Int), .int .u8 ((sf.id.f 3).toNat : Int), .int .u8 ((sf.id.f 4).toNat : Int), .int .u8 ((sf.id.f 5).toNat : Int), .int .u8 ((sf.id.f 6).toNat : Int), .int .u8 ((sf.id.f 7).toNat : Int), .int .i64 sf.ma, .int .i64 sf.he, .int .i64 sf.de, .int .i64 sf.now, .int .i64 sf.chg, (.slice (some ⟨g1, 0, none⟩) s.ports.length cap1), .int .u8 ((sf.best.r.f 0).toNat : Int), .int .u8 ((sf.best.r.f 1).toNat : Int), .int .u8 ((sf.best.r.f 2).toNat : Int), .int .u8 ((sf.best.r.f 3).toNat : Int), .int .u8 ((sf.best.r.f 4).toNat : Int), .int .u8 ((sf.best.r.f 5).toNat : Int), .int .u8 ((sf.best.r.f 6).toNat : Int), .int .u8 ((sf.best.r.f 7).toNat : Int), .int .i64 sf.best.c, .int .u8 ((sf.best.b.f 0).toNat : Int), .int .u8 ((sf.best.b.f 1).toNat : Int), .int .u8 ((sf.best.b.f 2).toNat : Int), .int .u8 ((sf.best.b.f 3).toNat : Int), .int .u8 ((sf.best.b.f 4).toNat : Int), .int .u8 ((sf.best.b.f 5).toNat : Int), .int .u8 ((sf.best.b.f 6).toNat : Int), .int .u8 ((sf.best.b.f 7).toNat : Int), .int .i64 sf.best.p, .int .i64 sf.root]) rfl (exact_load_row rfl rfl (by simp) HA.out.box Try.underlying59 rfl (by kernel_rfl)) ?_
          refine mix_special (TellAt wq.heap.size (sf.tells (fun _ => true))) 50 rfl rfl (stable_tell _ _) (owes_callO (xs := [.tmp 49, .const (.int .i64 (-1))]) (vs := [.agg #[.int .u8 ((sf.id.f 0).toNat : Int), .int .u8 ((sf.id.f 1).toNat : Int), .int .u8 ((sf.id.f 2).toNat : Int), .int .u8 ((sf.id.f 3).toNat : Int), .int .u8 ((sf.id.f 4).toNat : Int), .int .u8 ((sf.id.f 5).toNat : Int), .int .u8 ((sf.id.f 6).toNat : Int), .int .u8 ((sf.id.f 7).toNat : Int), .int .i64 sf.ma, .int .i64 sf.he, .int .i64 sf.de, .int .i64 sf.now, .int .i64 sf.chg, (.slice (some ⟨g1, 0, none⟩) s.ports.length cap1), .int .u8 ((sf.best.r.f 0).toNat : Int), .int .u8 ((sf.best.r.f 1).toNat : Int), .int .u8 ((sf.best.r.f 2).toNat : Int), .int .u8 ((sf.best.r.f 3).toNat : Int), .int .u8 ((sf.best.r.f 4).toNat : Int), .int .u8 ((sf.best.r.f 5).toNat : Int), .int .u8 ((sf.best.r.f 6).toNat : Int), .int .u8 ((sf.best.r.f 7).toNat : Int), .int .i64 sf.best.c, .int .u8 ((sf.best.b.f 0).toNat : Int), .int .u8 ((sf.best.b.f 1).toNat : Int), .int .u8 ((sf.best.b.f 2).toNat : Int), .int .u8 ((sf.best.b.f 3).toNat : Int), .int .u8 ((sf.best.b.f 4).toNat : Int), .int .u8 ((sf.best.b.f 5).toNat : Int), .int .u8 ((sf.best.b.f 6).toNat : Int), .int .u8 ((sf.best.b.f 7).toNat : Int), .int .i64 sf.best.p, .int .i64 sf.root], .int .i64 (-1)]) rfl (by simp) rfl Try.func40 (by kernel_rfl) (by kernel_rfl) (fun w' hb => (HT.out w' hb).mono (by
            rintro e w'' ⟨u, rfl, ho, hbb⟩
            exact ⟨u, rfl, hbb, ROutAt.lower ho hb.size⟩))) ?_
          refine mix_nil ?_
          rintro ⟨dr, osr⟩
          have hb8 := below_regrown wq dr osr
          intro u1 f1
          have F1 : Hid (ROutAt _ wq.heap.size u1 (sf.tells (fun _ => true))) := f1
          have HA := Lib.hid (HA.out.later hb8)
          clear f1
          generalize grow (redrawn wq dr) osr = wz at *
          refine (show wpList _ _ _ _ _ _ from ?_)
          simp only [List.drop, Act.put, List.setIfInBounds_toArray, List.set]
          go_wp2_with ((with_reducible refine at_store 59 (.tmp 6) (.tmp 48) ?_); refine wpList_store_own rfl 59 (.tmp 6) (.tmp 48) rfl (w.heap.size + 1) _ rfl rfl _ _ HA.out.ret (by kernel_rfl) rfl (by simp [Value.oneCell']) (w.heap.size) HA.out.hr ?_)
          intro we hRe hoe hse hbe
          have HRE : Hid (RowIs we (w.heap.size + 1) 59 #[.int .u8 ((sf.id.f 0).toNat : Int), .int .u8 ((sf.id.f 1).toNat : Int), .int .u8 ((sf.id.f 2).toNat : Int), .int .u8 ((sf.id.f 3).toNat : Int), .int .u8 ((sf.id.f 4).toNat : Int), .int .u8 ((sf.id.f 5).toNat : Int), .int .u8 ((sf.id.f 6).toNat : Int), .int .u8 ((sf.id.f 7).toNat : Int), .int .i64 sf.ma, .int .i64 sf.he, .int .i64 sf.de, .int .i64 sf.now, .int .i64 sf.chg, (.slice (some ⟨g1, 0, none⟩) s.ports.length cap1), .int .u8 ((sf.best.r.f 0).toNat : Int), .int .u8 ((sf.best.r.f 1).toNat : Int), .int .u8 ((sf.best.r.f 2).toNat : Int), .int .u8 ((sf.best.r.f 3).toNat : Int), .int .u8 ((sf.best.r.f 4).toNat : Int), .int .u8 ((sf.best.r.f 5).toNat : Int), .int .u8 ((sf.best.r.f 6).toNat : Int), .int .u8 ((sf.best.r.f 7).toNat : Int), .int .i64 sf.best.c, .int .u8 ((sf.best.b.f 0).toNat : Int), .int .u8 ((sf.best.b.f 1).toNat : Int), .int .u8 ((sf.best.b.f 2).toNat : Int), .int .u8 ((sf.best.b.f 3).toNat : Int), .int .u8 ((sf.best.b.f 4).toNat : Int), .int .u8 ((sf.best.b.f 5).toNat : Int), .int .u8 ((sf.best.b.f 6).toNat : Int), .int .u8 ((sf.best.b.f 7).toNat : Int), .int .i64 sf.best.p, .int .i64 sf.root]) := hRe
          have hRA : RAt w.heap.size g1 cap1 we sf.ports := HA.out.ports.same (hoe _ HA.out.gr)
          have hbf := HA.out.below.trans hbe
          have hOF := ROutAt.lower (ROutAt.same F1.out (fun m hm => hoe m (by have := HRL.out; omega))) HWQ.out
          clear hRe hoe hse hbe HA
          go_wp2_with fail
          refine bodyPost_ret (results_row_tmp1 Try.results20 _ _ (w.heap.size + 1) _ _ _ rfl HRE.out Try.underlying59 rfl (by kernel_rfl)) rfl ?_
          refine ⟨g1, cap1, u1, ?_, ?_, ?_, hbf⟩
          · (rw [HT1.out]; try rfl)
          · rw [HT1.out]; exact hRA.lower HBW.out
          · rw [HT1.out]; exact hOF
end Go.Proofs.Ytdhiaidbpjjljaa
