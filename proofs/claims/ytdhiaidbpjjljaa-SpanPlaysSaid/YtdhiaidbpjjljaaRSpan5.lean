/- causeyref17: Tick. By an AI agent. -/
import Derived.Test.YtdhiaidbpjjljaaRSpan4
namespace Go.Proofs.Ytdhiaidbpjjljaa
open Go.RowKit Go.WideShapes Go.Sort Grow

set_option maxRecDepth 20000 in
set_option maxHeartbeats 16000000 in
theorem refTick_any (B g cap : Nat) (s : SS) (w : World) (n0 : Int) (hR : RAt B g cap w s.ports) (hok : s.Ok n0) (hn : n0 ≤ 900000000) (hF : s.Fit) :
    Calls Try.prog 19 #[.agg #[.int .u8 ((s.id.f 0).toNat : Int), .int .u8 ((s.id.f 1).toNat : Int), .int .u8 ((s.id.f 2).toNat : Int), .int .u8 ((s.id.f 3).toNat : Int), .int .u8 ((s.id.f 4).toNat : Int), .int .u8 ((s.id.f 5).toNat : Int), .int .u8 ((s.id.f 6).toNat : Int), .int .u8 ((s.id.f 7).toNat : Int), .int .i64 s.ma, .int .i64 s.he, .int .i64 s.de, .int .i64 s.now, .int .i64 s.chg, (.slice (some ⟨g, 0, none⟩) s.ports.length cap), .int .u8 ((s.best.r.f 0).toNat : Int), .int .u8 ((s.best.r.f 1).toNat : Int), .int .u8 ((s.best.r.f 2).toNat : Int), .int .u8 ((s.best.r.f 3).toNat : Int), .int .u8 ((s.best.r.f 4).toNat : Int), .int .u8 ((s.best.r.f 5).toNat : Int), .int .u8 ((s.best.r.f 6).toNat : Int), .int .u8 ((s.best.r.f 7).toNat : Int), .int .i64 s.best.c, .int .u8 ((s.best.b.f 0).toNat : Int), .int .u8 ((s.best.b.f 1).toNat : Int), .int .u8 ((s.best.b.f 2).toNat : Int), .int .u8 ((s.best.b.f 3).toNat : Int), .int .u8 ((s.best.b.f 4).toNat : Int), .int .u8 ((s.best.b.f 5).toNat : Int), .int .u8 ((s.best.b.f 6).toNat : Int), .int .u8 ((s.best.b.f 7).toNat : Int), .int .i64 s.best.p, .int .i64 s.root]] w fun e w' => ∃ g' cap' v, e = .returned (.tuple #[.agg #[.int .u8 ((s.tick.1.id.f 0).toNat : Int), .int .u8 ((s.tick.1.id.f 1).toNat : Int), .int .u8 ((s.tick.1.id.f 2).toNat : Int), .int .u8 ((s.tick.1.id.f 3).toNat : Int), .int .u8 ((s.tick.1.id.f 4).toNat : Int), .int .u8 ((s.tick.1.id.f 5).toNat : Int), .int .u8 ((s.tick.1.id.f 6).toNat : Int), .int .u8 ((s.tick.1.id.f 7).toNat : Int), .int .i64 s.tick.1.ma, .int .i64 s.tick.1.he, .int .i64 s.tick.1.de, .int .i64 s.tick.1.now, .int .i64 s.tick.1.chg, (.slice (some ⟨g', 0, none⟩) s.ports.length cap'), .int .u8 ((s.tick.1.best.r.f 0).toNat : Int), .int .u8 ((s.tick.1.best.r.f 1).toNat : Int), .int .u8 ((s.tick.1.best.r.f 2).toNat : Int), .int .u8 ((s.tick.1.best.r.f 3).toNat : Int), .int .u8 ((s.tick.1.best.r.f 4).toNat : Int), .int .u8 ((s.tick.1.best.r.f 5).toNat : Int), .int .u8 ((s.tick.1.best.r.f 6).toNat : Int), .int .u8 ((s.tick.1.best.r.f 7).toNat : Int), .int .i64 s.tick.1.best.c, .int .u8 ((s.tick.1.best.b.f 0).toNat : Int), .int .u8 ((s.tick.1.best.b.f 1).toNat : Int), .int .u8 ((s.tick.1.best.b.f 2).toNat : Int), .int .u8 ((s.tick.1.best.b.f 3).toNat : Int), .int .u8 ((s.tick.1.best.b.f 4).toNat : Int), .int .u8 ((s.tick.1.best.b.f 5).toNat : Int), .int .u8 ((s.tick.1.best.b.f 6).toNat : Int), .int .u8 ((s.tick.1.best.b.f 7).toNat : Int), .int .i64 s.tick.1.best.p, .int .i64 s.tick.1.root], v]) ∧ RAt w.heap.size g' cap' w' s.tick.1.ports ∧ ROutAt w' w.heap.size v s.tick.2 ∧ Below w.heap.size w w' := by
  have hl : s.ports.length ≤ 1000 := by have := hok.len; omega
  have HR := Lib.hid hR
  have HOK := Lib.hid hok
  have hnow := hok.now
  have HT1 : Hid (s.tick = (s.ticked, if (decide (s.ticked.root ≥ 0) || s.ticked.now % s.ticked.he != 0) = true then [] else s.ticked.tells (fun _ => true))) := rfl
  have HT2 : Hid (s.ticked = matF s.next.aged.found.1 s.next.aged.found.1.ports.length) := rfl
  have HF0 := Lib.hid hF
  clear hR hok hF
  go_enter Try.func19, Try.ntmps19
  go_upto_region 1 with fail
  generalize hW : (w.alloc _).alloc _ = W
  have hbW : Below w.heap.size w W := by rw [← hW]; exact ((Below.refl _ _).alloc (Nat.le_refl _) _).alloc (by simp) _
  have R1 : Hid (RowIs W w.heap.size 59 #[.int .u8 ((s.id.f 0).toNat : Int), .int .u8 ((s.id.f 1).toNat : Int), .int .u8 ((s.id.f 2).toNat : Int), .int .u8 ((s.id.f 3).toNat : Int), .int .u8 ((s.id.f 4).toNat : Int), .int .u8 ((s.id.f 5).toNat : Int), .int .u8 ((s.id.f 6).toNat : Int), .int .u8 ((s.id.f 7).toNat : Int), .int .i64 s.ma, .int .i64 s.he, .int .i64 s.de, .int .i64 s.now, .int .i64 s.chg, (.slice (some ⟨g, 0, none⟩) s.ports.length cap), .int .u8 ((s.best.r.f 0).toNat : Int), .int .u8 ((s.best.r.f 1).toNat : Int), .int .u8 ((s.best.r.f 2).toNat : Int), .int .u8 ((s.best.r.f 3).toNat : Int), .int .u8 ((s.best.r.f 4).toNat : Int), .int .u8 ((s.best.r.f 5).toNat : Int), .int .u8 ((s.best.r.f 6).toNat : Int), .int .u8 ((s.best.r.f 7).toNat : Int), .int .i64 s.best.c, .int .u8 ((s.best.b.f 0).toNat : Int), .int .u8 ((s.best.b.f 1).toNat : Int), .int .u8 ((s.best.b.f 2).toNat : Int), .int .u8 ((s.best.b.f 3).toNat : Int), .int .u8 ((s.best.b.f 4).toNat : Int), .int .u8 ((s.best.b.f 5).toNat : Int), .int .u8 ((s.best.b.f 6).toNat : Int), .int .u8 ((s.best.b.f 7).toNat : Int), .int .i64 s.best.p, .int .i64 s.root]) := by subst hW; exact (rowIs_new w _ _).alloc _
  have R2 : Hid (RowIs W (w.heap.size + 1) 59 #[.int .u8 0, .int .u8 0, .int .u8 0, .int .u8 0, .int .u8 0, .int .u8 0, .int .u8 0, .int .u8 0, .int .i64 0, .int .i64 0, .int .i64 0, .int .i64 0, .int .i64 0, .slice none 0 0, .int .u8 0, .int .u8 0, .int .u8 0, .int .u8 0, .int .u8 0, .int .u8 0, .int .u8 0, .int .u8 0, .int .i64 0, .int .u8 0, .int .u8 0, .int .u8 0, .int .u8 0, .int .u8 0, .int .u8 0, .int .u8 0, .int .u8 0, .int .i64 0, .int .i64 0]) := by subst hW; exact rowIs_new1 w _ _ _
  have hWs : w.heap.size + 1 < W.heap.size := R2.out.lt
  clear hW
  have HC := Lib.hid (refCopied_any B g cap s W (HR.out.later hbW) hl)
  go_wp2_with ((with_reducible refine at_load 59 (.tmp 1) ?_); refine wpList_load_midW rfl 59 (.tmp 1) rfl (w.heap.size) (0) rfl [.int .u8 ((s.id.f 0).toNat : Int), .int .u8 ((s.id.f 1).toNat : Int), .int .u8 ((s.id.f 2).toNat : Int), .int .u8 ((s.id.f 3).toNat : Int), .int .u8 ((s.id.f 4).toNat : Int), .int .u8 ((s.id.f 5).toNat : Int), .int .u8 ((s.id.f 6).toNat : Int), .int .u8 ((s.id.f 7).toNat : Int), .int .i64 s.ma, .int .i64 s.he, .int .i64 s.de, .int .i64 s.now, .int .i64 s.chg, (.slice (some ⟨g, 0, none⟩) s.ports.length cap), .int .u8 ((s.best.r.f 0).toNat : Int), .int .u8 ((s.best.r.f 1).toNat : Int), .int .u8 ((s.best.r.f 2).toNat : Int), .int .u8 ((s.best.r.f 3).toNat : Int), .int .u8 ((s.best.r.f 4).toNat : Int), .int .u8 ((s.best.r.f 5).toNat : Int), .int .u8 ((s.best.r.f 6).toNat : Int), .int .u8 ((s.best.r.f 7).toNat : Int), .int .i64 s.best.c, .int .u8 ((s.best.b.f 0).toNat : Int), .int .u8 ((s.best.b.f 1).toNat : Int), .int .u8 ((s.best.b.f 2).toNat : Int), .int .u8 ((s.best.b.f 3).toNat : Int), .int .u8 ((s.best.b.f 4).toNat : Int), .int .u8 ((s.best.b.f 5).toNat : Int), .int .u8 ((s.best.b.f 6).toNat : Int), .int .u8 ((s.best.b.f 7).toNat : Int), .int .i64 s.best.p, .int .i64 s.root] _ (range_of_row R1.out rfl) Try.underlying59 rfl (by kernel_rfl) ?_)
  refine HC.out.mono ?_
  rintro e w1 ⟨g1, cap1, rfl, hR1, hb1⟩
  have R1 := Lib.hid (R1.out.kept hb1)
  have R2 := Lib.hid (R2.out.kept hb1)
  have hg1 : W.heap.size ≤ g1 := hR1.hB
  clear HC
  go_wp2_with ((with_reducible refine at_store 59 (.tmp 1) (.tmp 9) ?_); refine wpList_store_own rfl 59 (.tmp 1) (.tmp 9) rfl (w.heap.size) _ rfl rfl _ _ R1.out (by kernel_rfl) rfl (by simp [Value.oneCell']) (w.heap.size) (Nat.le_refl _) ?_)
  intro w2 hR2 ho2 hs2 hb2
  have HA : Hid (BAt g1 cap1 s.ports.length w.heap.size (w.heap.size + 1) w w2 s) := ⟨hR2, rowIs_same R2.out (ho2 _ (by omega)), (hR1.same (ho2 _ (by omega))).lower hbW.size, rfl, by omega, by omega, by omega, Nat.le_refl _, Nat.le_succ _, (hbW.trans (hb1.mono hbW.size)).trans hb2⟩
  clear hR2 ho2 hs2 hb2 R1 R2 hR1 hb1 hg1 hbW HR
  have c11 : w2.cell? ⟨w.heap.size, 11, none⟩ = some (.int .i64 s.now) := HA.out.box.cell 11
  have hwr : IntKind.i64.wrap (s.now + 1) = s.now + 1 := IntWalk.i64_in _ (by omega)
  go_wp2_with ((with_reducible refine at_store 3 (.tmp 13) (.tmp 12) ?_); refine wpList_store_cell rfl 3 (.tmp 13) (.tmp 12) rfl (w.heap.size) 11 (.int .i64 (s.now + 1)) rfl rfl 59 _ HA.out.box (show 11 < 33 from by decide) (by kernel_rfl) rfl (w.heap.size) (Nat.le_refl _) ?_)
  intro w3 hR3 ho3 hs3 hb3
  have HA := Lib.hid (HA.out.boxSet (s' := s.next) rfl hR3 ho3 hb3)
  have HOK1 := Lib.hid HOK.out.next
  have HF1 : Hid s.next.Fit := HF0.out
  clear hR3 ho3 hs3 hb3 c11 hwr hnow HOK HF0
  generalize s.next = s1 at *
  have hl1 : s1.ports.length = s.ports.length := HA.out.len
  have HA0 : Hid (BAt g1 cap1 s.ports.length w.heap.size (w.heap.size + 1) w w3 (s1.mapTo (SP.aged s1.ma) 0)) := by show BAt _ _ _ _ _ _ _ _; rw [SS.mapTo_zero]; exact HA.out
  have c13 : w3.cell? ⟨w.heap.size, 13, none⟩ = some (.slice (some ⟨g1, 0, none⟩) s.ports.length cap1) := HA.out.box.cell 13
  clear HA
  go_upto_region 4 with fail
  clear c13
  go_loopw [4] (fun v4 wr => ∃ i : Nat, i ≤ s.ports.length ∧ v4 = .int .i64 i ∧ Hid (BAt g1 cap1 s.ports.length w.heap.size (w.heap.size + 1) w wr (s1.mapTo (SP.aged s1.ma) i))) (fun v4 _ => s.ports.length - (intOf v4).toNat)
  case atStart => exact ⟨0, Nat.zero_le _, rfl, HA0⟩
  case round =>
    clear HA0
    rename World => wr
    obtain ⟨i, hi, rfl, HA⟩ := hrel
    have c13 : wr.cell? ⟨w.heap.size, 13, none⟩ = some (.slice (some ⟨g1, 0, none⟩) s.ports.length cap1) := HA.out.box.cell 13
    by_cases hlt : i < s.ports.length
    · have HPE : Hid ((s1.mapTo (SP.aged s1.ma) i).port i = s1.port i) := s1.mapTo_port _ i (by omega)
      have HN : Hid (s1.mapTo (SP.aged s1.ma) (i + 1) = (s1.mapTo (SP.aged s1.ma) i).put i ((s1.port i).aged s1.ma)) := s1.mapTo_succ _ i (by omega)
      have HMA : Hid ((s1.mapTo (SP.aged s1.ma) i).ma = s1.ma) := rfl
      have HAG : Hid ((s1.port i).aged s1.ma = if (s1.port i).heard then (if (s1.port i).w.age + 1 ≥ s1.ma then { s1.port i with heard := false, w := .zero } else { s1.port i with w := { (s1.port i).w with age := (s1.port i).w.age + 1 } }) else s1.port i) := rfl
      have hag := HOK1.out.age i
      generalize s1.mapTo (SP.aged s1.ma) i = si at *
      have hlti : i < si.ports.length := by have := HA.out.len; omega
      have HRG : Hid (wr.rangeAt g1 (i * 30) (s1.port i).rc) := by
        show World.rangeAt _ _ _ _
        rw [← HPE.out, ← SS.port_get si hlti]
        exact HA.out.ports.range hlti
      generalize s1.port i = p at *
      obtain ⟨pc, up, heard, pw, prole, pstate, psince⟩ := p
      simp only at HAG hag
      have hkb : wr.heap.size ≠ w.heap.size := Nat.ne_of_gt HA.out.box.lt
      have hkr : wr.heap.size ≠ w.heap.size + 1 := Nat.ne_of_gt HA.out.ret.lt
      have hkg : wr.heap.size ≠ g1 := Nat.ne_of_gt HA.out.ports.lt
      have hkw : w.heap.size ≤ wr.heap.size := HA.out.below.size
      go_wp2_with (first
        | ((with_reducible refine at_load 75 (.tmp 24) ?_); refine wpList_load_midW rfl 75 (.tmp 24) rfl (g1) ((i * 30)) rfl [.int .i64 pc, .int .i64 prole, .int .i64 (pstate), .int .i64 psince, .bool up, .bool heard, .int .u8 ((pw.r.f 0).toNat : Int), .int .u8 ((pw.r.f 1).toNat : Int), .int .u8 ((pw.r.f 2).toNat : Int), .int .u8 ((pw.r.f 3).toNat : Int), .int .u8 ((pw.r.f 4).toNat : Int), .int .u8 ((pw.r.f 5).toNat : Int), .int .u8 ((pw.r.f 6).toNat : Int), .int .u8 ((pw.r.f 7).toNat : Int), .int .u8 ((pw.b.f 0).toNat : Int), .int .u8 ((pw.b.f 1).toNat : Int), .int .u8 ((pw.b.f 2).toNat : Int), .int .u8 ((pw.b.f 3).toNat : Int), .int .u8 ((pw.b.f 4).toNat : Int), .int .u8 ((pw.b.f 5).toNat : Int), .int .u8 ((pw.b.f 6).toNat : Int), .int .u8 ((pw.b.f 7).toNat : Int), .int .i64 pw.c, .int .i64 pw.p, .int .i64 pw.age, .int .i64 pw.ma, .int .i64 pw.he, .int .i64 pw.de, .bool pw.ch, .bool pw.ak] _ HRG.out Try.underlying75 rfl (by kernel_rfl) ?_)
        | ((with_reducible refine at_store 75 (.tmp 5) (.tmp 25) ?_); refine wpList_store_own rfl 75 (.tmp 5) (.tmp 25) rfl (wr.heap.size) _ rfl rfl _ _ (rowIs_new wr _ _) (by kernel_rfl) rfl (by simp [Value.oneCell']) (wr.heap.size) (Nat.le_refl _) ?_))
      intro w4 hR4 ho4 hs4 hb4
      have hbw : Below wr.heap.size wr w4 := ((Below.refl _ _).alloc (Nat.le_refl _) _).trans hb4
      have HP : Hid (RowIs w4 wr.heap.size 75 #[.int .i64 pc, .int .i64 prole, .int .i64 (pstate), .int .i64 psince, .bool up, .bool heard, .int .u8 ((pw.r.f 0).toNat : Int), .int .u8 ((pw.r.f 1).toNat : Int), .int .u8 ((pw.r.f 2).toNat : Int), .int .u8 ((pw.r.f 3).toNat : Int), .int .u8 ((pw.r.f 4).toNat : Int), .int .u8 ((pw.r.f 5).toNat : Int), .int .u8 ((pw.r.f 6).toNat : Int), .int .u8 ((pw.r.f 7).toNat : Int), .int .u8 ((pw.b.f 0).toNat : Int), .int .u8 ((pw.b.f 1).toNat : Int), .int .u8 ((pw.b.f 2).toNat : Int), .int .u8 ((pw.b.f 3).toNat : Int), .int .u8 ((pw.b.f 4).toNat : Int), .int .u8 ((pw.b.f 5).toNat : Int), .int .u8 ((pw.b.f 6).toNat : Int), .int .u8 ((pw.b.f 7).toNat : Int), .int .i64 pw.c, .int .i64 pw.p, .int .i64 pw.age, .int .i64 pw.ma, .int .i64 pw.he, .int .i64 pw.de, .bool pw.ch, .bool pw.ak]) := hR4
      have HA := Lib.hid (HA.out.later hbw)
      clear hR4 ho4 hs4 hb4 c13 HRG hbw
      have p5 : w4.cell? ⟨wr.heap.size, 5, none⟩ = some (.bool heard) := HP.out.cell 5
      cases heard
      · have HX : Hid (SP.aged s1.ma ⟨pc, up, false, pw, prole, pstate, psince⟩ = ⟨pc, up, false, pw, prole, pstate, psince⟩) := HAG.out
        have c13 : World.cell? _ ⟨w.heap.size, 13, none⟩ = some (.slice (some ⟨g1, 0, none⟩) s.ports.length cap1) := HA.out.box.cell 13
        go_wp2_with (first
          | ((with_reducible refine at_load 75 (.tmp 5) ?_); refine wpList_load_midW rfl 75 (.tmp 5) rfl (wr.heap.size) (0) rfl [.int .i64 pc, .int .i64 prole, .int .i64 (pstate), .int .i64 psince, .bool up, .bool false, .int .u8 ((pw.r.f 0).toNat : Int), .int .u8 ((pw.r.f 1).toNat : Int), .int .u8 ((pw.r.f 2).toNat : Int), .int .u8 ((pw.r.f 3).toNat : Int), .int .u8 ((pw.r.f 4).toNat : Int), .int .u8 ((pw.r.f 5).toNat : Int), .int .u8 ((pw.r.f 6).toNat : Int), .int .u8 ((pw.r.f 7).toNat : Int), .int .u8 ((pw.b.f 0).toNat : Int), .int .u8 ((pw.b.f 1).toNat : Int), .int .u8 ((pw.b.f 2).toNat : Int), .int .u8 ((pw.b.f 3).toNat : Int), .int .u8 ((pw.b.f 4).toNat : Int), .int .u8 ((pw.b.f 5).toNat : Int), .int .u8 ((pw.b.f 6).toNat : Int), .int .u8 ((pw.b.f 7).toNat : Int), .int .i64 pw.c, .int .i64 pw.p, .int .i64 pw.age, .int .i64 pw.ma, .int .i64 pw.he, .int .i64 pw.de, .bool pw.ch, .bool pw.ak] _ (range_of_row HP.out rfl) Try.underlying75 rfl (by kernel_rfl) ?_)
          | ((with_reducible refine at_store 75 (.tmp 47) (.tmp 46) ?_); refine wpList_store_rp rfl 75 (.tmp 47) (.tmp 46) rfl g1 (i * 30) i 0 #[.int .i64 pc, .int .i64 prole, .int .i64 (pstate), .int .i64 psince, .bool up, .bool false, .int .u8 ((pw.r.f 0).toNat : Int), .int .u8 ((pw.r.f 1).toNat : Int), .int .u8 ((pw.r.f 2).toNat : Int), .int .u8 ((pw.r.f 3).toNat : Int), .int .u8 ((pw.r.f 4).toNat : Int), .int .u8 ((pw.r.f 5).toNat : Int), .int .u8 ((pw.r.f 6).toNat : Int), .int .u8 ((pw.r.f 7).toNat : Int), .int .u8 ((pw.b.f 0).toNat : Int), .int .u8 ((pw.b.f 1).toNat : Int), .int .u8 ((pw.b.f 2).toNat : Int), .int .u8 ((pw.b.f 3).toNat : Int), .int .u8 ((pw.b.f 4).toNat : Int), .int .u8 ((pw.b.f 5).toNat : Int), .int .u8 ((pw.b.f 6).toNat : Int), .int .u8 ((pw.b.f 7).toNat : Int), .int .i64 pw.c, .int .i64 pw.p, .int .i64 pw.age, .int .i64 pw.ma, .int .i64 pw.he, .int .i64 pw.de, .bool pw.ch, .bool pw.ak] rfl rfl HA.out.ports hlti rfl (show 0 + 30 ≤ 30 from by decide) (by kernel_rfl) (by simp [Value.oneCell']) (⟨pc, up, false, pw, prole, pstate, psince⟩ : SP) (by rw [putAt_all30 _ _ (SP.rc_len _) rfl]; rfl) w.heap.size HA.out.ports.hB ?_))
        intro wb hRb hob hsb hbb
        have HA := Lib.hid (HA.out.putSet hRb hob hbb)
        clear hRb hob hsb hbb c13 HP
        go_wp2_with fail
        refine ⟨⟨i + 1, by omega, by go_num, ?_⟩, by simp [intOf]; omega⟩
        show BAt _ _ _ _ _ _ _ _
        rw [HN.out, HX.out]
        exact HA.out
      · have p24 : w4.cell? ⟨wr.heap.size, 24, none⟩ = some (.int .i64 pw.age) := HP.out.cell 24
        have hwr : IntKind.i64.wrap (pw.age + 1) = pw.age + 1 := IntWalk.i64_in _ (by omega)
        go_wp2_with ((with_reducible refine at_store 3 (.tmp 33) (.tmp 31) ?_); refine wpList_store_cell rfl 3 (.tmp 33) (.tmp 31) rfl (wr.heap.size) 24 (.int .i64 (pw.age + 1)) rfl rfl 75 _ HP.out (show 24 < 30 from by decide) (by kernel_rfl) rfl (w.heap.size) hkw ?_)
        intro w5 hRx hox hsx hbx
        have HP : Hid (RowIs w5 wr.heap.size 75 #[.int .i64 pc, .int .i64 prole, .int .i64 (pstate), .int .i64 psince, .bool up, .bool true, .int .u8 ((pw.r.f 0).toNat : Int), .int .u8 ((pw.r.f 1).toNat : Int), .int .u8 ((pw.r.f 2).toNat : Int), .int .u8 ((pw.r.f 3).toNat : Int), .int .u8 ((pw.r.f 4).toNat : Int), .int .u8 ((pw.r.f 5).toNat : Int), .int .u8 ((pw.r.f 6).toNat : Int), .int .u8 ((pw.r.f 7).toNat : Int), .int .u8 ((pw.b.f 0).toNat : Int), .int .u8 ((pw.b.f 1).toNat : Int), .int .u8 ((pw.b.f 2).toNat : Int), .int .u8 ((pw.b.f 3).toNat : Int), .int .u8 ((pw.b.f 4).toNat : Int), .int .u8 ((pw.b.f 5).toNat : Int), .int .u8 ((pw.b.f 6).toNat : Int), .int .u8 ((pw.b.f 7).toNat : Int), .int .i64 pw.c, .int .i64 pw.p, .int .i64 (pw.age + 1), .int .i64 pw.ma, .int .i64 pw.he, .int .i64 pw.de, .bool pw.ch, .bool pw.ak]) := hRx
        have HA := Lib.hid (HA.out.free hkb hkr hkg hox hbx)
        clear hRx hox hsx hbx
        clear p24 p5 hwr
        have p24 : w5.cell? ⟨wr.heap.size, 24, none⟩ = some (.int .i64 (pw.age + 1)) := HP.out.cell 24
        have c8 : w5.cell? ⟨w.heap.size, 8, none⟩ = some (.int .i64 s1.ma) := by rw [← HMA.out]; exact HA.out.box.cell 8
        by_cases hge : s1.ma ≤ pw.age + 1
        · have HX : Hid (SP.aged s1.ma ⟨pc, up, true, pw, prole, pstate, psince⟩ = ⟨pc, up, false, .zero, prole, pstate, psince⟩) := by show _ = _; rw [HAG.out]; simp [hge]
          go_wp2_with ((with_reducible refine at_store 4 (.tmp 40) (.const (.bool false)) ?_); refine wpList_store_cell rfl 4 (.tmp 40) (.const (.bool false)) rfl (wr.heap.size) 5 (.bool false) rfl rfl 75 _ HP.out (show 5 < 30 from by decide) (by kernel_rfl) rfl (w.heap.size) hkw ?_)
          intro w6 hRx hox hsx hbx
          have HP : Hid (RowIs w6 wr.heap.size 75 #[.int .i64 pc, .int .i64 prole, .int .i64 (pstate), .int .i64 psince, .bool up, .bool false, .int .u8 ((pw.r.f 0).toNat : Int), .int .u8 ((pw.r.f 1).toNat : Int), .int .u8 ((pw.r.f 2).toNat : Int), .int .u8 ((pw.r.f 3).toNat : Int), .int .u8 ((pw.r.f 4).toNat : Int), .int .u8 ((pw.r.f 5).toNat : Int), .int .u8 ((pw.r.f 6).toNat : Int), .int .u8 ((pw.r.f 7).toNat : Int), .int .u8 ((pw.b.f 0).toNat : Int), .int .u8 ((pw.b.f 1).toNat : Int), .int .u8 ((pw.b.f 2).toNat : Int), .int .u8 ((pw.b.f 3).toNat : Int), .int .u8 ((pw.b.f 4).toNat : Int), .int .u8 ((pw.b.f 5).toNat : Int), .int .u8 ((pw.b.f 6).toNat : Int), .int .u8 ((pw.b.f 7).toNat : Int), .int .i64 pw.c, .int .i64 pw.p, .int .i64 (pw.age + 1), .int .i64 pw.ma, .int .i64 pw.he, .int .i64 pw.de, .bool pw.ch, .bool pw.ak]) := hRx
          have HA := Lib.hid (HA.out.free hkb hkr hkg hox hbx)
          clear hRx hox hsx hbx
          clear p24 c8
          go_wp2_with ((with_reducible refine at_store 63 (.tmp 42) (.tmp 41) ?_); refine wpList_store_part rfl 63 (.tmp 42) (.tmp 41) rfl (wr.heap.size) 6 _ rfl rfl 75 _ HP.out (show 6 + 24 ≤ 30 by decide) (by kernel_rfl) (by simp [Value.oneCell']) (#[.int .i64 pc, .int .i64 prole, .int .i64 (pstate), .int .i64 psince, .bool up, .bool false, .int .u8 0, .int .u8 0, .int .u8 0, .int .u8 0, .int .u8 0, .int .u8 0, .int .u8 0, .int .u8 0, .int .u8 0, .int .u8 0, .int .u8 0, .int .u8 0, .int .u8 0, .int .u8 0, .int .u8 0, .int .u8 0, .int .i64 0, .int .i64 0, .int .i64 0, .int .i64 0, .int .i64 0, .int .i64 0, .bool false, .bool false]) (by kernel_rfl) (w.heap.size) hkw ?_)
          intro w7 hRx hox hsx hbx
          have HP : Hid (RowIs w7 wr.heap.size 75 #[.int .i64 pc, .int .i64 prole, .int .i64 (pstate), .int .i64 psince, .bool up, .bool false, .int .u8 0, .int .u8 0, .int .u8 0, .int .u8 0, .int .u8 0, .int .u8 0, .int .u8 0, .int .u8 0, .int .u8 0, .int .u8 0, .int .u8 0, .int .u8 0, .int .u8 0, .int .u8 0, .int .u8 0, .int .u8 0, .int .i64 0, .int .i64 0, .int .i64 0, .int .i64 0, .int .i64 0, .int .i64 0, .bool false, .bool false]) := hRx
          have HA := Lib.hid (HA.out.free hkb hkr hkg hox hbx)
          clear hRx hox hsx hbx
          have c13 : World.cell? _ ⟨w.heap.size, 13, none⟩ = some (.slice (some ⟨g1, 0, none⟩) s.ports.length cap1) := HA.out.box.cell 13
          go_wp2_with (first
            | ((with_reducible refine at_load 75 (.tmp 5) ?_); refine wpList_load_midW rfl 75 (.tmp 5) rfl (wr.heap.size) (0) rfl [.int .i64 pc, .int .i64 prole, .int .i64 (pstate), .int .i64 psince, .bool up, .bool false, .int .u8 0, .int .u8 0, .int .u8 0, .int .u8 0, .int .u8 0, .int .u8 0, .int .u8 0, .int .u8 0, .int .u8 0, .int .u8 0, .int .u8 0, .int .u8 0, .int .u8 0, .int .u8 0, .int .u8 0, .int .u8 0, .int .i64 0, .int .i64 0, .int .i64 0, .int .i64 0, .int .i64 0, .int .i64 0, .bool false, .bool false] _ (range_of_row HP.out rfl) Try.underlying75 rfl (by kernel_rfl) ?_)
            | ((with_reducible refine at_store 75 (.tmp 47) (.tmp 46) ?_); refine wpList_store_rp rfl 75 (.tmp 47) (.tmp 46) rfl g1 (i * 30) i 0 #[.int .i64 pc, .int .i64 prole, .int .i64 (pstate), .int .i64 psince, .bool up, .bool false, .int .u8 0, .int .u8 0, .int .u8 0, .int .u8 0, .int .u8 0, .int .u8 0, .int .u8 0, .int .u8 0, .int .u8 0, .int .u8 0, .int .u8 0, .int .u8 0, .int .u8 0, .int .u8 0, .int .u8 0, .int .u8 0, .int .i64 0, .int .i64 0, .int .i64 0, .int .i64 0, .int .i64 0, .int .i64 0, .bool false, .bool false] rfl rfl HA.out.ports hlti rfl (show 0 + 30 ≤ 30 from by decide) (by kernel_rfl) (by simp [Value.oneCell']) (⟨pc, up, false, .zero, prole, pstate, psince⟩ : SP) (by rw [putAt_all30 _ _ (SP.rc_len _) rfl]; rfl) w.heap.size HA.out.ports.hB ?_))
          intro wb hRb hob hsb hbb
          have HA := Lib.hid (HA.out.putSet hRb hob hbb)
          clear hRb hob hsb hbb c13 HP
          go_wp2_with fail
          refine ⟨⟨i + 1, by omega, by go_num, ?_⟩, by simp [intOf]; omega⟩
          show BAt _ _ _ _ _ _ _ _
          rw [HN.out, HX.out]
          exact HA.out
        · have HX : Hid (SP.aged s1.ma ⟨pc, up, true, pw, prole, pstate, psince⟩ = ⟨pc, up, true, { pw with age := pw.age + 1 }, prole, pstate, psince⟩) := by show _ = _; rw [HAG.out]; simp [hge]
          have c13 : World.cell? _ ⟨w.heap.size, 13, none⟩ = some (.slice (some ⟨g1, 0, none⟩) s.ports.length cap1) := HA.out.box.cell 13
          go_wp2_with (first
            | ((with_reducible refine at_load 75 (.tmp 5) ?_); refine wpList_load_midW rfl 75 (.tmp 5) rfl (wr.heap.size) (0) rfl [.int .i64 pc, .int .i64 prole, .int .i64 (pstate), .int .i64 psince, .bool up, .bool true, .int .u8 ((pw.r.f 0).toNat : Int), .int .u8 ((pw.r.f 1).toNat : Int), .int .u8 ((pw.r.f 2).toNat : Int), .int .u8 ((pw.r.f 3).toNat : Int), .int .u8 ((pw.r.f 4).toNat : Int), .int .u8 ((pw.r.f 5).toNat : Int), .int .u8 ((pw.r.f 6).toNat : Int), .int .u8 ((pw.r.f 7).toNat : Int), .int .u8 ((pw.b.f 0).toNat : Int), .int .u8 ((pw.b.f 1).toNat : Int), .int .u8 ((pw.b.f 2).toNat : Int), .int .u8 ((pw.b.f 3).toNat : Int), .int .u8 ((pw.b.f 4).toNat : Int), .int .u8 ((pw.b.f 5).toNat : Int), .int .u8 ((pw.b.f 6).toNat : Int), .int .u8 ((pw.b.f 7).toNat : Int), .int .i64 pw.c, .int .i64 pw.p, .int .i64 (pw.age + 1), .int .i64 pw.ma, .int .i64 pw.he, .int .i64 pw.de, .bool pw.ch, .bool pw.ak] _ (range_of_row HP.out rfl) Try.underlying75 rfl (by kernel_rfl) ?_)
            | ((with_reducible refine at_store 75 (.tmp 47) (.tmp 46) ?_); refine wpList_store_rp rfl 75 (.tmp 47) (.tmp 46) rfl g1 (i * 30) i 0 #[.int .i64 pc, .int .i64 prole, .int .i64 (pstate), .int .i64 psince, .bool up, .bool true, .int .u8 ((pw.r.f 0).toNat : Int), .int .u8 ((pw.r.f 1).toNat : Int), .int .u8 ((pw.r.f 2).toNat : Int), .int .u8 ((pw.r.f 3).toNat : Int), .int .u8 ((pw.r.f 4).toNat : Int), .int .u8 ((pw.r.f 5).toNat : Int), .int .u8 ((pw.r.f 6).toNat : Int), .int .u8 ((pw.r.f 7).toNat : Int), .int .u8 ((pw.b.f 0).toNat : Int), .int .u8 ((pw.b.f 1).toNat : Int), .int .u8 ((pw.b.f 2).toNat : Int), .int .u8 ((pw.b.f 3).toNat : Int), .int .u8 ((pw.b.f 4).toNat : Int), .int .u8 ((pw.b.f 5).toNat : Int), .int .u8 ((pw.b.f 6).toNat : Int), .int .u8 ((pw.b.f 7).toNat : Int), .int .i64 pw.c, .int .i64 pw.p, .int .i64 (pw.age + 1), .int .i64 pw.ma, .int .i64 pw.he, .int .i64 pw.de, .bool pw.ch, .bool pw.ak] rfl rfl HA.out.ports hlti rfl (show 0 + 30 ≤ 30 from by decide) (by kernel_rfl) (by simp [Value.oneCell']) (⟨pc, up, true, { pw with age := pw.age + 1 }, prole, pstate, psince⟩ : SP) (by rw [putAt_all30 _ _ (SP.rc_len _) rfl]; rfl) w.heap.size HA.out.ports.hB ?_))
          intro wb hRb hob hsb hbb
          have HA := Lib.hid (HA.out.putSet hRb hob hbb)
          clear hRb hob hsb hbb c13 HP
          go_wp2_with fail
          refine ⟨⟨i + 1, by omega, by go_num, ?_⟩, by simp [intOf]; omega⟩
          show BAt _ _ _ _ _ _ _ _
          rw [HN.out, HX.out]
          exact HA.out
    · obtain rfl : i = s.ports.length := by omega
      have HE : Hid (s1.aged = s1.mapTo (SP.aged s1.ma) s.ports.length) := by
        show _ = _
        rw [← hl1]
        exact (s1.mapTo_all _).symm
      have HA : Hid (BAt g1 cap1 s.ports.length w.heap.size (w.heap.size + 1) w wr s1.aged) := by show BAt _ _ _ _ _ _ _ _; rw [HE.out]; exact HA.out
      have HOK2 := Lib.hid HOK1.out.aged
      have HF2 : Hid s1.aged.Fit := SS.Fit.aged HF1.out
      clear HE HOK1 HF1 hl1
      generalize s1.aged = s2 at *
      have hfl := HA.out.len
      have HC := Lib.hid (refFound_n w.heap.size g1 cap1 s2 wr HA.out.len HA.out.ports hl HF2.out (by have := HOK2.out.chg; omega))
      go_wp2_with ((with_reducible refine at_load 59 (.tmp 1) ?_); refine wpList_load_midW rfl 59 (.tmp 1) rfl (w.heap.size) (0) rfl [.int .u8 ((s2.id.f 0).toNat : Int), .int .u8 ((s2.id.f 1).toNat : Int), .int .u8 ((s2.id.f 2).toNat : Int), .int .u8 ((s2.id.f 3).toNat : Int), .int .u8 ((s2.id.f 4).toNat : Int), .int .u8 ((s2.id.f 5).toNat : Int), .int .u8 ((s2.id.f 6).toNat : Int), .int .u8 ((s2.id.f 7).toNat : Int), .int .i64 s2.ma, .int .i64 s2.he, .int .i64 s2.de, .int .i64 s2.now, .int .i64 s2.chg, (.slice (some ⟨g1, 0, none⟩) s.ports.length cap1), .int .u8 ((s2.best.r.f 0).toNat : Int), .int .u8 ((s2.best.r.f 1).toNat : Int), .int .u8 ((s2.best.r.f 2).toNat : Int), .int .u8 ((s2.best.r.f 3).toNat : Int), .int .u8 ((s2.best.r.f 4).toNat : Int), .int .u8 ((s2.best.r.f 5).toNat : Int), .int .u8 ((s2.best.r.f 6).toNat : Int), .int .u8 ((s2.best.r.f 7).toNat : Int), .int .i64 s2.best.c, .int .u8 ((s2.best.b.f 0).toNat : Int), .int .u8 ((s2.best.b.f 1).toNat : Int), .int .u8 ((s2.best.b.f 2).toNat : Int), .int .u8 ((s2.best.b.f 3).toNat : Int), .int .u8 ((s2.best.b.f 4).toNat : Int), .int .u8 ((s2.best.b.f 5).toNat : Int), .int .u8 ((s2.best.b.f 6).toNat : Int), .int .u8 ((s2.best.b.f 7).toNat : Int), .int .i64 s2.best.p, .int .i64 s2.root] _ (range_of_row HA.out.box rfl) Try.underlying59 rfl (by kernel_rfl) ?_)
      refine HC.out.mono ?_
      rintro e w4 ⟨rfl, hR4, hb4, ho4⟩
      have HA := Lib.hid (HA.out.portsSet hR4 (by rw [SS.found_len]; exact HA.out.len) ho4 hb4)
      clear HC hR4 ho4 hb4 c13
      go_wp2_with ((with_reducible refine at_store 59 (.tmp 1) (.tmp 51) ?_); refine wpList_store_own rfl 59 (.tmp 1) (.tmp 51) rfl (w.heap.size) _ rfl rfl _ _ HA.out.box (by kernel_rfl) rfl (by simp [Value.oneCell']) (w.heap.size) (Nat.le_refl _) ?_)
      intro w5 hR5 ho5 hs5 hb5
      have HA : Hid (BAt g1 cap1 s.ports.length w.heap.size (w.heap.size + 1) w w5 s2.found.1) := HA.out.boxSet (s' := s2.found.1) rfl hR5 ho5 hb5
      have HOK3 := Lib.hid HOK2.out.found
      clear hR5 ho5 hs5 hb5 HOK2 HF2 hfl
      generalize s2.found = f3 at *
      obtain ⟨s3, ch3⟩ := f3
      have HA : Hid (BAt g1 cap1 s.ports.length w.heap.size (w.heap.size + 1) w w5 s3) := HA
      have HA3 : Hid (BAt g1 cap1 s.ports.length w.heap.size (w.heap.size + 1) w w5 (matF s3 0)) := HA
      have HT2 : Hid (s.ticked = matF s3 s3.ports.length) := HT2
      have HOK3 : Hid (s3.Ok (n0 + 1 + 100)) := HOK3
      have hl3 : s3.ports.length = s.ports.length := HA.out.len
      have c13 : w5.cell? ⟨w.heap.size, 13, none⟩ = some (.slice (some ⟨g1, 0, none⟩) s.ports.length cap1) := HA.out.box.cell 13
      clear HA
      go_upto_region 15 with fail
      clear c13
      go_loopw [6] (fun v6 wr => ∃ i : Nat, i ≤ s.ports.length ∧ v6 = .int .i64 i ∧ Hid (BAt g1 cap1 s.ports.length w.heap.size (w.heap.size + 1) w wr (matF s3 i))) (fun v6 _ => s.ports.length - (intOf v6).toNat)
      case atStart => exact ⟨0, Nat.zero_le _, rfl, HA3⟩
      case round =>
        clear HA3
        rename World => wr
        obtain ⟨i, hi, rfl, HA⟩ := hrel
        have c13 : wr.cell? ⟨w.heap.size, 13, none⟩ = some (.slice (some ⟨g1, 0, none⟩) s.ports.length cap1) := HA.out.box.cell 13
        by_cases hlt : i < s.ports.length
        · have HPE : Hid ((matF s3 i).port i = s3.port i) := by show _ = _; rw [matF_port _ _ (by omega), if_neg (by omega)]
          have HN : Hid (matF s3 (i + 1) = (matF s3 i).mature i) := rfl
          have hnow : (matF s3 i).now = s3.now := (matF_like s3 i).now
          have hchg := matF_chg s3 i
          generalize matF s3 i = si at *
          have hsc : 0 ≤ (si.port i).since ∧ (si.port i).since ≤ si.now := by rw [HPE.out, hnow]; exact HOK3.out.since i
          have hnw : 0 ≤ si.now ∧ si.now ≤ 900000101 := by have := HOK3.out.now; omega
          have hch : 0 ≤ si.chg ∧ si.chg ≤ 900001201 := by have := HOK3.out.chg; omega
          clear hnow hchg HPE
          have hlti : i < si.ports.length := by have := HA.out.len; omega
          have HRG : Hid (wr.rangeAt g1 (i * 30) (si.port i).rc) := by
            show World.rangeAt _ _ _ _
            rw [← SS.port_get si hlti]
            exact HA.out.ports.range hlti
          have HMR0 := Lib.hid (si.mature_ref i hlti)
          have HME0 := Lib.hid (fun c => si.mature_eq i c)
          have HSM : Hid (si.put i (si.port i) = si) := si.put_same i hlti
          generalize si.port i = p at *
          obtain ⟨pc, up, heard, pw, prole, pstate, psince⟩ := p
          have HMR : Hid (((pstate == 1 || pstate == 2) && decide (si.now - psince ≥ si.de)) = true → (pstate + 1 = 3 ∧ si.mature i = (⟨si.id, si.ma, si.he, si.de, si.ports, si.best, si.root, si.now, si.chg + 1⟩ : SS).put i ⟨pc, up, heard, pw, prole, pstate + 1, si.now⟩) ∨ (pstate + 1 ≠ 3 ∧ si.mature i = si.put i ⟨pc, up, heard, pw, prole, pstate + 1, si.now⟩)) := HMR0
          have HME : Hid (((pstate == 1 || pstate == 2) && decide (si.now - psince ≥ si.de)) = false → si.mature i = si) := fun h => (HME0.out false h).trans (if_neg (by decide))
          clear HMR0 HME0
          simp only at hsc
          have hkb : wr.heap.size ≠ w.heap.size := Nat.ne_of_gt HA.out.box.lt
          have hkr : wr.heap.size ≠ w.heap.size + 1 := Nat.ne_of_gt HA.out.ret.lt
          have hkg : wr.heap.size ≠ g1 := Nat.ne_of_gt HA.out.ports.lt
          have hkw : w.heap.size ≤ wr.heap.size := HA.out.below.size
          go_wp2_with (first
            | ((with_reducible refine at_load 75 (.tmp 63) ?_); refine wpList_load_midW rfl 75 (.tmp 63) rfl (g1) ((i * 30)) rfl [.int .i64 pc, .int .i64 prole, .int .i64 (pstate), .int .i64 psince, .bool up, .bool heard, .int .u8 ((pw.r.f 0).toNat : Int), .int .u8 ((pw.r.f 1).toNat : Int), .int .u8 ((pw.r.f 2).toNat : Int), .int .u8 ((pw.r.f 3).toNat : Int), .int .u8 ((pw.r.f 4).toNat : Int), .int .u8 ((pw.r.f 5).toNat : Int), .int .u8 ((pw.r.f 6).toNat : Int), .int .u8 ((pw.r.f 7).toNat : Int), .int .u8 ((pw.b.f 0).toNat : Int), .int .u8 ((pw.b.f 1).toNat : Int), .int .u8 ((pw.b.f 2).toNat : Int), .int .u8 ((pw.b.f 3).toNat : Int), .int .u8 ((pw.b.f 4).toNat : Int), .int .u8 ((pw.b.f 5).toNat : Int), .int .u8 ((pw.b.f 6).toNat : Int), .int .u8 ((pw.b.f 7).toNat : Int), .int .i64 pw.c, .int .i64 pw.p, .int .i64 pw.age, .int .i64 pw.ma, .int .i64 pw.he, .int .i64 pw.de, .bool pw.ch, .bool pw.ak] _ HRG.out Try.underlying75 rfl (by kernel_rfl) ?_)
            | ((with_reducible refine at_store 75 (.tmp 7) (.tmp 64) ?_); refine wpList_store_own rfl 75 (.tmp 7) (.tmp 64) rfl (wr.heap.size) _ rfl rfl _ _ (rowIs_new wr _ _) (by kernel_rfl) rfl (by simp [Value.oneCell']) (wr.heap.size) (Nat.le_refl _) ?_))
          intro w4 hR4 ho4 hs4 hb4
          have hbw : Below wr.heap.size wr w4 := ((Below.refl _ _).alloc (Nat.le_refl _) _).trans hb4
          have HP : Hid (RowIs w4 wr.heap.size 75 #[.int .i64 pc, .int .i64 prole, .int .i64 (pstate), .int .i64 psince, .bool up, .bool heard, .int .u8 ((pw.r.f 0).toNat : Int), .int .u8 ((pw.r.f 1).toNat : Int), .int .u8 ((pw.r.f 2).toNat : Int), .int .u8 ((pw.r.f 3).toNat : Int), .int .u8 ((pw.r.f 4).toNat : Int), .int .u8 ((pw.r.f 5).toNat : Int), .int .u8 ((pw.r.f 6).toNat : Int), .int .u8 ((pw.r.f 7).toNat : Int), .int .u8 ((pw.b.f 0).toNat : Int), .int .u8 ((pw.b.f 1).toNat : Int), .int .u8 ((pw.b.f 2).toNat : Int), .int .u8 ((pw.b.f 3).toNat : Int), .int .u8 ((pw.b.f 4).toNat : Int), .int .u8 ((pw.b.f 5).toNat : Int), .int .u8 ((pw.b.f 6).toNat : Int), .int .u8 ((pw.b.f 7).toNat : Int), .int .i64 pw.c, .int .i64 pw.p, .int .i64 pw.age, .int .i64 pw.ma, .int .i64 pw.he, .int .i64 pw.de, .bool pw.ch, .bool pw.ak]) := hR4
          have HA := Lib.hid (HA.out.later hbw)
          clear hR4 ho4 hs4 hb4 c13 HRG hbw
          have p2 : w4.cell? ⟨wr.heap.size, 2, none⟩ = some (.int .i64 pstate) := HP.out.cell 2
          have p3 : w4.cell? ⟨wr.heap.size, 3, none⟩ = some (.int .i64 psince) := HP.out.cell 3
          have c11 : w4.cell? ⟨w.heap.size, 11, none⟩ = some (.int .i64 si.now) := HA.out.box.cell 11
          have c10 : w4.cell? ⟨w.heap.size, 10, none⟩ = some (.int .i64 si.de) := HA.out.box.cell 10
          have ws : IntKind.i64.wrap (si.now - psince) = si.now - psince := IntWalk.i64_in _ (by omega)
          go_upto_region 18 with fail
          go_cut [82] (fun v wx => v = .bool ((pstate == 1 || pstate == 2) && decide (si.now - psince ≥ si.de)) ∧ w4 = wx)
          case first =>
            clear HMR HME HSM
            cases h1 : (pstate == 1)
            · have H1 := Lib.hid h1
              cases h2 : (pstate == 2)
              · have H2 := Lib.hid h2
                go_wp2_with fail
                go_meet
                exact ⟨by rw [H1.out, H2.out]; rfl, rfl⟩
              · have H2 := Lib.hid h2
                go_wp2_with fail
                go_meet
                exact ⟨by rw [H1.out, H2.out]; rfl, rfl⟩
            · have H1 := Lib.hid h1
              go_wp2_with fail
              go_meet
              exact ⟨by rw [H1.out]; rfl, rfl⟩
          case rest =>
            obtain ⟨rfl, rfl⟩ := hcut
            clear p3 c11 c10 ws
            generalize hcc : ((pstate == 1 || pstate == 2) && decide (si.now - psince ≥ si.de)) = cc
            cases cc
            · have HX : Hid (si.mature i = si.put i ⟨pc, up, heard, pw, prole, pstate, psince⟩) := by show _ = _; rw [HME.out hcc]; exact HSM.out.symm
              clear hcc HMR HME HSM p2
              have c13 : World.cell? _ ⟨w.heap.size, 13, none⟩ = some (.slice (some ⟨g1, 0, none⟩) s.ports.length cap1) := HA.out.box.cell 13
              go_wp2_with (first
                | ((with_reducible refine at_load 75 (.tmp 7) ?_); refine wpList_load_midW rfl 75 (.tmp 7) rfl (wr.heap.size) (0) rfl [.int .i64 pc, .int .i64 prole, .int .i64 (pstate), .int .i64 psince, .bool up, .bool heard, .int .u8 ((pw.r.f 0).toNat : Int), .int .u8 ((pw.r.f 1).toNat : Int), .int .u8 ((pw.r.f 2).toNat : Int), .int .u8 ((pw.r.f 3).toNat : Int), .int .u8 ((pw.r.f 4).toNat : Int), .int .u8 ((pw.r.f 5).toNat : Int), .int .u8 ((pw.r.f 6).toNat : Int), .int .u8 ((pw.r.f 7).toNat : Int), .int .u8 ((pw.b.f 0).toNat : Int), .int .u8 ((pw.b.f 1).toNat : Int), .int .u8 ((pw.b.f 2).toNat : Int), .int .u8 ((pw.b.f 3).toNat : Int), .int .u8 ((pw.b.f 4).toNat : Int), .int .u8 ((pw.b.f 5).toNat : Int), .int .u8 ((pw.b.f 6).toNat : Int), .int .u8 ((pw.b.f 7).toNat : Int), .int .i64 pw.c, .int .i64 pw.p, .int .i64 pw.age, .int .i64 pw.ma, .int .i64 pw.he, .int .i64 pw.de, .bool pw.ch, .bool pw.ak] _ (range_of_row HP.out rfl) Try.underlying75 rfl (by kernel_rfl) ?_)
                | ((with_reducible refine at_store 75 (.tmp 101) (.tmp 100) ?_); refine wpList_store_rp rfl 75 (.tmp 101) (.tmp 100) rfl g1 (i * 30) i 0 #[.int .i64 pc, .int .i64 prole, .int .i64 (pstate), .int .i64 psince, .bool up, .bool heard, .int .u8 ((pw.r.f 0).toNat : Int), .int .u8 ((pw.r.f 1).toNat : Int), .int .u8 ((pw.r.f 2).toNat : Int), .int .u8 ((pw.r.f 3).toNat : Int), .int .u8 ((pw.r.f 4).toNat : Int), .int .u8 ((pw.r.f 5).toNat : Int), .int .u8 ((pw.r.f 6).toNat : Int), .int .u8 ((pw.r.f 7).toNat : Int), .int .u8 ((pw.b.f 0).toNat : Int), .int .u8 ((pw.b.f 1).toNat : Int), .int .u8 ((pw.b.f 2).toNat : Int), .int .u8 ((pw.b.f 3).toNat : Int), .int .u8 ((pw.b.f 4).toNat : Int), .int .u8 ((pw.b.f 5).toNat : Int), .int .u8 ((pw.b.f 6).toNat : Int), .int .u8 ((pw.b.f 7).toNat : Int), .int .i64 pw.c, .int .i64 pw.p, .int .i64 pw.age, .int .i64 pw.ma, .int .i64 pw.he, .int .i64 pw.de, .bool pw.ch, .bool pw.ak] rfl rfl HA.out.ports hlti rfl (show 0 + 30 ≤ 30 from by decide) (by kernel_rfl) (by simp [Value.oneCell']) (⟨pc, up, heard, pw, prole, pstate, psince⟩ : SP) (by rw [putAt_all30 _ _ (SP.rc_len _) rfl]; rfl) w.heap.size HA.out.ports.hB ?_))
              intro wb hRb hob hsb hbb
              have HA := Lib.hid (HA.out.putSet hRb hob hbb)
              clear hRb hob hsb hbb c13 HP
              go_wp2_with fail
              refine ⟨⟨i + 1, by omega, by go_num, ?_⟩, by simp [intOf]; omega⟩
              show BAt _ _ _ _ _ _ _ _
              rw [HN.out, HX.out]
              exact HA.out
            · have hs12 : 1 ≤ pstate ∧ pstate ≤ 2 := by
                simp only [Bool.and_eq_true, Bool.or_eq_true, beq_iff_eq] at hcc
                omega
              have hwr : IntKind.i64.wrap (pstate + 1) = pstate + 1 := IntWalk.i64_in _ (by omega)
              have hHO := HMR.out hcc
              clear hcc HMR HME HSM
              rcases hHO with ⟨h3, hX⟩ | ⟨h3, hX⟩
              · have HX := Lib.hid hX
                have h3' : (pstate + 1 == 3) = true := by simpa using h3
                clear hX h3
                go_wp2_with ((with_reducible refine at_store 3 (.tmp 86) (.tmp 85) ?_); refine wpList_store_cell rfl 3 (.tmp 86) (.tmp 85) rfl (wr.heap.size) 2 (.int .i64 (pstate + 1)) rfl rfl 75 _ HP.out (show 2 < 30 from by decide) (by kernel_rfl) rfl (w.heap.size) hkw ?_)
                intro w5 hRx hox hsx hbx
                have HP : Hid (RowIs w5 wr.heap.size 75 #[.int .i64 pc, .int .i64 prole, .int .i64 (pstate + 1), .int .i64 psince, .bool up, .bool heard, .int .u8 ((pw.r.f 0).toNat : Int), .int .u8 ((pw.r.f 1).toNat : Int), .int .u8 ((pw.r.f 2).toNat : Int), .int .u8 ((pw.r.f 3).toNat : Int), .int .u8 ((pw.r.f 4).toNat : Int), .int .u8 ((pw.r.f 5).toNat : Int), .int .u8 ((pw.r.f 6).toNat : Int), .int .u8 ((pw.r.f 7).toNat : Int), .int .u8 ((pw.b.f 0).toNat : Int), .int .u8 ((pw.b.f 1).toNat : Int), .int .u8 ((pw.b.f 2).toNat : Int), .int .u8 ((pw.b.f 3).toNat : Int), .int .u8 ((pw.b.f 4).toNat : Int), .int .u8 ((pw.b.f 5).toNat : Int), .int .u8 ((pw.b.f 6).toNat : Int), .int .u8 ((pw.b.f 7).toNat : Int), .int .i64 pw.c, .int .i64 pw.p, .int .i64 pw.age, .int .i64 pw.ma, .int .i64 pw.he, .int .i64 pw.de, .bool pw.ch, .bool pw.ak]) := hRx
                have HA := Lib.hid (HA.out.free hkb hkr hkg hox hbx)
                clear hRx hox hsx hbx
                clear p2
                have c11 : w5.cell? ⟨w.heap.size, 11, none⟩ = some (.int .i64 si.now) := HA.out.box.cell 11
                go_wp2_with ((with_reducible refine at_store 3 (.tmp 89) (.tmp 88) ?_); refine wpList_store_cell rfl 3 (.tmp 89) (.tmp 88) rfl (wr.heap.size) 3 (.int .i64 si.now) rfl rfl 75 _ HP.out (show 3 < 30 from by decide) (by kernel_rfl) rfl (w.heap.size) hkw ?_)
                intro w6 hRx hox hsx hbx
                have HP : Hid (RowIs w6 wr.heap.size 75 #[.int .i64 pc, .int .i64 prole, .int .i64 (pstate + 1), .int .i64 si.now, .bool up, .bool heard, .int .u8 ((pw.r.f 0).toNat : Int), .int .u8 ((pw.r.f 1).toNat : Int), .int .u8 ((pw.r.f 2).toNat : Int), .int .u8 ((pw.r.f 3).toNat : Int), .int .u8 ((pw.r.f 4).toNat : Int), .int .u8 ((pw.r.f 5).toNat : Int), .int .u8 ((pw.r.f 6).toNat : Int), .int .u8 ((pw.r.f 7).toNat : Int), .int .u8 ((pw.b.f 0).toNat : Int), .int .u8 ((pw.b.f 1).toNat : Int), .int .u8 ((pw.b.f 2).toNat : Int), .int .u8 ((pw.b.f 3).toNat : Int), .int .u8 ((pw.b.f 4).toNat : Int), .int .u8 ((pw.b.f 5).toNat : Int), .int .u8 ((pw.b.f 6).toNat : Int), .int .u8 ((pw.b.f 7).toNat : Int), .int .i64 pw.c, .int .i64 pw.p, .int .i64 pw.age, .int .i64 pw.ma, .int .i64 pw.he, .int .i64 pw.de, .bool pw.ch, .bool pw.ak]) := hRx
                have HA := Lib.hid (HA.out.free hkb hkr hkg hox hbx)
                clear hRx hox hsx hbx
                clear c11
                have p2 : w6.cell? ⟨wr.heap.size, 2, none⟩ = some (.int .i64 (pstate + 1)) := HP.out.cell 2
                have c12 : w6.cell? ⟨w.heap.size, 12, none⟩ = some (.int .i64 si.chg) := HA.out.box.cell 12
                have hwr2 : IntKind.i64.wrap (si.chg + 1) = si.chg + 1 := IntWalk.i64_in _ (by omega)
                go_wp2_with ((with_reducible refine at_store 3 (.tmp 96) (.tmp 95) ?_); refine wpList_store_cell rfl 3 (.tmp 96) (.tmp 95) rfl (w.heap.size) 12 (.int .i64 (si.chg + 1)) rfl rfl 59 _ HA.out.box (show 12 < 33 from by decide) (by kernel_rfl) rfl (w.heap.size) (Nat.le_refl _) ?_)
                intro w7 hR7 ho7 hs7 hb7
                have HP : Hid (RowIs w7 wr.heap.size 75 #[.int .i64 pc, .int .i64 prole, .int .i64 (pstate + 1), .int .i64 si.now, .bool up, .bool heard, .int .u8 ((pw.r.f 0).toNat : Int), .int .u8 ((pw.r.f 1).toNat : Int), .int .u8 ((pw.r.f 2).toNat : Int), .int .u8 ((pw.r.f 3).toNat : Int), .int .u8 ((pw.r.f 4).toNat : Int), .int .u8 ((pw.r.f 5).toNat : Int), .int .u8 ((pw.r.f 6).toNat : Int), .int .u8 ((pw.r.f 7).toNat : Int), .int .u8 ((pw.b.f 0).toNat : Int), .int .u8 ((pw.b.f 1).toNat : Int), .int .u8 ((pw.b.f 2).toNat : Int), .int .u8 ((pw.b.f 3).toNat : Int), .int .u8 ((pw.b.f 4).toNat : Int), .int .u8 ((pw.b.f 5).toNat : Int), .int .u8 ((pw.b.f 6).toNat : Int), .int .u8 ((pw.b.f 7).toNat : Int), .int .i64 pw.c, .int .i64 pw.p, .int .i64 pw.age, .int .i64 pw.ma, .int .i64 pw.he, .int .i64 pw.de, .bool pw.ch, .bool pw.ak]) := rowIs_same HP.out (ho7 _ hkb)
                have HA := Lib.hid (HA.out.boxSet (s' := (⟨si.id, si.ma, si.he, si.de, si.ports, si.best, si.root, si.now, si.chg + 1⟩ : SS)) rfl hR7 ho7 hb7)
                clear hR7 ho7 hs7 hb7 c12 hwr2 p2
                have c13 : World.cell? _ ⟨w.heap.size, 13, none⟩ = some (.slice (some ⟨g1, 0, none⟩) s.ports.length cap1) := HA.out.box.cell 13
                go_wp2_with (first
                  | ((with_reducible refine at_load 75 (.tmp 7) ?_); refine wpList_load_midW rfl 75 (.tmp 7) rfl (wr.heap.size) (0) rfl [.int .i64 pc, .int .i64 prole, .int .i64 (pstate + 1), .int .i64 si.now, .bool up, .bool heard, .int .u8 ((pw.r.f 0).toNat : Int), .int .u8 ((pw.r.f 1).toNat : Int), .int .u8 ((pw.r.f 2).toNat : Int), .int .u8 ((pw.r.f 3).toNat : Int), .int .u8 ((pw.r.f 4).toNat : Int), .int .u8 ((pw.r.f 5).toNat : Int), .int .u8 ((pw.r.f 6).toNat : Int), .int .u8 ((pw.r.f 7).toNat : Int), .int .u8 ((pw.b.f 0).toNat : Int), .int .u8 ((pw.b.f 1).toNat : Int), .int .u8 ((pw.b.f 2).toNat : Int), .int .u8 ((pw.b.f 3).toNat : Int), .int .u8 ((pw.b.f 4).toNat : Int), .int .u8 ((pw.b.f 5).toNat : Int), .int .u8 ((pw.b.f 6).toNat : Int), .int .u8 ((pw.b.f 7).toNat : Int), .int .i64 pw.c, .int .i64 pw.p, .int .i64 pw.age, .int .i64 pw.ma, .int .i64 pw.he, .int .i64 pw.de, .bool pw.ch, .bool pw.ak] _ (range_of_row HP.out rfl) Try.underlying75 rfl (by kernel_rfl) ?_)
                  | ((with_reducible refine at_store 75 (.tmp 101) (.tmp 100) ?_); refine wpList_store_rp rfl 75 (.tmp 101) (.tmp 100) rfl g1 (i * 30) i 0 #[.int .i64 pc, .int .i64 prole, .int .i64 (pstate + 1), .int .i64 si.now, .bool up, .bool heard, .int .u8 ((pw.r.f 0).toNat : Int), .int .u8 ((pw.r.f 1).toNat : Int), .int .u8 ((pw.r.f 2).toNat : Int), .int .u8 ((pw.r.f 3).toNat : Int), .int .u8 ((pw.r.f 4).toNat : Int), .int .u8 ((pw.r.f 5).toNat : Int), .int .u8 ((pw.r.f 6).toNat : Int), .int .u8 ((pw.r.f 7).toNat : Int), .int .u8 ((pw.b.f 0).toNat : Int), .int .u8 ((pw.b.f 1).toNat : Int), .int .u8 ((pw.b.f 2).toNat : Int), .int .u8 ((pw.b.f 3).toNat : Int), .int .u8 ((pw.b.f 4).toNat : Int), .int .u8 ((pw.b.f 5).toNat : Int), .int .u8 ((pw.b.f 6).toNat : Int), .int .u8 ((pw.b.f 7).toNat : Int), .int .i64 pw.c, .int .i64 pw.p, .int .i64 pw.age, .int .i64 pw.ma, .int .i64 pw.he, .int .i64 pw.de, .bool pw.ch, .bool pw.ak] rfl rfl HA.out.ports hlti rfl (show 0 + 30 ≤ 30 from by decide) (by kernel_rfl) (by simp [Value.oneCell']) (⟨pc, up, heard, pw, prole, pstate + 1, si.now⟩ : SP) (by rw [putAt_all30 _ _ (SP.rc_len _) rfl]; rfl) w.heap.size HA.out.ports.hB ?_))
                intro wb hRb hob hsb hbb
                have HA := Lib.hid (HA.out.putSet hRb hob hbb)
                clear hRb hob hsb hbb c13 HP
                go_wp2_with fail
                refine ⟨⟨i + 1, by omega, by go_num, ?_⟩, by simp [intOf]; omega⟩
                show BAt _ _ _ _ _ _ _ _
                rw [HN.out, HX.out]
                exact HA.out
              · have HX := Lib.hid hX
                have h3' : (pstate + 1 == 3) = false := by simpa using h3
                clear hX h3
                go_wp2_with ((with_reducible refine at_store 3 (.tmp 86) (.tmp 85) ?_); refine wpList_store_cell rfl 3 (.tmp 86) (.tmp 85) rfl (wr.heap.size) 2 (.int .i64 (pstate + 1)) rfl rfl 75 _ HP.out (show 2 < 30 from by decide) (by kernel_rfl) rfl (w.heap.size) hkw ?_)
                intro w5 hRx hox hsx hbx
                have HP : Hid (RowIs w5 wr.heap.size 75 #[.int .i64 pc, .int .i64 prole, .int .i64 (pstate + 1), .int .i64 psince, .bool up, .bool heard, .int .u8 ((pw.r.f 0).toNat : Int), .int .u8 ((pw.r.f 1).toNat : Int), .int .u8 ((pw.r.f 2).toNat : Int), .int .u8 ((pw.r.f 3).toNat : Int), .int .u8 ((pw.r.f 4).toNat : Int), .int .u8 ((pw.r.f 5).toNat : Int), .int .u8 ((pw.r.f 6).toNat : Int), .int .u8 ((pw.r.f 7).toNat : Int), .int .u8 ((pw.b.f 0).toNat : Int), .int .u8 ((pw.b.f 1).toNat : Int), .int .u8 ((pw.b.f 2).toNat : Int), .int .u8 ((pw.b.f 3).toNat : Int), .int .u8 ((pw.b.f 4).toNat : Int), .int .u8 ((pw.b.f 5).toNat : Int), .int .u8 ((pw.b.f 6).toNat : Int), .int .u8 ((pw.b.f 7).toNat : Int), .int .i64 pw.c, .int .i64 pw.p, .int .i64 pw.age, .int .i64 pw.ma, .int .i64 pw.he, .int .i64 pw.de, .bool pw.ch, .bool pw.ak]) := hRx
                have HA := Lib.hid (HA.out.free hkb hkr hkg hox hbx)
                clear hRx hox hsx hbx
                clear p2
                have c11 : w5.cell? ⟨w.heap.size, 11, none⟩ = some (.int .i64 si.now) := HA.out.box.cell 11
                go_wp2_with ((with_reducible refine at_store 3 (.tmp 89) (.tmp 88) ?_); refine wpList_store_cell rfl 3 (.tmp 89) (.tmp 88) rfl (wr.heap.size) 3 (.int .i64 si.now) rfl rfl 75 _ HP.out (show 3 < 30 from by decide) (by kernel_rfl) rfl (w.heap.size) hkw ?_)
                intro w6 hRx hox hsx hbx
                have HP : Hid (RowIs w6 wr.heap.size 75 #[.int .i64 pc, .int .i64 prole, .int .i64 (pstate + 1), .int .i64 si.now, .bool up, .bool heard, .int .u8 ((pw.r.f 0).toNat : Int), .int .u8 ((pw.r.f 1).toNat : Int), .int .u8 ((pw.r.f 2).toNat : Int), .int .u8 ((pw.r.f 3).toNat : Int), .int .u8 ((pw.r.f 4).toNat : Int), .int .u8 ((pw.r.f 5).toNat : Int), .int .u8 ((pw.r.f 6).toNat : Int), .int .u8 ((pw.r.f 7).toNat : Int), .int .u8 ((pw.b.f 0).toNat : Int), .int .u8 ((pw.b.f 1).toNat : Int), .int .u8 ((pw.b.f 2).toNat : Int), .int .u8 ((pw.b.f 3).toNat : Int), .int .u8 ((pw.b.f 4).toNat : Int), .int .u8 ((pw.b.f 5).toNat : Int), .int .u8 ((pw.b.f 6).toNat : Int), .int .u8 ((pw.b.f 7).toNat : Int), .int .i64 pw.c, .int .i64 pw.p, .int .i64 pw.age, .int .i64 pw.ma, .int .i64 pw.he, .int .i64 pw.de, .bool pw.ch, .bool pw.ak]) := hRx
                have HA := Lib.hid (HA.out.free hkb hkr hkg hox hbx)
                clear hRx hox hsx hbx
                clear c11
                have p2 : w6.cell? ⟨wr.heap.size, 2, none⟩ = some (.int .i64 (pstate + 1)) := HP.out.cell 2
                have c13 : World.cell? _ ⟨w.heap.size, 13, none⟩ = some (.slice (some ⟨g1, 0, none⟩) s.ports.length cap1) := HA.out.box.cell 13
                go_wp2_with (first
                  | ((with_reducible refine at_load 75 (.tmp 7) ?_); refine wpList_load_midW rfl 75 (.tmp 7) rfl (wr.heap.size) (0) rfl [.int .i64 pc, .int .i64 prole, .int .i64 (pstate + 1), .int .i64 si.now, .bool up, .bool heard, .int .u8 ((pw.r.f 0).toNat : Int), .int .u8 ((pw.r.f 1).toNat : Int), .int .u8 ((pw.r.f 2).toNat : Int), .int .u8 ((pw.r.f 3).toNat : Int), .int .u8 ((pw.r.f 4).toNat : Int), .int .u8 ((pw.r.f 5).toNat : Int), .int .u8 ((pw.r.f 6).toNat : Int), .int .u8 ((pw.r.f 7).toNat : Int), .int .u8 ((pw.b.f 0).toNat : Int), .int .u8 ((pw.b.f 1).toNat : Int), .int .u8 ((pw.b.f 2).toNat : Int), .int .u8 ((pw.b.f 3).toNat : Int), .int .u8 ((pw.b.f 4).toNat : Int), .int .u8 ((pw.b.f 5).toNat : Int), .int .u8 ((pw.b.f 6).toNat : Int), .int .u8 ((pw.b.f 7).toNat : Int), .int .i64 pw.c, .int .i64 pw.p, .int .i64 pw.age, .int .i64 pw.ma, .int .i64 pw.he, .int .i64 pw.de, .bool pw.ch, .bool pw.ak] _ (range_of_row HP.out rfl) Try.underlying75 rfl (by kernel_rfl) ?_)
                  | ((with_reducible refine at_store 75 (.tmp 101) (.tmp 100) ?_); refine wpList_store_rp rfl 75 (.tmp 101) (.tmp 100) rfl g1 (i * 30) i 0 #[.int .i64 pc, .int .i64 prole, .int .i64 (pstate + 1), .int .i64 si.now, .bool up, .bool heard, .int .u8 ((pw.r.f 0).toNat : Int), .int .u8 ((pw.r.f 1).toNat : Int), .int .u8 ((pw.r.f 2).toNat : Int), .int .u8 ((pw.r.f 3).toNat : Int), .int .u8 ((pw.r.f 4).toNat : Int), .int .u8 ((pw.r.f 5).toNat : Int), .int .u8 ((pw.r.f 6).toNat : Int), .int .u8 ((pw.r.f 7).toNat : Int), .int .u8 ((pw.b.f 0).toNat : Int), .int .u8 ((pw.b.f 1).toNat : Int), .int .u8 ((pw.b.f 2).toNat : Int), .int .u8 ((pw.b.f 3).toNat : Int), .int .u8 ((pw.b.f 4).toNat : Int), .int .u8 ((pw.b.f 5).toNat : Int), .int .u8 ((pw.b.f 6).toNat : Int), .int .u8 ((pw.b.f 7).toNat : Int), .int .i64 pw.c, .int .i64 pw.p, .int .i64 pw.age, .int .i64 pw.ma, .int .i64 pw.he, .int .i64 pw.de, .bool pw.ch, .bool pw.ak] rfl rfl HA.out.ports hlti rfl (show 0 + 30 ≤ 30 from by decide) (by kernel_rfl) (by simp [Value.oneCell']) (⟨pc, up, heard, pw, prole, pstate + 1, si.now⟩ : SP) (by rw [putAt_all30 _ _ (SP.rc_len _) rfl]; rfl) w.heap.size HA.out.ports.hB ?_))
                intro wb hRb hob hsb hbb
                have HA := Lib.hid (HA.out.putSet hRb hob hbb)
                clear hRb hob hsb hbb c13 HP
                go_wp2_with fail
                refine ⟨⟨i + 1, by omega, by go_num, ?_⟩, by simp [intOf]; omega⟩
                show BAt _ _ _ _ _ _ _ _
                rw [HN.out, HX.out]
                exact HA.out
        · obtain rfl : i = s.ports.length := by omega
          have HOKF := Lib.hid HOK3.out.mat
          have HT3 : Hid (s.ticked = matF s3 s.ports.length) := by show _ = _; rw [HT2.out, hl3]
          rw [hl3] at HOKF
          rw [← HT3.out] at HA HOKF
          clear HT2 HT3 HOK3 hl3
          have c32 : wr.cell? ⟨w.heap.size, 32, none⟩ = some (.int .i64 s.ticked.root) := HA.out.box.cell 32
          have c11 : wr.cell? ⟨w.heap.size, 11, none⟩ = some (.int .i64 s.ticked.now) := HA.out.box.cell 11
          have c9 : wr.cell? ⟨w.heap.size, 9, none⟩ = some (.int .i64 s.ticked.he) := HA.out.box.cell 9
          generalize s.ticked = sf at *
          have hnf := HOKF.out.now
          have hef := HOKF.out.he
          have hm1 : sf.now.tmod sf.he = sf.now % sf.he := Int.tmod_eq_emod_of_nonneg hnf.1
          go_upto_region 24 with fail
          go_cut [112] (fun v wx => v = .bool (!(decide (sf.root ≥ 0) || sf.now % sf.he != 0)) ∧ wr = wx)
          case first =>
            clear HT1
            cases hr : decide (sf.root ≥ 0)
            · have H1 := Lib.hid hr
              have hr0 : sf.root < 0 := by simp at hr; omega
              clear hr
              go_wp2_with fail
              go_meet
              exact ⟨by rw [H1.out]; simp [bne], rfl⟩
            · have H1 := Lib.hid hr
              have hr0 : ¬ (sf.root < 0) := by simp at hr; omega
              clear hr
              go_wp2_with fail
              go_meet
              exact ⟨by rw [H1.out]; rfl, rfl⟩
          case rest =>
            obtain ⟨rfl, rfl⟩ := hcut
            clear c32 c11 c9 hm1 c13
            have HWQ : Hid (w.heap.size ≤ wr.heap.size) := HA.out.below.size
            have HRL : Hid (w.heap.size + 1 < wr.heap.size) := HA.out.ret.lt
            generalize hcc : (decide (sf.root ≥ 0) || sf.now % sf.he != 0) = cc
            rw [hcc] at HT1
            clear hcc
            cases cc
            · have HT1 : Hid (s.tick = (sf, sf.tells (fun _ => true))) := HT1
              have HT : Hid (∀ w', Below wr.heap.size wr w' → Calls Try.prog 40 #[.agg #[.int .u8 ((sf.id.f 0).toNat : Int), .int .u8 ((sf.id.f 1).toNat : Int), .int .u8 ((sf.id.f 2).toNat : Int), .int .u8 ((sf.id.f 3).toNat : Int), .int .u8 ((sf.id.f 4).toNat : Int), .int .u8 ((sf.id.f 5).toNat : Int), .int .u8 ((sf.id.f 6).toNat : Int), .int .u8 ((sf.id.f 7).toNat : Int), .int .i64 sf.ma, .int .i64 sf.he, .int .i64 sf.de, .int .i64 sf.now, .int .i64 sf.chg, (.slice (some ⟨g1, 0, none⟩) s.ports.length cap1), .int .u8 ((sf.best.r.f 0).toNat : Int), .int .u8 ((sf.best.r.f 1).toNat : Int), .int .u8 ((sf.best.r.f 2).toNat : Int), .int .u8 ((sf.best.r.f 3).toNat : Int), .int .u8 ((sf.best.r.f 4).toNat : Int), .int .u8 ((sf.best.r.f 5).toNat : Int), .int .u8 ((sf.best.r.f 6).toNat : Int), .int .u8 ((sf.best.r.f 7).toNat : Int), .int .i64 sf.best.c, .int .u8 ((sf.best.b.f 0).toNat : Int), .int .u8 ((sf.best.b.f 1).toNat : Int), .int .u8 ((sf.best.b.f 2).toNat : Int), .int .u8 ((sf.best.b.f 3).toNat : Int), .int .u8 ((sf.best.b.f 4).toNat : Int), .int .u8 ((sf.best.b.f 5).toNat : Int), .int .u8 ((sf.best.b.f 6).toNat : Int), .int .u8 ((sf.best.b.f 7).toNat : Int), .int .i64 sf.best.p, .int .i64 sf.root], .int .i64 (-1)] w' fun e w'' => ∃ v, e = .returned v ∧ ROutAt w'' w'.heap.size v (sf.tells (fun _ => true)) ∧ Below w'.heap.size w' w'') := fun w' hb => refTells_n w.heap.size g1 cap1 sf (-1) w' HA.out.len (HA.out.ports.later hb) hl HOKF.out.root HOKF.out.ages HOKF.out.ma.1
              go_upto_region 25 with fail
              refine wp_region_mix 3 (by kernel_rfl) (by kernel_rfl) (by kernel_rfl) ?_
              refine mix_exact (.agg #[.int .u8 ((sf.id.f 0).toNat : Int), .int .u8 ((sf.id.f 1).toNat : Int), .int .u8 ((sf.id.f 2).toNat : Int), .int .u8 ((sf.id.f 3).toNat : Int), .int .u8 ((sf.id.f 4).toNat : Int), .int .u8 ((sf.id.f 5).toNat : Int), .int .u8 ((sf.id.f 6).toNat : Int), .int .u8 ((sf.id.f 7).toNat : Int), .int .i64 sf.ma, .int .i64 sf.he, .int .i64 sf.de, .int .i64 sf.now, .int .i64 sf.chg, (.slice (some ⟨g1, 0, none⟩) s.ports.length cap1), .int .u8 ((sf.best.r.f 0).toNat : Int), .int .u8 ((sf.best.r.f 1).toNat : Int), .int .u8 ((sf.best.r.f 2).toNat : Int), .int .u8 ((sf.best.r.f 3).toNat : Int), .int .u8 ((sf.best.r.f 4).toNat : Int), .int .u8 ((sf.best.r.f 5).toNat : Int), .int .u8 ((sf.best.r.f 6).toNat : Int), .int .u8 ((sf.best.r.f 7).toNat : Int), .int .i64 sf.best.c, .int .u8 ((sf.best.b.f 0).toNat : Int), .int .u8 ((sf.best.b.f 1).toNat : Int), .int .u8 ((sf.best.b.f 2).toNat : Int), .int .u8 ((sf.best.b.f 3).toNat : Int), .int .u8 ((sf.best.b.f 4).toNat : Int), .int .u8 ((sf.best.b.f 5).toNat : Int), .int .u8 ((sf.best.b.f 6).toNat : Int), .int .u8 ((sf.best.b.f 7).toNat : Int), .int .i64 sf.best.p, .int .i64 sf.root]) rfl (exact_load_row rfl rfl (by simp) HA.out.box Try.underlying59 rfl (by kernel_rfl)) ?_
              refine mix_exact (.agg #[.int .u8 ((sf.id.f 0).toNat : Int), .int .u8 ((sf.id.f 1).toNat : Int), .int .u8 ((sf.id.f 2).toNat : Int), .int .u8 ((sf.id.f 3).toNat : Int), .int .u8 ((sf.id.f 4).toNat : Int), .int .u8 ((sf.id.f 5).toNat : Int), .int .u8 ((sf.id.f 6).toNat : Int), .int .u8 ((sf.id.f 7).toNat : Int), .int .i64 sf.ma, .int .i64 sf.he, .int .i64 sf.de, .int .i64 sf.now, .int .i64 sf.chg, (.slice (some ⟨g1, 0, none⟩) s.ports.length cap1), .int .u8 ((sf.best.r.f 0).toNat : Int), .int .u8 ((sf.best.r.f 1).toNat : Int), .int .u8 ((sf.best.r.f 2).toNat : Int), .int .u8 ((sf.best.r.f 3).toNat : Int), .int .u8 ((sf.best.r.f 4).toNat : Int), .int .u8 ((sf.best.r.f 5).toNat : Int), .int .u8 ((sf.best.r.f 6).toNat : Int), .int .u8 ((sf.best.r.f 7).toNat : Int), .int .i64 sf.best.c, .int .u8 ((sf.best.b.f 0).toNat : Int), .int .u8 ((sf.best.b.f 1).toNat : Int), .int .u8 ((sf.best.b.f 2).toNat : Int), .int .u8 ((sf.best.b.f 3).toNat : Int), .int .u8 ((sf.best.b.f 4).toNat : Int), .int .u8 ((sf.best.b.f 5).toNat : Int), .int .u8 ((sf.best.b.f 6).toNat : Int), .int .u8 ((sf.best.b.f 7).toNat : Int), .int .i64 sf.best.p, .int .i64 sf.root]) rfl (exact_load_row rfl rfl (by simp) HA.out.box Try.underlying59 rfl (by kernel_rfl)) ?_
              refine mix_special (TellAt wr.heap.size (sf.tells (fun _ => true))) 115 rfl rfl (stable_tell _ _) (owes_callO (xs := [.tmp 114, .const (.int .i64 (-1))]) (vs := [.agg #[.int .u8 ((sf.id.f 0).toNat : Int), .int .u8 ((sf.id.f 1).toNat : Int), .int .u8 ((sf.id.f 2).toNat : Int), .int .u8 ((sf.id.f 3).toNat : Int), .int .u8 ((sf.id.f 4).toNat : Int), .int .u8 ((sf.id.f 5).toNat : Int), .int .u8 ((sf.id.f 6).toNat : Int), .int .u8 ((sf.id.f 7).toNat : Int), .int .i64 sf.ma, .int .i64 sf.he, .int .i64 sf.de, .int .i64 sf.now, .int .i64 sf.chg, (.slice (some ⟨g1, 0, none⟩) s.ports.length cap1), .int .u8 ((sf.best.r.f 0).toNat : Int), .int .u8 ((sf.best.r.f 1).toNat : Int), .int .u8 ((sf.best.r.f 2).toNat : Int), .int .u8 ((sf.best.r.f 3).toNat : Int), .int .u8 ((sf.best.r.f 4).toNat : Int), .int .u8 ((sf.best.r.f 5).toNat : Int), .int .u8 ((sf.best.r.f 6).toNat : Int), .int .u8 ((sf.best.r.f 7).toNat : Int), .int .i64 sf.best.c, .int .u8 ((sf.best.b.f 0).toNat : Int), .int .u8 ((sf.best.b.f 1).toNat : Int), .int .u8 ((sf.best.b.f 2).toNat : Int), .int .u8 ((sf.best.b.f 3).toNat : Int), .int .u8 ((sf.best.b.f 4).toNat : Int), .int .u8 ((sf.best.b.f 5).toNat : Int), .int .u8 ((sf.best.b.f 6).toNat : Int), .int .u8 ((sf.best.b.f 7).toNat : Int), .int .i64 sf.best.p, .int .i64 sf.root], .int .i64 (-1)]) rfl (by simp) rfl Try.func40 (by kernel_rfl) (by kernel_rfl) (fun w' hb => (HT.out w' hb).mono (by
                rintro e w'' ⟨u, rfl, ho, hbb⟩
                exact ⟨u, rfl, hbb, ROutAt.lower ho hb.size⟩))) ?_
              refine mix_nil ?_
              rintro ⟨dr, osr⟩
              have hb8 := below_regrown wr dr osr
              intro u1 f1
              have F1 : Hid (ROutAt _ wr.heap.size u1 (sf.tells (fun _ => true))) := f1
              have HA := Lib.hid (HA.out.later hb8)
              clear f1
              generalize grow (redrawn wr dr) osr = wz at *
              refine (show wpList _ _ _ _ _ _ from ?_)
              simp only [List.drop, Act.put, List.setIfInBounds_toArray, List.set]
              go_wp2_with ((with_reducible refine at_store 59 (.tmp 2) (.tmp 113) ?_); refine wpList_store_own rfl 59 (.tmp 2) (.tmp 113) rfl (w.heap.size + 1) _ rfl rfl _ _ HA.out.ret (by kernel_rfl) rfl (by simp [Value.oneCell']) (w.heap.size) HA.out.hr ?_)
              intro we hRe hoe hse hbe
              have HRE : Hid (RowIs we (w.heap.size + 1) 59 #[.int .u8 ((sf.id.f 0).toNat : Int), .int .u8 ((sf.id.f 1).toNat : Int), .int .u8 ((sf.id.f 2).toNat : Int), .int .u8 ((sf.id.f 3).toNat : Int), .int .u8 ((sf.id.f 4).toNat : Int), .int .u8 ((sf.id.f 5).toNat : Int), .int .u8 ((sf.id.f 6).toNat : Int), .int .u8 ((sf.id.f 7).toNat : Int), .int .i64 sf.ma, .int .i64 sf.he, .int .i64 sf.de, .int .i64 sf.now, .int .i64 sf.chg, (.slice (some ⟨g1, 0, none⟩) s.ports.length cap1), .int .u8 ((sf.best.r.f 0).toNat : Int), .int .u8 ((sf.best.r.f 1).toNat : Int), .int .u8 ((sf.best.r.f 2).toNat : Int), .int .u8 ((sf.best.r.f 3).toNat : Int), .int .u8 ((sf.best.r.f 4).toNat : Int), .int .u8 ((sf.best.r.f 5).toNat : Int), .int .u8 ((sf.best.r.f 6).toNat : Int), .int .u8 ((sf.best.r.f 7).toNat : Int), .int .i64 sf.best.c, .int .u8 ((sf.best.b.f 0).toNat : Int), .int .u8 ((sf.best.b.f 1).toNat : Int), .int .u8 ((sf.best.b.f 2).toNat : Int), .int .u8 ((sf.best.b.f 3).toNat : Int), .int .u8 ((sf.best.b.f 4).toNat : Int), .int .u8 ((sf.best.b.f 5).toNat : Int), .int .u8 ((sf.best.b.f 6).toNat : Int), .int .u8 ((sf.best.b.f 7).toNat : Int), .int .i64 sf.best.p, .int .i64 sf.root]) := hRe
              have hRA : RAt w.heap.size g1 cap1 we sf.ports := HA.out.ports.same (hoe _ HA.out.gr)
              have hbf := HA.out.below.trans hbe
              have hOF := ROutAt.lower (ROutAt.same F1.out (fun m hm => hoe m (by have := HRL.out; omega))) HWQ.out
              clear hRe hoe hse hbe HA
              go_wp2_with fail
              refine bodyPost_ret (results_row_tmp1 Try.results19 _ _ (w.heap.size + 1) _ _ _ rfl HRE.out Try.underlying59 rfl (by kernel_rfl)) rfl ?_
              refine ⟨g1, cap1, u1, ?_, ?_, ?_, hbf⟩
              · (rw [HT1.out]; try rfl)
              · rw [HT1.out]; exact hRA
              · rw [HT1.out]; exact hOF
            · have HT1 : Hid (s.tick = (sf, [])) := HT1
              go_wp2_with (first
                | ((with_reducible refine at_load 59 (.tmp 1) ?_); refine wpList_load_midW rfl 59 (.tmp 1) rfl (w.heap.size) (0) rfl [.int .u8 ((sf.id.f 0).toNat : Int), .int .u8 ((sf.id.f 1).toNat : Int), .int .u8 ((sf.id.f 2).toNat : Int), .int .u8 ((sf.id.f 3).toNat : Int), .int .u8 ((sf.id.f 4).toNat : Int), .int .u8 ((sf.id.f 5).toNat : Int), .int .u8 ((sf.id.f 6).toNat : Int), .int .u8 ((sf.id.f 7).toNat : Int), .int .i64 sf.ma, .int .i64 sf.he, .int .i64 sf.de, .int .i64 sf.now, .int .i64 sf.chg, (.slice (some ⟨g1, 0, none⟩) s.ports.length cap1), .int .u8 ((sf.best.r.f 0).toNat : Int), .int .u8 ((sf.best.r.f 1).toNat : Int), .int .u8 ((sf.best.r.f 2).toNat : Int), .int .u8 ((sf.best.r.f 3).toNat : Int), .int .u8 ((sf.best.r.f 4).toNat : Int), .int .u8 ((sf.best.r.f 5).toNat : Int), .int .u8 ((sf.best.r.f 6).toNat : Int), .int .u8 ((sf.best.r.f 7).toNat : Int), .int .i64 sf.best.c, .int .u8 ((sf.best.b.f 0).toNat : Int), .int .u8 ((sf.best.b.f 1).toNat : Int), .int .u8 ((sf.best.b.f 2).toNat : Int), .int .u8 ((sf.best.b.f 3).toNat : Int), .int .u8 ((sf.best.b.f 4).toNat : Int), .int .u8 ((sf.best.b.f 5).toNat : Int), .int .u8 ((sf.best.b.f 6).toNat : Int), .int .u8 ((sf.best.b.f 7).toNat : Int), .int .i64 sf.best.p, .int .i64 sf.root] _ (range_of_row HA.out.box rfl) Try.underlying59 rfl (by kernel_rfl) ?_)
                | ((with_reducible refine at_store 59 (.tmp 2) (.tmp 116) ?_); refine wpList_store_own rfl 59 (.tmp 2) (.tmp 116) rfl (w.heap.size + 1) _ rfl rfl _ _ HA.out.ret (by kernel_rfl) rfl (by simp [Value.oneCell']) (w.heap.size) HA.out.hr ?_))
              intro we hRe hoe hse hbe
              have HRE : Hid (RowIs we (w.heap.size + 1) 59 #[.int .u8 ((sf.id.f 0).toNat : Int), .int .u8 ((sf.id.f 1).toNat : Int), .int .u8 ((sf.id.f 2).toNat : Int), .int .u8 ((sf.id.f 3).toNat : Int), .int .u8 ((sf.id.f 4).toNat : Int), .int .u8 ((sf.id.f 5).toNat : Int), .int .u8 ((sf.id.f 6).toNat : Int), .int .u8 ((sf.id.f 7).toNat : Int), .int .i64 sf.ma, .int .i64 sf.he, .int .i64 sf.de, .int .i64 sf.now, .int .i64 sf.chg, (.slice (some ⟨g1, 0, none⟩) s.ports.length cap1), .int .u8 ((sf.best.r.f 0).toNat : Int), .int .u8 ((sf.best.r.f 1).toNat : Int), .int .u8 ((sf.best.r.f 2).toNat : Int), .int .u8 ((sf.best.r.f 3).toNat : Int), .int .u8 ((sf.best.r.f 4).toNat : Int), .int .u8 ((sf.best.r.f 5).toNat : Int), .int .u8 ((sf.best.r.f 6).toNat : Int), .int .u8 ((sf.best.r.f 7).toNat : Int), .int .i64 sf.best.c, .int .u8 ((sf.best.b.f 0).toNat : Int), .int .u8 ((sf.best.b.f 1).toNat : Int), .int .u8 ((sf.best.b.f 2).toNat : Int), .int .u8 ((sf.best.b.f 3).toNat : Int), .int .u8 ((sf.best.b.f 4).toNat : Int), .int .u8 ((sf.best.b.f 5).toNat : Int), .int .u8 ((sf.best.b.f 6).toNat : Int), .int .u8 ((sf.best.b.f 7).toNat : Int), .int .i64 sf.best.p, .int .i64 sf.root]) := hRe
              have hRA : RAt w.heap.size g1 cap1 we sf.ports := HA.out.ports.same (hoe _ HA.out.gr)
              have hbf := HA.out.below.trans hbe
              clear hRe hoe hse hbe HA
              go_wp2_with fail
              refine bodyPost_ret (results_row_tmp1 Try.results19 _ _ (w.heap.size + 1) _ _ _ rfl HRE.out Try.underlying59 rfl (by kernel_rfl)) rfl ?_
              refine ⟨g1, cap1, .slice none 0 0, ?_, ?_, ?_, hbf⟩
              · (rw [HT1.out]; try rfl)
              · rw [HT1.out]; exact hRA
              · rw [HT1.out]; exact rout_nil _ _
end Go.Proofs.Ytdhiaidbpjjljaa
