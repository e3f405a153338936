/- SpanDown: the walk. By an AI agent. -/
import Derived.Test.YtnpoholeemcklaaSpanDown0
namespace Go.Proofs.Ytnpoholeemcklaa
open Go.RowKit Go.WideShapes Go.Sort Grow

set_option maxRecDepth 20000 in
set_option maxHeartbeats 2000000 in
theorem spanDown_long (id : Id8) (a0 : Option Addr) (zs : List Int) (cap0 : Nat) (ma he de : Int) (a1 : Option Addr) (acts : List ActS) (cap1 : Nat) (q : SW) (w : World) (hl : 60 < acts.length) :
    Calls Try.prog 5 #[.agg #[.int .u8 ((id.f 0).toNat : Int), .int .u8 ((id.f 1).toNat : Int), .int .u8 ((id.f 2).toNat : Int), .int .u8 ((id.f 3).toNat : Int), .int .u8 ((id.f 4).toNat : Int), .int .u8 ((id.f 5).toNat : Int), .int .u8 ((id.f 6).toNat : Int), .int .u8 ((id.f 7).toNat : Int)], .slice a0 zs.length cap0, .agg #[.int .i64 ma, .int .i64 he, .int .i64 de], .slice a1 acts.length cap1, .agg #[.int .u8 ((q.r.f 0).toNat : Int), .int .u8 ((q.r.f 1).toNat : Int), .int .u8 ((q.r.f 2).toNat : Int), .int .u8 ((q.r.f 3).toNat : Int), .int .u8 ((q.r.f 4).toNat : Int), .int .u8 ((q.r.f 5).toNat : Int), .int .u8 ((q.r.f 6).toNat : Int), .int .u8 ((q.r.f 7).toNat : Int), .int .u8 ((q.b.f 0).toNat : Int), .int .u8 ((q.b.f 1).toNat : Int), .int .u8 ((q.b.f 2).toNat : Int), .int .u8 ((q.b.f 3).toNat : Int), .int .u8 ((q.b.f 4).toNat : Int), .int .u8 ((q.b.f 5).toNat : Int), .int .u8 ((q.b.f 6).toNat : Int), .int .u8 ((q.b.f 7).toNat : Int), .int .i64 q.c, .int .i64 q.p, .int .i64 q.age, .int .i64 q.ma, .int .i64 q.he, .int .i64 q.de, .bool q.ch, .bool q.ak]] w fun e w' => e = .returned (.bool true) ∧ Below w.heap.size w w' := by
  have g1 : decide ((60 : Int) < (acts.length : Int)) = true := decide_eq_true (by omega)
  go_enter Try.func5, Try.ntmps5
  go_upto_region 1 with fail
  generalize hW : ((w.alloc _).alloc _).alloc _ = W
  have hb : Below w.heap.size w W := by rw [← hW]; exact BX3 w _ _ _
  clear hW
  go_wp2_with fail
  refine (awake_any _).mono ?_
  rintro e w1 ⟨rfl, hb1⟩
  go_wp2_with fail
  refine (awake_any _).mono ?_
  rintro e w2 ⟨rfl, hb2⟩
  have hbf : Below w.heap.size w w2 := (hb.trans (hb1.mono hb.size)).trans (hb2.mono (Nat.le_trans hb.size hb1.size))
  clear hb hb1 hb2
  go_wp2_with fail
  go_ret
  exact ⟨rfl, hbf⟩

set_option maxRecDepth 20000 in
set_option maxHeartbeats 2000000 in
theorem spanDown_wide (id : Id8) (a0 : Option Addr) (zs : List Int) (cap0 : Nat) (ma he de : Int) (a1 : Option Addr) (acts : List ActS) (cap1 : Nat) (q : SW) (w : World) (ha : acts.length ≤ 60) (hl : 100 < zs.length) :
    Calls Try.prog 5 #[.agg #[.int .u8 ((id.f 0).toNat : Int), .int .u8 ((id.f 1).toNat : Int), .int .u8 ((id.f 2).toNat : Int), .int .u8 ((id.f 3).toNat : Int), .int .u8 ((id.f 4).toNat : Int), .int .u8 ((id.f 5).toNat : Int), .int .u8 ((id.f 6).toNat : Int), .int .u8 ((id.f 7).toNat : Int)], .slice a0 zs.length cap0, .agg #[.int .i64 ma, .int .i64 he, .int .i64 de], .slice a1 acts.length cap1, .agg #[.int .u8 ((q.r.f 0).toNat : Int), .int .u8 ((q.r.f 1).toNat : Int), .int .u8 ((q.r.f 2).toNat : Int), .int .u8 ((q.r.f 3).toNat : Int), .int .u8 ((q.r.f 4).toNat : Int), .int .u8 ((q.r.f 5).toNat : Int), .int .u8 ((q.r.f 6).toNat : Int), .int .u8 ((q.r.f 7).toNat : Int), .int .u8 ((q.b.f 0).toNat : Int), .int .u8 ((q.b.f 1).toNat : Int), .int .u8 ((q.b.f 2).toNat : Int), .int .u8 ((q.b.f 3).toNat : Int), .int .u8 ((q.b.f 4).toNat : Int), .int .u8 ((q.b.f 5).toNat : Int), .int .u8 ((q.b.f 6).toNat : Int), .int .u8 ((q.b.f 7).toNat : Int), .int .i64 q.c, .int .i64 q.p, .int .i64 q.age, .int .i64 q.ma, .int .i64 q.he, .int .i64 q.de, .bool q.ch, .bool q.ak]] w fun e w' => e = .returned (.bool true) ∧ Below w.heap.size w w' := by
  have g1 : decide ((60 : Int) < (acts.length : Int)) = false := decide_eq_false (by omega)
  have g2 : decide ((zs.length : Int) ≤ 100) = false := decide_eq_false (by omega)
  go_enter Try.func5, Try.ntmps5
  go_upto_region 1 with fail
  generalize hW : ((w.alloc _).alloc _).alloc _ = W
  have hb : Below w.heap.size w W := by rw [← hW]; exact BX3 w _ _ _
  clear hW
  go_wp2_with fail
  refine (awake_any _).mono ?_
  rintro e w1 ⟨rfl, hb1⟩
  go_wp2_with fail
  refine (few_any _ _ _ _).mono ?_
  rintro e w2 ⟨rfl, rfl⟩
  go_wp2_with fail
  refine (awake_any _).mono ?_
  rintro e w2 ⟨rfl, hb2⟩
  have hbf : Below w.heap.size w w2 := (hb.trans (hb1.mono hb.size)).trans (hb2.mono (Nat.le_trans hb.size hb1.size))
  clear hb hb1 hb2
  go_wp2_with fail
  go_ret
  exact ⟨rfl, hbf⟩

set_option maxRecDepth 20000 in
set_option maxHeartbeats 4000000 in
theorem spanDown_bad (id : Id8) (a0 : Option Addr) (zs : List Int) (cap0 : Nat) (ma he de : Int) (a1 : Option Addr) (acts : List ActS) (cap1 : Nat) (q : SW) (w : World) (ha : acts.length ≤ 60) (hz : zs.length ≤ 100) (hA0 : IntsAt w a0 zs) (hbad : newOk zs ma he de = false) :
    Calls Try.prog 5 #[.agg #[.int .u8 ((id.f 0).toNat : Int), .int .u8 ((id.f 1).toNat : Int), .int .u8 ((id.f 2).toNat : Int), .int .u8 ((id.f 3).toNat : Int), .int .u8 ((id.f 4).toNat : Int), .int .u8 ((id.f 5).toNat : Int), .int .u8 ((id.f 6).toNat : Int), .int .u8 ((id.f 7).toNat : Int)], .slice a0 zs.length cap0, .agg #[.int .i64 ma, .int .i64 he, .int .i64 de], .slice a1 acts.length cap1, .agg #[.int .u8 ((q.r.f 0).toNat : Int), .int .u8 ((q.r.f 1).toNat : Int), .int .u8 ((q.r.f 2).toNat : Int), .int .u8 ((q.r.f 3).toNat : Int), .int .u8 ((q.r.f 4).toNat : Int), .int .u8 ((q.r.f 5).toNat : Int), .int .u8 ((q.r.f 6).toNat : Int), .int .u8 ((q.r.f 7).toNat : Int), .int .u8 ((q.b.f 0).toNat : Int), .int .u8 ((q.b.f 1).toNat : Int), .int .u8 ((q.b.f 2).toNat : Int), .int .u8 ((q.b.f 3).toNat : Int), .int .u8 ((q.b.f 4).toNat : Int), .int .u8 ((q.b.f 5).toNat : Int), .int .u8 ((q.b.f 6).toNat : Int), .int .u8 ((q.b.f 7).toNat : Int), .int .i64 q.c, .int .i64 q.p, .int .i64 q.age, .int .i64 q.ma, .int .i64 q.he, .int .i64 q.de, .bool q.ch, .bool q.ak]] w fun e w' => e = .returned (.bool true) ∧ Below w.heap.size w w' := by
  have g1 : decide ((60 : Int) < (acts.length : Int)) = false := decide_eq_false (by omega)
  have g2 : decide ((zs.length : Int) ≤ 100) = true := decide_eq_true (by omega)
  go_enter Try.func5, Try.ntmps5
  go_upto_region 1 with fail
  generalize hW : ((w.alloc _).alloc _).alloc _ = W
  have hbW : Below w.heap.size w W := by rw [← hW]; exact BX3 w _ _ _
  have RD : Hid (RowIs W w.heap.size 23 #[.int .u8 ((id.f 0).toNat : Int), .int .u8 ((id.f 1).toNat : Int), .int .u8 ((id.f 2).toNat : Int), .int .u8 ((id.f 3).toNat : Int), .int .u8 ((id.f 4).toNat : Int), .int .u8 ((id.f 5).toNat : Int), .int .u8 ((id.f 6).toNat : Int), .int .u8 ((id.f 7).toNat : Int)]) := by subst hW; exact ((rowIs_new w _ _).alloc _).alloc _
  have RT : Hid (RowIs W (w.heap.size + 1) 43 #[.int .i64 ma, .int .i64 he, .int .i64 de]) := by subst hW; exact (rowIs_new1 w _ _ _).alloc _
  clear hW
  go_wp2_with fail
  refine (awake_any _).mono ?_
  rintro e w1 ⟨rfl, hb1⟩
  have hbW1 := hbW.trans (hb1.mono hbW.size)
  have RD1 := Lib.hid (RD.out.kept hb1)
  have RT1 := Lib.hid (RT.out.kept hb1)
  have c0 : w1.cell? ⟨w.heap.size + 1, 0, none⟩ = some (.int .i64 ma) := RT1.out.cell 0
  clear RD RT hbW hb1
  go_wp2_with fail
  refine (few_any _ _ _ _).mono ?_
  rintro e w2 ⟨rfl, rfl⟩
  have HN := Lib.hid (new_bad id a0 zs cap0 ma he de w1 (hA0.after hbW1) (by omega) hbad)
  have c1 : w1.cell? ⟨w.heap.size + 1, 1, none⟩ = some (.int .i64 he) := RT1.out.cell 1
  have c2 : w1.cell? ⟨w.heap.size + 1, 2, none⟩ = some (.int .i64 de) := RT1.out.cell 2
  clear hbad hA0
  go_wp2_with ((with_reducible refine at_load 23 (.tmp 5) ?_); refine wpList_load_own rfl 23 (.tmp 5) rfl (w.heap.size) rfl _ _ _ RD1.out Try.underlying23 rfl (by kernel_rfl) ?_)
  refine HN.out.mono ?_
  rintro e w3 ⟨rfl, hb3⟩
  have hbf := hbW1.trans (hb3.mono hbW1.size)
  clear hb3 HN c0 c1 c2 RD1 RT1
  go_wp2_with fail
  go_ret
  exact ⟨rfl, hbf⟩

set_option maxRecDepth 20000 in
set_option maxHeartbeats 8000000 in
theorem spanDown_go (id : Id8) (a0 : Option Addr) (zs : List Int) (cap0 : Nat) (ma he de : Int) (a1 : Option Addr) (acts : List ActS) (cap1 : Nat) (q : SW) (w : World) (ha : acts.length ≤ 60) (hz : zs.length ≤ 100) (hA0 : IntsAt w a0 zs) (hA1 : ManyAt w a1 ActS.cells 26 acts) (hA2 : ∀ a ∈ acts, a.ok) (hgood : newOk zs ma he de = true) :
    Calls Try.prog 5 #[.agg #[.int .u8 ((id.f 0).toNat : Int), .int .u8 ((id.f 1).toNat : Int), .int .u8 ((id.f 2).toNat : Int), .int .u8 ((id.f 3).toNat : Int), .int .u8 ((id.f 4).toNat : Int), .int .u8 ((id.f 5).toNat : Int), .int .u8 ((id.f 6).toNat : Int), .int .u8 ((id.f 7).toNat : Int)], .slice a0 zs.length cap0, .agg #[.int .i64 ma, .int .i64 he, .int .i64 de], .slice a1 acts.length cap1, .agg #[.int .u8 ((q.r.f 0).toNat : Int), .int .u8 ((q.r.f 1).toNat : Int), .int .u8 ((q.r.f 2).toNat : Int), .int .u8 ((q.r.f 3).toNat : Int), .int .u8 ((q.r.f 4).toNat : Int), .int .u8 ((q.r.f 5).toNat : Int), .int .u8 ((q.r.f 6).toNat : Int), .int .u8 ((q.r.f 7).toNat : Int), .int .u8 ((q.b.f 0).toNat : Int), .int .u8 ((q.b.f 1).toNat : Int), .int .u8 ((q.b.f 2).toNat : Int), .int .u8 ((q.b.f 3).toNat : Int), .int .u8 ((q.b.f 4).toNat : Int), .int .u8 ((q.b.f 5).toNat : Int), .int .u8 ((q.b.f 6).toNat : Int), .int .u8 ((q.b.f 7).toNat : Int), .int .i64 q.c, .int .i64 q.p, .int .i64 q.age, .int .i64 q.ma, .int .i64 q.he, .int .i64 q.de, .bool q.ch, .bool q.ak]] w fun e w' => e = .returned (.bool true) ∧ Below w.heap.size w w' := by
  have HA := Lib.hid hA1
  have HAK := Lib.hid hA2
  have HGD := Lib.hid hgood
  have g1 : decide ((60 : Int) < (acts.length : Int)) = false := decide_eq_false (by omega)
  have g2 : decide ((zs.length : Int) ≤ 100) = true := decide_eq_true (by omega)
  clear hA1 hA2
  go_enter Try.func5, Try.ntmps5
  go_upto_region 1 with fail
  generalize hW : ((w.alloc _).alloc _).alloc _ = W
  have hbW : Below w.heap.size w W := by rw [← hW]; exact BX3 w _ _ _
  have RD : Hid (RowIs W w.heap.size 23 #[.int .u8 ((id.f 0).toNat : Int), .int .u8 ((id.f 1).toNat : Int), .int .u8 ((id.f 2).toNat : Int), .int .u8 ((id.f 3).toNat : Int), .int .u8 ((id.f 4).toNat : Int), .int .u8 ((id.f 5).toNat : Int), .int .u8 ((id.f 6).toNat : Int), .int .u8 ((id.f 7).toNat : Int)]) := by subst hW; exact ((rowIs_new w _ _).alloc _).alloc _
  have RT : Hid (RowIs W (w.heap.size + 1) 43 #[.int .i64 ma, .int .i64 he, .int .i64 de]) := by subst hW; exact (rowIs_new1 w _ _ _).alloc _
  have RW : Hid (RowIs W (w.heap.size + 2) 48 #[.int .u8 ((q.r.f 0).toNat : Int), .int .u8 ((q.r.f 1).toNat : Int), .int .u8 ((q.r.f 2).toNat : Int), .int .u8 ((q.r.f 3).toNat : Int), .int .u8 ((q.r.f 4).toNat : Int), .int .u8 ((q.r.f 5).toNat : Int), .int .u8 ((q.r.f 6).toNat : Int), .int .u8 ((q.r.f 7).toNat : Int), .int .u8 ((q.b.f 0).toNat : Int), .int .u8 ((q.b.f 1).toNat : Int), .int .u8 ((q.b.f 2).toNat : Int), .int .u8 ((q.b.f 3).toNat : Int), .int .u8 ((q.b.f 4).toNat : Int), .int .u8 ((q.b.f 5).toNat : Int), .int .u8 ((q.b.f 6).toNat : Int), .int .u8 ((q.b.f 7).toNat : Int), .int .i64 q.c, .int .i64 q.p, .int .i64 q.age, .int .i64 q.ma, .int .i64 q.he, .int .i64 q.de, .bool q.ch, .bool q.ak]) := by subst hW; exact rowIs_new2 w _ _ _ _
  clear hW
  go_wp2_with fail
  refine (awake_any _).mono ?_
  rintro e w1 ⟨rfl, hb1⟩
  have hbW1 := hbW.trans (hb1.mono hbW.size)
  have RD1 := Lib.hid (RD.out.kept hb1)
  have RT1 := Lib.hid (RT.out.kept hb1)
  have RW1 := Lib.hid (RW.out.kept hb1)
  have c0 : w1.cell? ⟨w.heap.size + 1, 0, none⟩ = some (.int .i64 ma) := RT1.out.cell 0
  clear RD RT hbW hb1 RW
  go_wp2_with fail
  refine (few_any _ _ _ _).mono ?_
  rintro e w2 ⟨rfl, rfl⟩
  have HN := Lib.hid (new_good id a0 zs cap0 ma he de w1 (hA0.after hbW1) hgood)
  have c1 : w1.cell? ⟨w.heap.size + 1, 1, none⟩ = some (.int .i64 he) := RT1.out.cell 1
  have c2 : w1.cell? ⟨w.heap.size + 1, 2, none⟩ = some (.int .i64 de) := RT1.out.cell 2
  have HIS := Lib.hid (SS.fresh_same id zs ma he de)
  have HOK := Lib.hid (SS.Ok.fresh (id := id) hgood)
  have hnok := newOk_spec hgood
  clear hgood hA0
  go_wp2_with ((with_reducible refine at_load 23 (.tmp 5) ?_); refine wpList_load_own rfl 23 (.tmp 5) rfl (w.heap.size) rfl _ _ _ RD1.out Try.underlying23 rfl (by kernel_rfl) ?_)
  refine HN.out.mono ?_
  rintro e w3 ⟨S, g, cp, pbs, rfl, hSA, hb3⟩
  have HSA := Lib.hid hSA
  have hbf := hbW1.trans (hb3.mono hbW1.size)
  have RD3 := Lib.hid (RD1.out.kept hb3)
  have RT3 := Lib.hid (RT1.out.kept hb3)
  have RW3 := Lib.hid (RW1.out.kept hb3)
  have hBB : w.heap.size ≤ w1.heap.size := hbW1.size
  have htb : w.heap.size + 1 < w1.heap.size := RT1.out.lt
  have hwb : w.heap.size + 2 < w1.heap.size := RW1.out.lt
  have hb0 : Below w1.heap.size w3 w3 := Below.refl _ _
  clear hSA hb3 HN c0 c1 c2 RD1 RT1 hbW1 g1 g2 RW1
  have HUP := Lib.hid (fresh_up id zs ma he de)
  have HDN := Lib.hid (down_found (SS.fresh id zs ma he de))
  generalize (SS.fresh id zs ma he de).found.1 = s0 at *
  generalize w1.heap.size = BB at *
  obtain ⟨hid, hma, hhe, hde, hlen, hnow⟩ := HIS.out
  have HID := Lib.hid hid
  have HMA := Lib.hid hma
  have HHE := Lib.hid hhe
  have HLEN := Lib.hid hlen
  have HNOW := Lib.hid hnow
  clear HIS hid hma hhe hde hlen hnow
  have hmk : ∀ w : World, (Instr.makeSlice 52 (.int .i64 (zs.length : Nat)) (.int .i64 (zs.length : Nat))).run Try.prog w = .ok (.slice (some ⟨w.heap.size, 0, none⟩) (zs.length : Nat) (zs.length : Nat)) (w.alloc (.cells (upsA s0) 4)) := fun w => by
    rw [HUP.out, ← ups_made]
    exact Go.run_make_row' (P := Try.prog) 52 4 (.bool false) 1 Try.underlying52 (by kernel_rfl) rfl .i64 .i64 zs.length (by omega) (by omega) w
  have RU := Lib.hid (rowIs_new w3 4 (upsA s0))
  have hbU : Below w3.heap.size w3 (w3.alloc (.cells (upsA s0) 4)) := (Below.refl _ _).alloc (Nat.le_refl _) _
  have HLT3 := Lib.hid HSA.out.lt
  have HSA := Lib.hid (HSA.out.later hbU)
  have hBw3 : BB ≤ w3.heap.size := Nat.le_trans HSA.out.hB (Nat.le_of_lt HLT3.out.1)
  go_upto_region 7 with fail
  clear hmk HUP
  have HUN : Hid (w3.heap.size ∉ S :: pbs) := (fun hm => by
    have hl := HLT3.out
    rcases List.mem_cons.1 hm with e | e
    · omega
    · have := hl.2 _ e
      omega)
  have hbV : Below BB w3 (w3.alloc (.cells (upsA s0) 4)) := hbU.mono hBw3
  clear hbU hb0
  generalize (w3.alloc (.cells (upsA s0) 4)) = w4 at *
  generalize w3.heap.size = U at *
  go_wp2_with fail
  go_loopw [14] (fun s14 wr => ∃ i : Nat, i ≤ acts.length ∧ s14 = .int .i64 i ∧ Hid (SpAt BB S g cp pbs wr (runF s0 acts i)) ∧ Hid (DownOk (runF s0 acts i)) ∧ Hid (RowIs wr U 4 (upsA (runF s0 acts i))) ∧ Below BB w3 wr) (fun s14 _ => acts.length - (intOf s14).toNat)
  case atStart => exact ⟨0, Nat.zero_le _, rfl, HSA, HDN, RU, hbV⟩
  case round =>
    clear HSA HDN RU hbV
    rename World => wr
    obtain ⟨i, hi, rfl, HW, HD, RU, hbR⟩ := hrel
    by_cases hlt : i < acts.length
    · have hbW : Below w.heap.size w wr := hbf.trans (hbR.mono hBB)
      obtain ⟨b, off, hao, hbl, hcell⟩ := (HA.out.later hbW).range hlt
      have hxok := HAK.out acts[i] (List.getElem_mem hlt)
      have HN : Hid (runF s0 acts (i + 1) = ((runF s0 acts i).act acts[i]).1) := by
        have hgd : acts.getD i ⟨0, 0, .zero⟩ = acts[i] := by simp [List.getD, hlt]
        show _ = _
        rw [← hgd]
        rfl
      have HOKI := Lib.hid (runF_ok HOK.out acts i)
      subst hao
      generalize acts[i] = x at *
      generalize runF s0 acts i = si at *
      have HXR := Lib.hid (show wr.rangeAt b (off + i * 26) [.int .u8 (x.d.toNat : Int), .int .i64 x.port, .int .u8 ((x.w.r.f 0).toNat : Int), .int .u8 ((x.w.r.f 1).toNat : Int), .int .u8 ((x.w.r.f 2).toNat : Int), .int .u8 ((x.w.r.f 3).toNat : Int), .int .u8 ((x.w.r.f 4).toNat : Int), .int .u8 ((x.w.r.f 5).toNat : Int), .int .u8 ((x.w.r.f 6).toNat : Int), .int .u8 ((x.w.r.f 7).toNat : Int), .int .u8 ((x.w.b.f 0).toNat : Int), .int .u8 ((x.w.b.f 1).toNat : Int), .int .u8 ((x.w.b.f 2).toNat : Int), .int .u8 ((x.w.b.f 3).toNat : Int), .int .u8 ((x.w.b.f 4).toNat : Int), .int .u8 ((x.w.b.f 5).toNat : Int), .int .u8 ((x.w.b.f 6).toNat : Int), .int .u8 ((x.w.b.f 7).toNat : Int), .int .i64 x.w.c, .int .i64 x.w.p, .int .i64 x.w.age, .int .i64 x.w.ma, .int .i64 x.w.he, .int .i64 x.w.de, .bool x.w.ch, .bool x.w.ak] from hcell)
      have HDO := Lib.hid (do_any BB S g cp pbs wr si HW.out _ HOKI.out (by omega) x (wf_i64 hxok.1))
      clear hcell
      have HSM := Lib.hid ((runF_same s0 acts (i + 1)).len.trans HLEN.out)
      rw [HN.out] at HSM
      have HUS := Lib.hid (act_ups si x)
      have HDA := Lib.hid (down_act HD.out x)
      have HTO := Lib.hid (act_told HD.out x)
      have holen := act_len si x
      have HHAS : Hid (si.has x.port = (decide (0 ≤ x.port) && decide (x.port < (si.ports.length : Int)))) := rfl
      have hsl : si.ports.length = zs.length := by
        have := (si.act_same x).len
        rw [HSM.out] at this
        exact this.symm
      rw [hsl] at HHAS HTO holen
      have HSL := Lib.hid hsl
      clear hsl
      have RNX : Hid (RowIs (wr.alloc (.cells #[.int .u8 ((Id8.zero.f 0).toNat : Int), .int .u8 ((Id8.zero.f 1).toNat : Int), .int .u8 ((Id8.zero.f 2).toNat : Int), .int .u8 ((Id8.zero.f 3).toNat : Int), .int .u8 ((Id8.zero.f 4).toNat : Int), .int .u8 ((Id8.zero.f 5).toNat : Int), .int .u8 ((Id8.zero.f 6).toNat : Int), .int .u8 ((Id8.zero.f 7).toNat : Int)] 23)) U 4 (upsA si)) := RU.out.alloc _
      clear RNX
      have RA0 := rowIs_new wr 50 #[.int .u8 0, .int .i64 0, .int .u8 0, .int .u8 0, .int .u8 0, .int .u8 0, .int .u8 0, .int .u8 0, .int .u8 0, .int .u8 0, .int .u8 0, .int .u8 0, .int .u8 0, .int .u8 0, .int .u8 0, .int .u8 0, .int .u8 0, .int .u8 0, .int .i64 0, .int .i64 0, .int .i64 0, .int .i64 0, .int .i64 0, .int .i64 0, .bool false, .bool false]
      have hbA : Below wr.heap.size wr (wr.alloc (.cells #[.int .u8 0, .int .i64 0, .int .u8 0, .int .u8 0, .int .u8 0, .int .u8 0, .int .u8 0, .int .u8 0, .int .u8 0, .int .u8 0, .int .u8 0, .int .u8 0, .int .u8 0, .int .u8 0, .int .u8 0, .int .u8 0, .int .u8 0, .int .u8 0, .int .i64 0, .int .i64 0, .int .i64 0, .int .i64 0, .int .i64 0, .int .i64 0, .bool false, .bool false] 50)) := (Below.refl _ _).alloc (Nat.le_refl _) _
      go_wp2_with (first
        | ((with_reducible refine at_load 50 (.tmp 62) ?_); refine wpList_load_midW rfl 50 (.tmp 62) rfl b (off + i * 26) rfl [.int .u8 (x.d.toNat : Int), .int .i64 x.port, .int .u8 ((x.w.r.f 0).toNat : Int), .int .u8 ((x.w.r.f 1).toNat : Int), .int .u8 ((x.w.r.f 2).toNat : Int), .int .u8 ((x.w.r.f 3).toNat : Int), .int .u8 ((x.w.r.f 4).toNat : Int), .int .u8 ((x.w.r.f 5).toNat : Int), .int .u8 ((x.w.r.f 6).toNat : Int), .int .u8 ((x.w.r.f 7).toNat : Int), .int .u8 ((x.w.b.f 0).toNat : Int), .int .u8 ((x.w.b.f 1).toNat : Int), .int .u8 ((x.w.b.f 2).toNat : Int), .int .u8 ((x.w.b.f 3).toNat : Int), .int .u8 ((x.w.b.f 4).toNat : Int), .int .u8 ((x.w.b.f 5).toNat : Int), .int .u8 ((x.w.b.f 6).toNat : Int), .int .u8 ((x.w.b.f 7).toNat : Int), .int .i64 x.w.c, .int .i64 x.w.p, .int .i64 x.w.age, .int .i64 x.w.ma, .int .i64 x.w.he, .int .i64 x.w.de, .bool x.w.ch, .bool x.w.ak] _ HXR.out Try.underlying50 rfl (by kernel_rfl) ?_)
        | ((with_reducible refine at_store 50 (.tmp 15) (.tmp 63) ?_); refine wpList_store_own rfl 50 (.tmp 15) (.tmp 63) rfl (wr.heap.size) _ rfl rfl _ _ RA0 (by kernel_rfl) rfl (by simp [Value.oneCell']) wr.heap.size (Nat.le_refl _) ?_))
      intro w5 hR5 ho5 hs5 hb5
      have hb5 := hbA.trans hb5
      have RA5 := Lib.hid hR5
      have HW5 := Lib.hid (HW.out.later hb5)
      have RU5 := Lib.hid (RU.out.kept hb5)
      have hbR5 := hbR.trans (hb5.mono (Nat.le_trans HW.out.hB (Nat.le_of_lt HW.out.row.lt)))
      have hxa : wr.heap.size < w5.heap.size := RA5.out.lt
      have HXN : Hid (wr.heap.size ∉ S :: pbs) := fun hm => by
        have hl := HW.out.lt
        rcases List.mem_cons.1 hm with e | e
        · omega
        · have := hl.2 _ e
          omega
      have hUx : U ≠ wr.heap.size := by
        have := RU.out.lt
        omega
      clear RA0 hbA hR5 ho5 hs5 hb5 HW RU hbR HXR hbW HDO hbl
      generalize wr.heap.size = xb at *
      have HDO := Lib.hid (do_any BB S g cp pbs w5 si HW5.out _ HOKI.out (by omega) x (wf_i64 hxok.1))
      go_wp2_with ((with_reducible refine at_load 50 (.tmp 15) ?_); refine wpList_load_own rfl 50 (.tmp 15) rfl (xb) rfl _ _ _ RA5.out Try.underlying50 rfl (by kernel_rfl) ?_)
      refine HDO.out.mono ?_
      rintro e w6 ⟨v, rfl, hO, hA6, hb6, ho6⟩
      have HO6 := Lib.hid (hO.lower (Nat.le_refl _))
      have HA6 := Lib.hid hA6
      have RA6 : Hid (RowIs w6 xb 50 #[.int .u8 (x.d.toNat : Int), .int .i64 x.port, .int .u8 ((x.w.r.f 0).toNat : Int), .int .u8 ((x.w.r.f 1).toNat : Int), .int .u8 ((x.w.r.f 2).toNat : Int), .int .u8 ((x.w.r.f 3).toNat : Int), .int .u8 ((x.w.r.f 4).toNat : Int), .int .u8 ((x.w.r.f 5).toNat : Int), .int .u8 ((x.w.r.f 6).toNat : Int), .int .u8 ((x.w.r.f 7).toNat : Int), .int .u8 ((x.w.b.f 0).toNat : Int), .int .u8 ((x.w.b.f 1).toNat : Int), .int .u8 ((x.w.b.f 2).toNat : Int), .int .u8 ((x.w.b.f 3).toNat : Int), .int .u8 ((x.w.b.f 4).toNat : Int), .int .u8 ((x.w.b.f 5).toNat : Int), .int .u8 ((x.w.b.f 6).toNat : Int), .int .u8 ((x.w.b.f 7).toNat : Int), .int .i64 x.w.c, .int .i64 x.w.p, .int .i64 x.w.age, .int .i64 x.w.ma, .int .i64 x.w.he, .int .i64 x.w.de, .bool x.w.ch, .bool x.w.ak]) := rowIs_same RA5.out (ho6.2 _ RA5.out.lt HXN.out)
      have RU6 : Hid (RowIs w6 U 4 (upsA si)) := rowIs_same RU5.out (ho6.2 _ RU5.out.lt HUN.out)
      have hbR6 := hbR5.trans hb6
      clear hO hA6 hb6 ho6 HDO HW5 RA5 RU5 hbR5 hxa
      have HKD : Hid (x.kind = x.d.toNat % 8) := rfl
      generalize (si.act x).2 = outs at *
      rw [← HN.out] at HSM HUS HDA HTO HA6
      have HDN' : Hid (DownOk (runF s0 acts (i + 1))) := HDA
      generalize hsn : runF s0 acts (i + 1) = sn at *
      have HSN := Lib.hid hsn
      clear hsn HDA
      obtain ⟨oa, oc, rfl, _⟩ := HO6.out
      have c0 : w6.cell? ⟨xb, 0, none⟩ = some (.int .u8 (x.d.toNat : Int)) := RA6.out.cell 0
      have c1 : w6.cell? ⟨xb, 1, none⟩ = some (.int .i64 x.port) := RA6.out.cell 1
      go_upto_region 12 with fail
      go_cut [76] (fun v wx => v = .bool (si.has x.port) ∧ w6 = wx)
      case first =>
        cases h0 : decide (0 ≤ x.port)
        · rw [h0] at HHAS
          have HHAS : Hid (si.has x.port = false) := HHAS.out
          go_wp2_with fail
          go_meet
          exact ⟨by rw [HHAS.out], rfl⟩
        · rw [h0] at HHAS
          have HHAS : Hid (si.has x.port = decide (x.port < (zs.length : Int))) := HHAS.out
          go_wp2_with fail
          go_meet
          exact ⟨by rw [HHAS.out], rfl⟩
      case rest =>
       obtain ⟨rfl, rfl⟩ := hcut
       go_upto_if 76 with fail
       go_cut [15] (fun v wx => v = .pointer (some ⟨xb, 0, none⟩) ∧ Hid (SpAt BB S g cp pbs wx sn) ∧ Hid (RowIs wx U 4 (upsA sn)) ∧ Below BB w3 wx ∧ Hid (OutAt wx w5.heap.size (.slice oa outs.length oc) outs))
       case first =>
        as_aux_lemma =>
        cases hh : si.has x.port
        · have HUS : Hid (upsA sn = upsA si) := by
            show _ = _
            rw [HUS.out, if_neg (fun h => by rw [hh] at h; cases h.1), if_neg (fun h => by rw [hh] at h; cases h.1)]
          rw [← HUS.out] at RU6
          clear hh
          go_wp2_with fail
          go_meet
          exact ⟨rfl, HA6, RU6, hbR6, HO6⟩
        · obtain ⟨p, hxp, hpz⟩ := si.has_true _ hh
          rw [hxp] at c1
          have hpu : p < (upsA si).size := by rw [upsA_size]; exact hpz
          have HUE := Lib.hid HUS.out
          rw [hh, hxp, Int.toNat_natCast] at HUE
          have HXP := Lib.hid hxp
          have hpzs : p < zs.length := by rw [← HSL.out]; exact hpz
          clear hh hxp hpz HUS
          by_cases h2 : x.kind = 2
          · have HUS : Hid (upsA sn = (upsA si).setIfInBounds p (.bool true)) := by show _ = _; rw [HUE.out, if_pos ⟨rfl, h2⟩]
            have e2 : ((x.d.toNat : Int) % 8 == 2) = true := by have := HKD.out; rw [beq_iff_eq]; omega
            have e3 : ((x.d.toNat : Int) % 8 == 3) = false := by have := HKD.out; rw [beq_eq_false_iff_ne]; omega
            clear h2
            go_wp2_with ((with_reducible refine at_store 4 (.tmp 84) (.const (.bool true)) ?_); refine wpList_store_cell rfl 4 (.tmp 84) (.const (.bool true)) rfl U p _ rfl rfl 4 _ RU6.out hpu (by kernel_rfl) rfl BB hBw3 ?_)
            intro w8 hR8 ho8 hs8 hb8
            have HA8 := Lib.hid (HA6.out.other RU6.out ho8)
            have HO8 := Lib.hid (HO6.out.other RU6.out ho8)
            have RU8 : Hid (RowIs w8 U 4 (upsA sn)) := by
              show RowIs _ _ _ _
              rw [HUS.out]
              exact hR8
            have hbR8 := hbR6.trans hb8
            have ho8x := ho8
            clear hR8 ho8 hs8 hb8 HA6 HO6 RU6 hbR6
            have c0 : w8.cell? ⟨xb, 0, none⟩ = some (.int .u8 (x.d.toNat : Int)) := (rowIs_same RA6.out (ho8x _ (Ne.symm hUx))).cell 0
            go_wp2_with fail
            go_meet
            exact ⟨rfl, HA8, RU8, hbR8, HO8⟩
          · have e2 : ((x.d.toNat : Int) % 8 == 2) = false := by have := HKD.out; rw [beq_eq_false_iff_ne]; omega
            by_cases h3 : x.kind = 3
            · have HUS : Hid (upsA sn = (upsA si).setIfInBounds p (.bool false)) := by show _ = _; rw [HUE.out, if_neg (fun h => h2 h.2), if_pos ⟨rfl, h3⟩]
              have e3 : ((x.d.toNat : Int) % 8 == 3) = true := by have := HKD.out; rw [beq_iff_eq]; omega
              clear h2 h3
              go_wp2_with ((with_reducible refine at_store 4 (.tmp 92) (.const (.bool false)) ?_); refine wpList_store_cell rfl 4 (.tmp 92) (.const (.bool false)) rfl U p _ rfl rfl 4 _ RU6.out hpu (by kernel_rfl) rfl BB hBw3 ?_)
              intro w8 hR8 ho8 hs8 hb8
              have HA8 := Lib.hid (HA6.out.other RU6.out ho8)
              have HO8 := Lib.hid (HO6.out.other RU6.out ho8)
              have RU8 : Hid (RowIs w8 U 4 (upsA sn)) := by
                show RowIs _ _ _ _
                rw [HUS.out]
                exact hR8
              have hbR8 := hbR6.trans hb8
              clear hR8 ho8 hs8 hb8 HA6 HO6 RU6 hbR6
              go_wp2_with fail
              go_meet
              exact ⟨rfl, HA8, RU8, hbR8, HO8⟩
            · have HUS : Hid (upsA sn = upsA si) := by show _ = _; rw [HUE.out, if_neg (fun h => h2 h.2), if_neg (fun h => h3 h.2)]
              have e3 : ((x.d.toNat : Int) % 8 == 3) = false := by have := HKD.out; rw [beq_eq_false_iff_ne]; omega
              clear h2 h3
              rw [← HUS.out] at RU6
              go_wp2_with fail
              go_meet
              exact ⟨rfl, HA6, RU6, hbR6, HO6⟩
       case rest =>
        obtain ⟨rfl, HA7, RU7, hbR7, HO7⟩ := hcut
        obtain ⟨oa', oc', e7, hmany⟩ := HO7.out.many
        cases e7
        have HM7 := Lib.hid hmany
        clear hmany HO7
        clear HA6 RA6 RU6 hbR6 HO6 c0 c1 HUS HHAS
        generalize wc = w7 at *
        have hln : (upsA sn).size = zs.length := by rw [upsA_size]; exact HSM.out
        have HLN := Lib.hid hln
        clear hln
        go_wp2_with fail
        go_loopw [17] (fun s17 wx => ∃ k : Nat, k ≤ outs.length ∧ s17 = .int .i64 k ∧ w7 = wx) (fun s17 _ => outs.length - (intOf s17).toNat)
        case atStart => exact ⟨0, Nat.zero_le _, rfl, rfl⟩
        case round =>
          obtain ⟨k, hk, rfl, rfl⟩ := hrel
          by_cases hkl : k < outs.length
          · obtain ⟨b9, off9, hoa, hbl9, hcell9⟩ := HM7.out.range hkl
            obtain ⟨ht1, ht2⟩ := HTO.out outs[k] (List.getElem_mem hkl)
            have hu := upsA_get sn outs[k].port (by rw [HSM.out]; exact ht1)
            rw [ht2] at hu
            subst hoa
            generalize outs[k] = o at *
            have q0 : w7.cell? ⟨b9, off9 + k * 25, none⟩ = some (.int .i64 (o.port : Nat)) := hcell9 0 _ rfl
            have q1 : w7.cell? ⟨U, o.port, none⟩ = some (.bool true) := by rw [RU7.out.cell]; exact hu
            clear hu ht2 hcell9
            go_wp2_with fail
            refine ⟨⟨k + 1, by omega, by go_num, trivial⟩, by simp [intOf]; omega⟩
          · as_aux_lemma =>
            obtain rfl : k = outs.length := by omega
            go_wp2_with fail
            clear HM7 HTO
            have hpl : pbs.length = zs.length := by
              have := HA7.out.len
              rw [HSM.out] at this
              exact this
            have hplz : pbs.length ≤ 1000 := by omega
            clear hpl
            go_loopw [18] (fun s18 wx => ∃ p : Nat, p ≤ zs.length ∧ s18 = .int .i64 p ∧ Hid (SpAt BB S g cp pbs wx sn) ∧ Hid (RowIs wx U 4 (upsA sn)) ∧ Below BB w3 wx) (fun s18 _ => zs.length - (intOf s18).toNat)
            case atStart => exact ⟨0, Nat.zero_le _, rfl, HA7, RU7, hbR7⟩
            case round =>
              clear HA7 RU7 hbR7
              rename World => wx
              obtain ⟨p, hp, rfl, HA7, RU7, hbR7⟩ := hrel
              by_cases hpz : p < zs.length
              · have hu := upsA_get sn p (by rw [HSM.out]; exact hpz)
                have q1 : wx.cell? ⟨U, p, none⟩ = some (.bool (sn.port p).up) := by rw [RU7.out.cell]; exact hu
                clear hu
                have HDP := Lib.hid (HDN'.out p (by rw [HSM.out]; exact hpz))
                have HTD := Lib.hid (take_down sn p q (by rw [HSM.out]; exact hpz))
                have HRA := Lib.hid (roleAt_nat sn p (by rw [HSM.out]; exact hpz))
                generalize (sn.port p).up = up at *
                cases up
                · have HDQ : Hid (sn.roleAt (p : Nat) = 0 ∧ sn.stateAt (p : Nat) = 0) := by
                    have := HDP.out rfl
                    exact ⟨HRA.out.1.trans this.1, HRA.out.2.trans this.2⟩
                  have HTD := Lib.hid (HTD.out rfl)
                  have HRT := Lib.hid (root_any BB S g cp pbs wx sn HA7.out)
                  go_wp2_with fail
                  refine HRT.out.mono ?_
                  rintro e w7 ⟨rfl, hb7⟩
                  have RN : RowIs (w7.alloc (.cells #[.int .u8 0, .int .u8 0, .int .u8 0, .int .u8 0, .int .u8 0, .int .u8 0, .int .u8 0, .int .u8 0, .int .i64 0, .int .u8 0, .int .u8 0, .int .u8 0, .int .u8 0, .int .u8 0, .int .u8 0, .int .u8 0, .int .u8 0, .int .i64 0] 38)) w7.heap.size 38 #[.int .u8 0, .int .u8 0, .int .u8 0, .int .u8 0, .int .u8 0, .int .u8 0, .int .u8 0, .int .u8 0, .int .i64 0, .int .u8 0, .int .u8 0, .int .u8 0, .int .u8 0, .int .u8 0, .int .u8 0, .int .u8 0, .int .u8 0, .int .i64 0] := rowIs_new w7 _ _
                  have hbN : Below w7.heap.size w7 (w7.alloc (.cells #[.int .u8 0, .int .u8 0, .int .u8 0, .int .u8 0, .int .u8 0, .int .u8 0, .int .u8 0, .int .u8 0, .int .i64 0, .int .u8 0, .int .u8 0, .int .u8 0, .int .u8 0, .int .u8 0, .int .u8 0, .int .u8 0, .int .u8 0, .int .i64 0] 38)) := (Below.refl _ _).alloc (Nat.le_refl _) _
                  go_wp2_with ((with_reducible refine at_store 38 (.tmp 19) (.tmp 122) ?_); refine wpList_store_own rfl 38 (.tmp 19) (.tmp 122) rfl (w7.heap.size) _ rfl rfl _ _ RN (by kernel_rfl) rfl (by simp [Value.oneCell']) w7.heap.size (Nat.le_refl _) ?_)
                  intro w8 hR8 ho8 hs8 hb8
                  have hb8 := hb7.trans ((hbN.trans hb8).mono hb7.size)
                  have RV8 := Lib.hid hR8
                  have HA8 := Lib.hid (HA7.out.later hb8)
                  have RU8 := Lib.hid (RU7.out.kept hb8)
                  have hbR8 := hbR7.trans (hb8.mono (Nat.le_trans HA7.out.hB (Nat.le_of_lt HA7.out.row.lt)))
                  have hvS : Hid (w7.heap.size ∉ S :: pbs) := fun hm => by
                    have hl := HA7.out.lt
                    have := hb7.size
                    rcases List.mem_cons.1 hm with e | e
                    · omega
                    · have := hl.2 _ e
                      omega
                  have hvU : U ≠ w7.heap.size := by
                    have := RU7.out.lt
                    have := hb7.size
                    omega
                  clear RN hbN hR8 ho8 hs8 hb7 hb8 HA7 RU7 hbR7 q1 HRT
                  generalize w7.heap.size = vb at *
                  have RW8 : Hid (RowIs w8 (w.heap.size + 2) 48 #[.int .u8 ((q.r.f 0).toNat : Int), .int .u8 ((q.r.f 1).toNat : Int), .int .u8 ((q.r.f 2).toNat : Int), .int .u8 ((q.r.f 3).toNat : Int), .int .u8 ((q.r.f 4).toNat : Int), .int .u8 ((q.r.f 5).toNat : Int), .int .u8 ((q.r.f 6).toNat : Int), .int .u8 ((q.r.f 7).toNat : Int), .int .u8 ((q.b.f 0).toNat : Int), .int .u8 ((q.b.f 1).toNat : Int), .int .u8 ((q.b.f 2).toNat : Int), .int .u8 ((q.b.f 3).toNat : Int), .int .u8 ((q.b.f 4).toNat : Int), .int .u8 ((q.b.f 5).toNat : Int), .int .u8 ((q.b.f 6).toNat : Int), .int .u8 ((q.b.f 7).toNat : Int), .int .i64 q.c, .int .i64 q.p, .int .i64 q.age, .int .i64 q.ma, .int .i64 q.he, .int .i64 q.de, .bool q.ch, .bool q.ak]) := (hbR8.block _ (by omega)).trans RW3.out
                  go_wp2_with ((with_reducible refine at_load 48 (.tmp 9) ?_); refine wpList_load_own rfl 48 (.tmp 9) rfl (w.heap.size + 2) rfl _ _ _ RW8.out Try.underlying48 rfl (by kernel_rfl) ?_)
                  refine (of_any q w8).mono ?_
                  rintro e w9 ⟨rfl, hb9⟩
                  have HA9 := Lib.hid (HA8.out.later hb9)
                  have RU9 := Lib.hid (RU8.out.kept hb9)
                  have RV9 := Lib.hid (RV8.out.kept hb9)
                  have hbR9 := hbR8.trans (hb9.mono (Nat.le_trans HA8.out.hB (Nat.le_of_lt HA8.out.row.lt)))
                  clear hb9 HA8 RU8 RV8 hbR8 RW8
                  have HOKN := Lib.hid (runF_ok HOK.out acts (i + 1))
                  rw [HSN.out] at HOKN
                  have HTK := Lib.hid (take_any BB S g cp pbs w9 sn HA9.out _ HOKN.out (by omega) (p : Int) (wf_nat p (by omega)) q)
                  rw [HTD.out] at HTK
                  go_wp2_with fail
                  refine HTK.out.mono ?_
                  rintro e w10 ⟨v10, rfl, hO10, hA10, hb10, ho10⟩
                  obtain ⟨la10, lc10, rfl, _⟩ := hO10
                  have HA10 : Hid (SpAt BB S g cp pbs w10 sn) := hA10
                  have RU10 : Hid (RowIs w10 U 4 (upsA sn)) := rowIs_same RU9.out (ho10.2 _ RU9.out.lt HUN.out)
                  have RV10 : Hid (RowIs w10 vb 38 #[.int .u8 ((sn.best.r.f 0).toNat : Int), .int .u8 ((sn.best.r.f 1).toNat : Int), .int .u8 ((sn.best.r.f 2).toNat : Int), .int .u8 ((sn.best.r.f 3).toNat : Int), .int .u8 ((sn.best.r.f 4).toNat : Int), .int .u8 ((sn.best.r.f 5).toNat : Int), .int .u8 ((sn.best.r.f 6).toNat : Int), .int .u8 ((sn.best.r.f 7).toNat : Int), .int .i64 sn.best.c, .int .u8 ((sn.best.b.f 0).toNat : Int), .int .u8 ((sn.best.b.f 1).toNat : Int), .int .u8 ((sn.best.b.f 2).toNat : Int), .int .u8 ((sn.best.b.f 3).toNat : Int), .int .u8 ((sn.best.b.f 4).toNat : Int), .int .u8 ((sn.best.b.f 5).toNat : Int), .int .u8 ((sn.best.b.f 6).toNat : Int), .int .u8 ((sn.best.b.f 7).toNat : Int), .int .i64 sn.best.p]) := rowIs_same RV9.out (ho10.2 _ RV9.out.lt hvS.out)
                  have hbR10 := hbR9.trans hb10
                  clear hA10 hb10 ho10 HTK HA9 RU9 RV9 hbR9
                  have HST := Lib.hid (stateAt_any BB S g cp pbs w10 sn HA10.out hplz (p : Int) (wf_nat p (by omega)))
                  have HRO := Lib.hid (roleAt_any BB S g cp pbs w10 sn HA10.out hplz (p : Int) (wf_nat p (by omega)))
                  rw [HDQ.out.1] at HRO
                  rw [HDQ.out.2] at HST
                  go_wp2_with fail
                  refine HST.out.mono ?_
                  rintro e w11 ⟨rfl, rfl⟩
                  go_wp2_with fail
                  refine HRO.out.mono ?_
                  rintro e w11 ⟨rfl, rfl⟩
                  have HRT := Lib.hid (root_any BB S g cp pbs w10 sn HA10.out)
                  go_wp2_with fail
                  refine HRT.out.mono ?_
                  rintro e wa ⟨rfl, hb11⟩
                  have RN : RowIs (wa.alloc (.cells #[.int .u8 0, .int .u8 0, .int .u8 0, .int .u8 0, .int .u8 0, .int .u8 0, .int .u8 0, .int .u8 0, .int .i64 0, .int .u8 0, .int .u8 0, .int .u8 0, .int .u8 0, .int .u8 0, .int .u8 0, .int .u8 0, .int .u8 0, .int .i64 0] 38)) wa.heap.size 38 #[.int .u8 0, .int .u8 0, .int .u8 0, .int .u8 0, .int .u8 0, .int .u8 0, .int .u8 0, .int .u8 0, .int .i64 0, .int .u8 0, .int .u8 0, .int .u8 0, .int .u8 0, .int .u8 0, .int .u8 0, .int .u8 0, .int .u8 0, .int .i64 0] := rowIs_new wa _ _
                  have hbN : Below wa.heap.size wa (wa.alloc (.cells #[.int .u8 0, .int .u8 0, .int .u8 0, .int .u8 0, .int .u8 0, .int .u8 0, .int .u8 0, .int .u8 0, .int .i64 0, .int .u8 0, .int .u8 0, .int .u8 0, .int .u8 0, .int .u8 0, .int .u8 0, .int .u8 0, .int .u8 0, .int .i64 0] 38)) := (Below.refl _ _).alloc (Nat.le_refl _) _
                  go_wp2_with ((with_reducible refine at_store 38 (.tmp 21) (.tmp 146) ?_); refine wpList_store_own rfl 38 (.tmp 21) (.tmp 146) rfl (wa.heap.size) _ rfl rfl _ _ RN (by kernel_rfl) rfl (by simp [Value.oneCell']) wa.heap.size (Nat.le_refl _) ?_)
                  intro w12 hR12 ho12 hs12 hb12
                  have hb12 := hb11.trans ((hbN.trans hb12).mono hb11.size)
                  have RY12 := Lib.hid hR12
                  have RV12 := Lib.hid (RV10.out.kept hb12)
                  have HA12 := Lib.hid (HA10.out.later hb12)
                  have RU12 := Lib.hid (RU10.out.kept hb12)
                  have hbR12 := hbR10.trans (hb12.mono (Nat.le_trans HA10.out.hB (Nat.le_of_lt HA10.out.row.lt)))
                  clear RN hbN hR12 ho12 hs12 hb11 hb12 HA10 RU10 RV10 hbR10 HRT HST HRO
                  generalize wa.heap.size = vc at *
                  have m1 : ∀ w, (Op.equalIn 10000 38 (.agg #[.int .u8 ((sn.best.r.f 0).toNat : Int), .int .u8 ((sn.best.r.f 1).toNat : Int), .int .u8 ((sn.best.r.f 2).toNat : Int), .int .u8 ((sn.best.r.f 3).toNat : Int), .int .u8 ((sn.best.r.f 4).toNat : Int), .int .u8 ((sn.best.r.f 5).toNat : Int), .int .u8 ((sn.best.r.f 6).toNat : Int), .int .u8 ((sn.best.r.f 7).toNat : Int), .int .i64 sn.best.c, .int .u8 ((sn.best.b.f 0).toNat : Int), .int .u8 ((sn.best.b.f 1).toNat : Int), .int .u8 ((sn.best.b.f 2).toNat : Int), .int .u8 ((sn.best.b.f 3).toNat : Int), .int .u8 ((sn.best.b.f 4).toNat : Int), .int .u8 ((sn.best.b.f 5).toNat : Int), .int .u8 ((sn.best.b.f 6).toNat : Int), .int .u8 ((sn.best.b.f 7).toNat : Int), .int .i64 sn.best.p]) (.agg #[.int .u8 ((sn.best.r.f 0).toNat : Int), .int .u8 ((sn.best.r.f 1).toNat : Int), .int .u8 ((sn.best.r.f 2).toNat : Int), .int .u8 ((sn.best.r.f 3).toNat : Int), .int .u8 ((sn.best.r.f 4).toNat : Int), .int .u8 ((sn.best.r.f 5).toNat : Int), .int .u8 ((sn.best.r.f 6).toNat : Int), .int .u8 ((sn.best.r.f 7).toNat : Int), .int .i64 sn.best.c, .int .u8 ((sn.best.b.f 0).toNat : Int), .int .u8 ((sn.best.b.f 1).toNat : Int), .int .u8 ((sn.best.b.f 2).toNat : Int), .int .u8 ((sn.best.b.f 3).toNat : Int), .int .u8 ((sn.best.b.f 4).toNat : Int), .int .u8 ((sn.best.b.f 5).toNat : Int), .int .u8 ((sn.best.b.f 6).toNat : Int), .int .u8 ((sn.best.b.f 7).toNat : Int), .int .i64 sn.best.p])).run Try.prog w = .ok true w := fun w => by
                    have h := run_equalIn_sv 9997 sn.best sn.best w
                    rw [decide_eq_true rfl] at h
                    exact h
                  go_wp2_with (first
                    | ((with_reducible refine at_load 38 (.tmp 21) ?_); refine wpList_load_own rfl 38 (.tmp 21) rfl (vc) rfl _ _ _ RY12.out Try.underlying38 rfl (by kernel_rfl) ?_)
                    | ((with_reducible refine at_load 38 (.tmp 19) ?_); refine wpList_load_own rfl 38 (.tmp 19) rfl (vb) rfl _ _ _ RV12.out Try.underlying38 rfl (by kernel_rfl) ?_))
                  refine ⟨⟨p + 1, by omega, by go_num, HA12, RU12, hbR12⟩, by simp [intOf]; omega⟩
                  all_goals trivial
                · clear HDP HTD HRA
                  go_wp2_with fail
                  refine ⟨⟨p + 1, by omega, by go_num, HA7, RU7, hbR7⟩, by simp [intOf]; omega⟩
              · obtain rfl : p = zs.length := by omega
                go_wp2_with fail
                refine ⟨⟨i + 1, by omega, by go_num, by rw [HSN.out]; exact HA7, by rw [HSN.out]; exact HDN', by rw [HSN.out]; exact RU7, hbR7⟩, by simp [intOf]; omega⟩
    · have hbFin := hbf.trans (hbR.mono hBB)
      clear hbf hbR HW
      go_wp2_with fail
      go_ret
      exact ⟨rfl, hbFin⟩

set_option maxHeartbeats 1000000 in
theorem spanDown_walk (f : Nat → UInt8) (a0 : Option Addr) (zs : List Int) (cap0 : Nat) (ma he de : Int) (a1 : Option Addr) (acts : List ActS) (cap1 : Nat) (wr wb : Nat → UInt8) (co po ag wma whe wde : Int) (ch ak : Bool) (w : World) (hA0 : IntsAt w a0 zs) (_ : zs.length ≤ 9223372036854775807) (_ : I64 ma ∧ I64 he ∧ I64 de) (hA1 : ManyAt w a1 ActS.cells 26 acts) (_ : acts.length ≤ 9223372036854775807) (hA2 : ∀ a ∈ acts, a.ok) :
    Calls Try.prog 5 #[.agg #[.int .u8 ((f 0).toNat : Int), .int .u8 ((f 1).toNat : Int), .int .u8 ((f 2).toNat : Int), .int .u8 ((f 3).toNat : Int), .int .u8 ((f 4).toNat : Int), .int .u8 ((f 5).toNat : Int), .int .u8 ((f 6).toNat : Int), .int .u8 ((f 7).toNat : Int)], .slice a0 zs.length cap0, .agg #[.int .i64 ma, .int .i64 he, .int .i64 de], .slice a1 acts.length cap1, .agg #[.int .u8 ((wr 0).toNat : Int), .int .u8 ((wr 1).toNat : Int), .int .u8 ((wr 2).toNat : Int), .int .u8 ((wr 3).toNat : Int), .int .u8 ((wr 4).toNat : Int), .int .u8 ((wr 5).toNat : Int), .int .u8 ((wr 6).toNat : Int), .int .u8 ((wr 7).toNat : Int), .int .u8 ((wb 0).toNat : Int), .int .u8 ((wb 1).toNat : Int), .int .u8 ((wb 2).toNat : Int), .int .u8 ((wb 3).toNat : Int), .int .u8 ((wb 4).toNat : Int), .int .u8 ((wb 5).toNat : Int), .int .u8 ((wb 6).toNat : Int), .int .u8 ((wb 7).toNat : Int), .int .i64 co, .int .i64 po, .int .i64 ag, .int .i64 wma, .int .i64 whe, .int .i64 wde, .bool ch, .bool ak]] w fun e w' => e = .returned (.bool true) ∧ Below w.heap.size w w' := by
  have key : ∀ (id : Id8) (q : SW), Calls Try.prog 5 #[.agg #[.int .u8 ((id.f 0).toNat : Int), .int .u8 ((id.f 1).toNat : Int), .int .u8 ((id.f 2).toNat : Int), .int .u8 ((id.f 3).toNat : Int), .int .u8 ((id.f 4).toNat : Int), .int .u8 ((id.f 5).toNat : Int), .int .u8 ((id.f 6).toNat : Int), .int .u8 ((id.f 7).toNat : Int)], .slice a0 zs.length cap0, .agg #[.int .i64 ma, .int .i64 he, .int .i64 de], .slice a1 acts.length cap1, .agg #[.int .u8 ((q.r.f 0).toNat : Int), .int .u8 ((q.r.f 1).toNat : Int), .int .u8 ((q.r.f 2).toNat : Int), .int .u8 ((q.r.f 3).toNat : Int), .int .u8 ((q.r.f 4).toNat : Int), .int .u8 ((q.r.f 5).toNat : Int), .int .u8 ((q.r.f 6).toNat : Int), .int .u8 ((q.r.f 7).toNat : Int), .int .u8 ((q.b.f 0).toNat : Int), .int .u8 ((q.b.f 1).toNat : Int), .int .u8 ((q.b.f 2).toNat : Int), .int .u8 ((q.b.f 3).toNat : Int), .int .u8 ((q.b.f 4).toNat : Int), .int .u8 ((q.b.f 5).toNat : Int), .int .u8 ((q.b.f 6).toNat : Int), .int .u8 ((q.b.f 7).toNat : Int), .int .i64 q.c, .int .i64 q.p, .int .i64 q.age, .int .i64 q.ma, .int .i64 q.he, .int .i64 q.de, .bool q.ch, .bool q.ak]] w fun e w' => e = .returned (.bool true) ∧ Below w.heap.size w w' := by
    intro id q
    by_cases h1 : 60 < acts.length
    · exact spanDown_long id a0 zs cap0 ma he de a1 acts cap1 q w h1
    · by_cases h2 : 100 < zs.length
      · exact spanDown_wide id a0 zs cap0 ma he de a1 acts cap1 q w (by omega) h2
      · cases h3 : newOk zs ma he de
        · exact spanDown_bad id a0 zs cap0 ma he de a1 acts cap1 q w (by omega) (by omega) hA0 h3
        · exact spanDown_go id a0 zs cap0 ma he de a1 acts cap1 q w (by omega) (by omega) hA0 hA1 hA2 h3
  exact key (Id8.of f) ⟨Id8.of wr, Id8.of wb, co, po, ag, wma, whe, wde, ch, ak⟩
end Go.Proofs.Ytnpoholeemcklaa
