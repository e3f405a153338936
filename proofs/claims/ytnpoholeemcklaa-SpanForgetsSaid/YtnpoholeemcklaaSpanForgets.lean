/- SpanForgets: the walk. By an AI agent. -/
import Derived.Test.YtnpoholeemcklaaSpanForget0
namespace Go.Proofs.Ytnpoholeemcklaa
open Go.RowKit Go.WideShapes Go.Sort Grow

set_option maxRecDepth 20000 in
set_option maxHeartbeats 2000000 in
theorem spanForgets_long (id : Id8) (a0 : Option Addr) (zs : List Int) (cap0 : Nat) (ma he de : Int) (a1 : Option Addr) (acts : List ActS) (cap1 : Nat) (w : World) (hl : 60 < acts.length) :
    Calls Try.prog 4 #[.agg #[.int .u8 ((id.f 0).toNat : Int), .int .u8 ((id.f 1).toNat : Int), .int .u8 ((id.f 2).toNat : Int), .int .u8 ((id.f 3).toNat : Int), .int .u8 ((id.f 4).toNat : Int), .int .u8 ((id.f 5).toNat : Int), .int .u8 ((id.f 6).toNat : Int), .int .u8 ((id.f 7).toNat : Int)], .slice a0 zs.length cap0, .agg #[.int .i64 ma, .int .i64 he, .int .i64 de], .slice a1 acts.length cap1] w fun e w' => e = .returned (.bool true) ∧ Below w.heap.size w w' := by
  have g1 : decide ((60 : Int) < (acts.length : Int)) = true := decide_eq_true (by omega)
  go_enter Try.func4, Try.ntmps4
  go_upto_region 1 with fail
  generalize hW : (w.alloc _).alloc _ = W
  have hb : Below w.heap.size w W := by rw [← hW]; exact BX2 w _ _
  clear hW
  go_wp2_with fail
  refine (awake_any _).mono ?_
  rintro e w1 ⟨rfl, hb1⟩
  go_wp2_with fail
  refine (awake_any _).mono ?_
  rintro e w2 ⟨rfl, hb2⟩
  have hbf : Below w.heap.size w w2 := (hb.trans (hb1.mono hb.size)).trans (hb2.mono (Nat.le_trans hb.size hb1.size))
  clear hb hb1 hb2
  go_wp2_with fail
  go_ret
  exact ⟨rfl, hbf⟩

set_option maxRecDepth 20000 in
set_option maxHeartbeats 2000000 in
theorem spanForgets_wide (id : Id8) (a0 : Option Addr) (zs : List Int) (cap0 : Nat) (ma he de : Int) (a1 : Option Addr) (acts : List ActS) (cap1 : Nat) (w : World) (ha : acts.length ≤ 60) (hl : 100 < zs.length) :
    Calls Try.prog 4 #[.agg #[.int .u8 ((id.f 0).toNat : Int), .int .u8 ((id.f 1).toNat : Int), .int .u8 ((id.f 2).toNat : Int), .int .u8 ((id.f 3).toNat : Int), .int .u8 ((id.f 4).toNat : Int), .int .u8 ((id.f 5).toNat : Int), .int .u8 ((id.f 6).toNat : Int), .int .u8 ((id.f 7).toNat : Int)], .slice a0 zs.length cap0, .agg #[.int .i64 ma, .int .i64 he, .int .i64 de], .slice a1 acts.length cap1] w fun e w' => e = .returned (.bool true) ∧ Below w.heap.size w w' := by
  have g1 : decide ((60 : Int) < (acts.length : Int)) = false := decide_eq_false (by omega)
  have g2 : decide ((zs.length : Int) ≤ 100) = false := decide_eq_false (by omega)
  go_enter Try.func4, Try.ntmps4
  go_upto_region 1 with fail
  generalize hW : (w.alloc _).alloc _ = W
  have hb : Below w.heap.size w W := by rw [← hW]; exact BX2 w _ _
  clear hW
  go_wp2_with fail
  refine (awake_any _).mono ?_
  rintro e w1 ⟨rfl, hb1⟩
  go_wp2_with fail
  refine (few_any _ _ _ _).mono ?_
  rintro e w2 ⟨rfl, rfl⟩
  go_wp2_with fail
  refine (awake_any _).mono ?_
  rintro e w2 ⟨rfl, hb2⟩
  have hbf : Below w.heap.size w w2 := (hb.trans (hb1.mono hb.size)).trans (hb2.mono (Nat.le_trans hb.size hb1.size))
  clear hb hb1 hb2
  go_wp2_with fail
  go_ret
  exact ⟨rfl, hbf⟩

set_option maxRecDepth 20000 in
set_option maxHeartbeats 2000000 in
theorem spanForgets_old (id : Id8) (a0 : Option Addr) (zs : List Int) (cap0 : Nat) (ma he de : Int) (a1 : Option Addr) (acts : List ActS) (cap1 : Nat) (w : World) (ha : acts.length ≤ 60) (hz : zs.length ≤ 100) (hl : 200 < ma) :
    Calls Try.prog 4 #[.agg #[.int .u8 ((id.f 0).toNat : Int), .int .u8 ((id.f 1).toNat : Int), .int .u8 ((id.f 2).toNat : Int), .int .u8 ((id.f 3).toNat : Int), .int .u8 ((id.f 4).toNat : Int), .int .u8 ((id.f 5).toNat : Int), .int .u8 ((id.f 6).toNat : Int), .int .u8 ((id.f 7).toNat : Int)], .slice a0 zs.length cap0, .agg #[.int .i64 ma, .int .i64 he, .int .i64 de], .slice a1 acts.length cap1] w fun e w' => e = .returned (.bool true) ∧ Below w.heap.size w w' := by
  have g1 : decide ((60 : Int) < (acts.length : Int)) = false := decide_eq_false (by omega)
  have g2 : decide ((zs.length : Int) ≤ 100) = true := decide_eq_true (by omega)
  have g3 : decide ((200 : Int) < ma) = true := decide_eq_true hl
  go_enter Try.func4, Try.ntmps4
  go_upto_region 1 with fail
  generalize hW : (w.alloc _).alloc _ = W
  have hb : Below w.heap.size w W := by rw [← hW]; exact BX2 w _ _
  have RT : Hid (RowIs W (w.heap.size + 1) 43 #[.int .i64 ma, .int .i64 he, .int .i64 de]) := by subst hW; exact rowIs_new1 w _ _ _
  clear hW
  go_wp2_with fail
  refine (awake_any _).mono ?_
  rintro e w1 ⟨rfl, hb1⟩
  have c0 : w1.cell? ⟨w.heap.size + 1, 0, none⟩ = some (.int .i64 ma) := (RT.out.kept hb1).cell 0
  clear RT
  go_wp2_with fail
  refine (few_any _ _ _ _).mono ?_
  rintro e w2 ⟨rfl, rfl⟩
  go_wp2_with fail
  refine (awake_any _).mono ?_
  rintro e w2 ⟨rfl, hb2⟩
  have hbf : Below w.heap.size w w2 := (hb.trans (hb1.mono hb.size)).trans (hb2.mono (Nat.le_trans hb.size hb1.size))
  clear hb hb1 hb2
  go_wp2_with fail
  go_ret
  exact ⟨rfl, hbf⟩

set_option maxRecDepth 20000 in
set_option maxHeartbeats 4000000 in
theorem spanForgets_bad (id : Id8) (a0 : Option Addr) (zs : List Int) (cap0 : Nat) (ma he de : Int) (a1 : Option Addr) (acts : List ActS) (cap1 : Nat) (w : World) (ha : acts.length ≤ 60) (hz : zs.length ≤ 100) (hA0 : IntsAt w a0 zs) (hbad : newOk zs ma he de = false) (ht : ma ≤ 200) :
    Calls Try.prog 4 #[.agg #[.int .u8 ((id.f 0).toNat : Int), .int .u8 ((id.f 1).toNat : Int), .int .u8 ((id.f 2).toNat : Int), .int .u8 ((id.f 3).toNat : Int), .int .u8 ((id.f 4).toNat : Int), .int .u8 ((id.f 5).toNat : Int), .int .u8 ((id.f 6).toNat : Int), .int .u8 ((id.f 7).toNat : Int)], .slice a0 zs.length cap0, .agg #[.int .i64 ma, .int .i64 he, .int .i64 de], .slice a1 acts.length cap1] w fun e w' => e = .returned (.bool true) ∧ Below w.heap.size w w' := by
  have g3 : decide ((200 : Int) < ma) = false := decide_eq_false (by omega)
  have g1 : decide ((60 : Int) < (acts.length : Int)) = false := decide_eq_false (by omega)
  have g2 : decide ((zs.length : Int) ≤ 100) = true := decide_eq_true (by omega)
  go_enter Try.func4, Try.ntmps4
  go_upto_region 1 with fail
  generalize hW : (w.alloc _).alloc _ = W
  have hbW : Below w.heap.size w W := by rw [← hW]; exact BX2 w _ _
  have RD : Hid (RowIs W w.heap.size 23 #[.int .u8 ((id.f 0).toNat : Int), .int .u8 ((id.f 1).toNat : Int), .int .u8 ((id.f 2).toNat : Int), .int .u8 ((id.f 3).toNat : Int), .int .u8 ((id.f 4).toNat : Int), .int .u8 ((id.f 5).toNat : Int), .int .u8 ((id.f 6).toNat : Int), .int .u8 ((id.f 7).toNat : Int)]) := by subst hW; exact (rowIs_new w _ _).alloc _
  have RT : Hid (RowIs W (w.heap.size + 1) 43 #[.int .i64 ma, .int .i64 he, .int .i64 de]) := by subst hW; exact rowIs_new1 w _ _ _
  clear hW
  go_wp2_with fail
  refine (awake_any _).mono ?_
  rintro e w1 ⟨rfl, hb1⟩
  have hbW1 := hbW.trans (hb1.mono hbW.size)
  have RD1 := Lib.hid (RD.out.kept hb1)
  have RT1 := Lib.hid (RT.out.kept hb1)
  have c0 : w1.cell? ⟨w.heap.size + 1, 0, none⟩ = some (.int .i64 ma) := RT1.out.cell 0
  clear RD RT hbW hb1
  go_wp2_with fail
  refine (few_any _ _ _ _).mono ?_
  rintro e w2 ⟨rfl, rfl⟩
  have HN := Lib.hid (new_bad id a0 zs cap0 ma he de w1 (hA0.after hbW1) (by omega) hbad)
  have c1 : w1.cell? ⟨w.heap.size + 1, 1, none⟩ = some (.int .i64 he) := RT1.out.cell 1
  have c2 : w1.cell? ⟨w.heap.size + 1, 2, none⟩ = some (.int .i64 de) := RT1.out.cell 2
  clear hbad hA0
  go_wp2_with ((with_reducible refine at_load 23 (.tmp 4) ?_); refine wpList_load_own rfl 23 (.tmp 4) rfl (w.heap.size) rfl _ _ _ RD1.out Try.underlying23 rfl (by kernel_rfl) ?_)
  refine HN.out.mono ?_
  rintro e w3 ⟨rfl, hb3⟩
  have hbf := hbW1.trans (hb3.mono hbW1.size)
  clear hb3 HN c0 c1 c2 RD1 RT1
  go_wp2_with fail
  go_ret
  exact ⟨rfl, hbf⟩

set_option maxRecDepth 20000 in
set_option maxHeartbeats 8000000 in
theorem spanForgets_go (id : Id8) (a0 : Option Addr) (zs : List Int) (cap0 : Nat) (ma he de : Int) (a1 : Option Addr) (acts : List ActS) (cap1 : Nat) (w : World) (ha : acts.length ≤ 60) (hz : zs.length ≤ 100) (hA0 : IntsAt w a0 zs) (hA1 : ManyAt w a1 ActS.cells 26 acts) (hA2 : ∀ a ∈ acts, a.ok) (hgood : newOk zs ma he de = true) (ht : ma ≤ 200) :
    Calls Try.prog 4 #[.agg #[.int .u8 ((id.f 0).toNat : Int), .int .u8 ((id.f 1).toNat : Int), .int .u8 ((id.f 2).toNat : Int), .int .u8 ((id.f 3).toNat : Int), .int .u8 ((id.f 4).toNat : Int), .int .u8 ((id.f 5).toNat : Int), .int .u8 ((id.f 6).toNat : Int), .int .u8 ((id.f 7).toNat : Int)], .slice a0 zs.length cap0, .agg #[.int .i64 ma, .int .i64 he, .int .i64 de], .slice a1 acts.length cap1] w fun e w' => e = .returned (.bool true) ∧ Below w.heap.size w w' := by
  have HA := Lib.hid hA1
  have HAK := Lib.hid hA2
  have HGD := Lib.hid hgood
  have g3 : decide ((200 : Int) < ma) = false := decide_eq_false (by omega)
  have g1 : decide ((60 : Int) < (acts.length : Int)) = false := decide_eq_false (by omega)
  have g2 : decide ((zs.length : Int) ≤ 100) = true := decide_eq_true (by omega)
  clear hA1 hA2
  go_enter Try.func4, Try.ntmps4
  go_upto_region 1 with fail
  generalize hW : (w.alloc _).alloc _ = W
  have hbW : Below w.heap.size w W := by rw [← hW]; exact BX2 w _ _
  have RD : Hid (RowIs W w.heap.size 23 #[.int .u8 ((id.f 0).toNat : Int), .int .u8 ((id.f 1).toNat : Int), .int .u8 ((id.f 2).toNat : Int), .int .u8 ((id.f 3).toNat : Int), .int .u8 ((id.f 4).toNat : Int), .int .u8 ((id.f 5).toNat : Int), .int .u8 ((id.f 6).toNat : Int), .int .u8 ((id.f 7).toNat : Int)]) := by subst hW; exact (rowIs_new w _ _).alloc _
  have RT : Hid (RowIs W (w.heap.size + 1) 43 #[.int .i64 ma, .int .i64 he, .int .i64 de]) := by subst hW; exact rowIs_new1 w _ _ _
  clear hW
  go_wp2_with fail
  refine (awake_any _).mono ?_
  rintro e w1 ⟨rfl, hb1⟩
  have hbW1 := hbW.trans (hb1.mono hbW.size)
  have RD1 := Lib.hid (RD.out.kept hb1)
  have RT1 := Lib.hid (RT.out.kept hb1)
  have c0 : w1.cell? ⟨w.heap.size + 1, 0, none⟩ = some (.int .i64 ma) := RT1.out.cell 0
  clear RD RT hbW hb1
  go_wp2_with fail
  refine (few_any _ _ _ _).mono ?_
  rintro e w2 ⟨rfl, rfl⟩
  have HN := Lib.hid (new_good id a0 zs cap0 ma he de w1 (hA0.after hbW1) hgood)
  have c1 : w1.cell? ⟨w.heap.size + 1, 1, none⟩ = some (.int .i64 he) := RT1.out.cell 1
  have c2 : w1.cell? ⟨w.heap.size + 1, 2, none⟩ = some (.int .i64 de) := RT1.out.cell 2
  have HIS := Lib.hid (SS.fresh_same id zs ma he de)
  have HOK := Lib.hid (SS.Ok.fresh (id := id) hgood)
  have hnok := newOk_spec hgood
  clear hgood hA0
  go_wp2_with ((with_reducible refine at_load 23 (.tmp 4) ?_); refine wpList_load_own rfl 23 (.tmp 4) rfl (w.heap.size) rfl _ _ _ RD1.out Try.underlying23 rfl (by kernel_rfl) ?_)
  refine HN.out.mono ?_
  rintro e w3 ⟨S, g, cp, pbs, rfl, hSA, hb3⟩
  have HSA := Lib.hid hSA
  have hbf := hbW1.trans (hb3.mono hbW1.size)
  have RD3 := Lib.hid (RD1.out.kept hb3)
  have RT3 := Lib.hid (RT1.out.kept hb3)
  have hBB : w.heap.size ≤ w1.heap.size := hbW1.size
  have htb : w.heap.size + 1 < w1.heap.size := RT1.out.lt
  have hb0 : Below w1.heap.size w3 w3 := Below.refl _ _
  clear hSA hb3 HN c0 c1 c2 RD1 RT1 hbW1 g1 g2 g3
  generalize (SS.fresh id zs ma he de).found.1 = s0 at *
  generalize w1.heap.size = BB at *
  obtain ⟨hid, hma, hhe, hde, hlen, hnow⟩ := HIS.out
  have HID := Lib.hid hid
  have HMA := Lib.hid hma
  have HHE := Lib.hid hhe
  have HLEN := Lib.hid hlen
  have HNOW := Lib.hid hnow
  clear HIS hid hma hhe hde hlen hnow
  go_upto_region 7 with fail
  go_wp2_with fail
  go_loopw [11] (fun s11 wr => ∃ i : Nat, i ≤ acts.length ∧ s11 = .int .i64 i ∧ Hid (SpAt BB S g cp pbs wr (runF s0 acts i)) ∧ Below BB w3 wr) (fun s11 _ => acts.length - (intOf s11).toNat)
  case atStart => exact ⟨0, Nat.zero_le _, rfl, HSA, Below.refl _ _⟩
  case round =>
    clear HSA hb0
    rename World => wr
    obtain ⟨i, hi, rfl, HW, hbR⟩ := hrel
    by_cases hlt : i < acts.length
    · have hbW : Below w.heap.size w wr := hbf.trans (hbR.mono hBB)
      obtain ⟨b, off, hao, hbl, hcell⟩ := (HA.out.later hbW).range hlt
      have hxok := HAK.out acts[i] (List.getElem_mem hlt)
      have HN : Hid (runF s0 acts (i + 1) = ((runF s0 acts i).act acts[i]).1) := by
        have hgd : acts.getD i ⟨0, 0, .zero⟩ = acts[i] := by simp [List.getD, hlt]
        show _ = _
        rw [← hgd]
        rfl
      have HOKI := Lib.hid (runF_ok HOK.out acts i)
      subst hao
      generalize acts[i] = x at *
      generalize runF s0 acts i = si at *
      have HXR := Lib.hid (show wr.rangeAt b (off + i * 26) [.int .u8 (x.d.toNat : Int), .int .i64 x.port, .int .u8 ((x.w.r.f 0).toNat : Int), .int .u8 ((x.w.r.f 1).toNat : Int), .int .u8 ((x.w.r.f 2).toNat : Int), .int .u8 ((x.w.r.f 3).toNat : Int), .int .u8 ((x.w.r.f 4).toNat : Int), .int .u8 ((x.w.r.f 5).toNat : Int), .int .u8 ((x.w.r.f 6).toNat : Int), .int .u8 ((x.w.r.f 7).toNat : Int), .int .u8 ((x.w.b.f 0).toNat : Int), .int .u8 ((x.w.b.f 1).toNat : Int), .int .u8 ((x.w.b.f 2).toNat : Int), .int .u8 ((x.w.b.f 3).toNat : Int), .int .u8 ((x.w.b.f 4).toNat : Int), .int .u8 ((x.w.b.f 5).toNat : Int), .int .u8 ((x.w.b.f 6).toNat : Int), .int .u8 ((x.w.b.f 7).toNat : Int), .int .i64 x.w.c, .int .i64 x.w.p, .int .i64 x.w.age, .int .i64 x.w.ma, .int .i64 x.w.he, .int .i64 x.w.de, .bool x.w.ch, .bool x.w.ak] from hcell)
      have HDO := Lib.hid (do_any BB S g cp pbs wr si HW.out _ HOKI.out (by omega) x (wf_i64 hxok.1))
      clear hcell
      go_wp2_with ((with_reducible refine at_load 50 (.tmp 58) ?_); refine wpList_load_midW rfl 50 (.tmp 58) rfl b (off + i * 26) rfl [.int .u8 (x.d.toNat : Int), .int .i64 x.port, .int .u8 ((x.w.r.f 0).toNat : Int), .int .u8 ((x.w.r.f 1).toNat : Int), .int .u8 ((x.w.r.f 2).toNat : Int), .int .u8 ((x.w.r.f 3).toNat : Int), .int .u8 ((x.w.r.f 4).toNat : Int), .int .u8 ((x.w.r.f 5).toNat : Int), .int .u8 ((x.w.r.f 6).toNat : Int), .int .u8 ((x.w.r.f 7).toNat : Int), .int .u8 ((x.w.b.f 0).toNat : Int), .int .u8 ((x.w.b.f 1).toNat : Int), .int .u8 ((x.w.b.f 2).toNat : Int), .int .u8 ((x.w.b.f 3).toNat : Int), .int .u8 ((x.w.b.f 4).toNat : Int), .int .u8 ((x.w.b.f 5).toNat : Int), .int .u8 ((x.w.b.f 6).toNat : Int), .int .u8 ((x.w.b.f 7).toNat : Int), .int .i64 x.w.c, .int .i64 x.w.p, .int .i64 x.w.age, .int .i64 x.w.ma, .int .i64 x.w.he, .int .i64 x.w.de, .bool x.w.ch, .bool x.w.ak] _ HXR.out Try.underlying50 rfl (by kernel_rfl) ?_)
      refine HDO.out.mono ?_
      rintro e w5 ⟨v, rfl, _, hA5, hb5, _⟩
      rw [← HN.out] at hA5
      have HA5 := Lib.hid hA5
      have hbR5 := hbR.trans hb5
      clear hA5 hb5 HDO HXR HW hbR hxok hbl hbW
      go_wp2_with fail
      refine ⟨⟨i + 1, by omega, by go_num, HA5, hbR5⟩, by simp [intOf]; omega⟩
    · obtain rfl : i = acts.length := by omega
      have HOKI := Lib.hid (runF_ok HOK.out acts acts.length)
      have HSM := Lib.hid (runF_same s0 acts acts.length)
      obtain ⟨m, hm⟩ : ∃ m : Nat, ma = m := ⟨ma.toNat, by omega⟩
      have HFG := Lib.hid (fun k hk => forgotten (runF s0 acts acts.length) _ HOKI.out m (by rw [HSM.out.ma, HMA.out, hm]) |>.2.2 k hk)
      have HFR := Lib.hid (forgotten (runF s0 acts acts.length) _ HOKI.out m (by rw [HSM.out.ma, HMA.out, hm])).1
      have HFB := Lib.hid (forgotten (runF s0 acts acts.length) _ HOKI.out m (by rw [HSM.out.ma, HMA.out, hm])).2.1
      have HOWN : Hid ((runF s0 acts acts.length).own = ⟨id, 0, id, 0⟩) := by
        show (⟨_, 0, _, 0⟩ : SV) = _
        rw [HSM.out.id, HID.out]
      have hlz : (runF s0 acts acts.length).ports.length = zs.length := HSM.out.len.trans HLEN.out
      have HLZ := Lib.hid hlz
      subst hm
      clear hlz
      generalize runF s0 acts acts.length = sN at *
      rw [HOWN.out] at HFB
      go_wp2_with fail
      go_loopw [12] (fun s12 wx => ∃ j : Nat, j ≤ m + 1 ∧ s12 = .int .i64 j ∧ Hid (SpAt BB S g cp pbs wx (tickN sN j)) ∧ Below BB w3 wx) (fun s12 _ => m + 1 - (intOf s12).toNat)
      case atStart => exact ⟨0, Nat.zero_le _, rfl, HW, hbR⟩
      case round =>
        clear HW hbR
        rename World => wx
        obtain ⟨j, hj, rfl, HW, hbR⟩ := hrel
        have c0 : wx.cell? ⟨w.heap.size + 1, 0, none⟩ = some (.int .i64 (m : Int)) := (hbR.cell (p := ⟨w.heap.size + 1, 0, none⟩) htb).trans (RT3.out.cell 0)
        by_cases hjm : j ≤ m
        · have HOKJ := Lib.hid (tickN_ok HOKI.out j)
          have HTK := Lib.hid (tick_any BB S g cp pbs wx (tickN sN j) HW.out _ HOKJ.out (by omega))
          have HN : Hid (tickN sN (j + 1) = (tickN sN j).tick.1) := rfl
          go_wp2_with fail
          refine HTK.out.mono ?_
          rintro e w5 ⟨v, rfl, _, hA5, hb5, _⟩
          rw [← HN.out] at hA5
          have HA5 := Lib.hid hA5
          have hbR5 := hbR.trans hb5
          clear hA5 hb5 HTK HW hbR c0
          go_wp2_with fail
          refine ⟨⟨j + 1, by omega, by go_num, HA5, hbR5⟩, by simp [intOf]; omega⟩
        · obtain rfl : j = m + 1 := by omega
          have HLF := Lib.hid ((tickN_same sN (m + 1)).len.trans HLZ.out)
          have HOKF := Lib.hid (tickN_ok HOKI.out (m + 1))
          generalize tickN sN (m + 1) = sF at *
          have HRT := Lib.hid (root_any BB S g cp pbs wx sF HW.out)
          rw [HFR.out, HFB.out] at HRT
          go_wp2_with fail
          refine HRT.out.mono ?_
          rintro e w6 ⟨rfl, hb6⟩
          have RN : RowIs (w6.alloc (.cells #[.int .u8 0, .int .u8 0, .int .u8 0, .int .u8 0, .int .u8 0, .int .u8 0, .int .u8 0, .int .u8 0, .int .i64 0, .int .u8 0, .int .u8 0, .int .u8 0, .int .u8 0, .int .u8 0, .int .u8 0, .int .u8 0, .int .u8 0, .int .i64 0] 38)) w6.heap.size 38 #[.int .u8 0, .int .u8 0, .int .u8 0, .int .u8 0, .int .u8 0, .int .u8 0, .int .u8 0, .int .u8 0, .int .i64 0, .int .u8 0, .int .u8 0, .int .u8 0, .int .u8 0, .int .u8 0, .int .u8 0, .int .u8 0, .int .u8 0, .int .i64 0] := rowIs_new w6 _ _
          have hbN : Below w6.heap.size w6 (w6.alloc (.cells #[.int .u8 0, .int .u8 0, .int .u8 0, .int .u8 0, .int .u8 0, .int .u8 0, .int .u8 0, .int .u8 0, .int .i64 0, .int .u8 0, .int .u8 0, .int .u8 0, .int .u8 0, .int .u8 0, .int .u8 0, .int .u8 0, .int .u8 0, .int .i64 0] 38)) := (Below.refl _ _).alloc (Nat.le_refl _) _
          go_wp2_with ((with_reducible refine at_store 38 (.tmp 13) (.tmp 72) ?_); refine wpList_store_own rfl 38 (.tmp 13) (.tmp 72) rfl (w6.heap.size) _ rfl rfl _ _ RN (by kernel_rfl) rfl (by simp [Value.oneCell']) w6.heap.size (Nat.le_refl _) ?_)
          intro w7 hR7 ho7 hs7 hb7
          have hb7 := hb6.trans ((hbN.trans hb7).mono hb6.size)
          have HA7 := Lib.hid (HW.out.later hb7)
          have hbR7 := hbR.trans (hb7.mono (Nat.le_trans HW.out.hB (Nat.le_of_lt HW.out.row.lt)))
          have RV7 := Lib.hid hR7
          clear HRT RN hbN hR7 ho7 hs7 hb6 hb7 HW hbR c0
          have hpl : pbs.length = zs.length := by
            have := HA7.out.len
            rw [HLF.out] at this
            exact this
          have hplz : pbs.length ≤ 1000 := by omega
          clear hpl
          generalize w6.heap.size = vb at *
          go_wp2_with fail
          go_loopw [15] (fun s15 wy => ∃ p : Nat, p ≤ zs.length ∧ s15 = .int .i64 p ∧ w7 = wy) (fun s15 _ => zs.length - (intOf s15).toNat)
          case atStart => exact ⟨0, Nat.zero_le _, rfl, rfl⟩
          case round =>
            obtain ⟨p, hp, rfl, rfl⟩ := hrel
            by_cases hpz : p < zs.length
            · have HRO := Lib.hid (roleAt_any BB S g cp pbs w7 sF HA7.out hplz (p : Int) (wf_nat p (by omega)))
              have hro := HFG.out p (by rw [HLZ.out]; exact hpz)
              rcases hro with hro | hro
              · rw [hro] at HRO
                clear hro
                go_wp2_with fail
                refine HRO.out.mono ?_
                rintro e w8 ⟨rfl, rfl⟩
                go_wp2_with fail
                refine ⟨⟨p + 1, by omega, by go_num, trivial⟩, by simp [intOf]; omega⟩
              · rw [hro] at HRO
                clear hro
                go_wp2_with fail
                refine HRO.out.mono ?_
                rintro e w8 ⟨rfl, rfl⟩
                go_wp2_with fail
                refine HRO.out.mono ?_
                rintro e w8 ⟨rfl, rfl⟩
                go_wp2_with fail
                refine ⟨⟨p + 1, by omega, by go_num, trivial⟩, by simp [intOf]; omega⟩
            · obtain rfl : p = zs.length := by omega
              have hbFin := hbf.trans (hbR7.mono hBB)
              have RD7 : Hid (RowIs w7 w.heap.size 23 #[.int .u8 ((id.f 0).toNat : Int), .int .u8 ((id.f 1).toNat : Int), .int .u8 ((id.f 2).toNat : Int), .int .u8 ((id.f 3).toNat : Int), .int .u8 ((id.f 4).toNat : Int), .int .u8 ((id.f 5).toNat : Int), .int .u8 ((id.f 6).toNat : Int), .int .u8 ((id.f 7).toNat : Int)]) := (hbR7.block _ (by omega)).trans RD3.out
              have m1 : ∀ w, (Op.equalIn 10000 38 (.agg #[.int .u8 ((id.f 0).toNat : Int), .int .u8 ((id.f 1).toNat : Int), .int .u8 ((id.f 2).toNat : Int), .int .u8 ((id.f 3).toNat : Int), .int .u8 ((id.f 4).toNat : Int), .int .u8 ((id.f 5).toNat : Int), .int .u8 ((id.f 6).toNat : Int), .int .u8 ((id.f 7).toNat : Int), .int .i64 0, .int .u8 ((id.f 0).toNat : Int), .int .u8 ((id.f 1).toNat : Int), .int .u8 ((id.f 2).toNat : Int), .int .u8 ((id.f 3).toNat : Int), .int .u8 ((id.f 4).toNat : Int), .int .u8 ((id.f 5).toNat : Int), .int .u8 ((id.f 6).toNat : Int), .int .u8 ((id.f 7).toNat : Int), .int .i64 0]) (.agg #[.int .u8 ((id.f 0).toNat : Int), .int .u8 ((id.f 1).toNat : Int), .int .u8 ((id.f 2).toNat : Int), .int .u8 ((id.f 3).toNat : Int), .int .u8 ((id.f 4).toNat : Int), .int .u8 ((id.f 5).toNat : Int), .int .u8 ((id.f 6).toNat : Int), .int .u8 ((id.f 7).toNat : Int), .int .i64 0, .int .u8 ((id.f 0).toNat : Int), .int .u8 ((id.f 1).toNat : Int), .int .u8 ((id.f 2).toNat : Int), .int .u8 ((id.f 3).toNat : Int), .int .u8 ((id.f 4).toNat : Int), .int .u8 ((id.f 5).toNat : Int), .int .u8 ((id.f 6).toNat : Int), .int .u8 ((id.f 7).toNat : Int), .int .i64 0])).run Try.prog w = .ok true w := fun w => by
                have h := run_equalIn_sv 9997 (⟨id, 0, id, 0⟩ : SV) ⟨id, 0, id, 0⟩ w
                rw [decide_eq_true rfl] at h
                exact h
              clear HA7 hbR7 hbf
              go_wp2_with (first
                | ((with_reducible refine at_load 38 (.tmp 13) ?_); refine wpList_load_own rfl 38 (.tmp 13) rfl (vb) rfl _ _ _ RV7.out Try.underlying38 rfl (by kernel_rfl) ?_)
                | ((with_reducible refine at_load 23 (.tmp 4) ?_); refine wpList_load_own rfl 23 (.tmp 4) rfl (w.heap.size) rfl _ _ _ RD7.out Try.underlying23 rfl (by kernel_rfl) ?_))
              go_ret
              exact ⟨rfl, hbFin⟩

set_option maxHeartbeats 1000000 in
theorem spanForgets_walk (f : Nat → UInt8) (a0 : Option Addr) (zs : List Int) (cap0 : Nat) (ma he de : Int) (a1 : Option Addr) (acts : List ActS) (cap1 : Nat) (w : World) (hA0 : IntsAt w a0 zs) (_ : zs.length ≤ 9223372036854775807) (_ : I64 ma ∧ I64 he ∧ I64 de) (hA1 : ManyAt w a1 ActS.cells 26 acts) (_ : acts.length ≤ 9223372036854775807) (hA2 : ∀ a ∈ acts, a.ok) :
    Calls Try.prog 4 #[.agg #[.int .u8 ((f 0).toNat : Int), .int .u8 ((f 1).toNat : Int), .int .u8 ((f 2).toNat : Int), .int .u8 ((f 3).toNat : Int), .int .u8 ((f 4).toNat : Int), .int .u8 ((f 5).toNat : Int), .int .u8 ((f 6).toNat : Int), .int .u8 ((f 7).toNat : Int)], .slice a0 zs.length cap0, .agg #[.int .i64 ma, .int .i64 he, .int .i64 de], .slice a1 acts.length cap1] w fun e w' => e = .returned (.bool true) ∧ Below w.heap.size w w' := by
  show Calls Try.prog 4 #[.agg #[.int .u8 (((Id8.of f).f 0).toNat : Int), .int .u8 (((Id8.of f).f 1).toNat : Int), .int .u8 (((Id8.of f).f 2).toNat : Int), .int .u8 (((Id8.of f).f 3).toNat : Int), .int .u8 (((Id8.of f).f 4).toNat : Int), .int .u8 (((Id8.of f).f 5).toNat : Int), .int .u8 (((Id8.of f).f 6).toNat : Int), .int .u8 (((Id8.of f).f 7).toNat : Int)], .slice a0 zs.length cap0, .agg #[.int .i64 ma, .int .i64 he, .int .i64 de], .slice a1 acts.length cap1] w _
  generalize Id8.of f = id
  by_cases h1 : 60 < acts.length
  · exact spanForgets_long id a0 zs cap0 ma he de a1 acts cap1 w h1
  · by_cases h2 : 100 < zs.length
    · exact spanForgets_wide id a0 zs cap0 ma he de a1 acts cap1 w (by omega) h2
    · by_cases h4 : 200 < ma
      · exact spanForgets_old id a0 zs cap0 ma he de a1 acts cap1 w (by omega) (by omega) h4
      · cases h3 : newOk zs ma he de
        · exact spanForgets_bad id a0 zs cap0 ma he de a1 acts cap1 w (by omega) (by omega) hA0 h3 (by omega)
        · exact spanForgets_go id a0 zs cap0 ma he de a1 acts cap1 w (by omega) (by omega) hA0 hA1 hA2 h3 (by omega)
end Go.Proofs.Ytnpoholeemcklaa
