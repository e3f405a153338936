/- SpanTells: the walk. By an AI agent. -/
import Derived.Test.YtnpoholeemcklaaSpanLaw1
namespace Go.Proofs.Ytnpoholeemcklaa
open Go.RowKit Go.WideShapes Go.Sort Grow

set_option maxRecDepth 20000 in
set_option maxHeartbeats 2000000 in
theorem spanTells_long (id : Id8) (a0 : Option Addr) (zs : List Int) (cap0 : Nat) (ma he de : Int) (a1 : Option Addr) (acts : List ActS) (cap1 : Nat) (w : World) (hl : 60 < acts.length) :
    Calls Try.prog 6 #[.agg #[.int .u8 ((id.f 0).toNat : Int), .int .u8 ((id.f 1).toNat : Int), .int .u8 ((id.f 2).toNat : Int), .int .u8 ((id.f 3).toNat : Int), .int .u8 ((id.f 4).toNat : Int), .int .u8 ((id.f 5).toNat : Int), .int .u8 ((id.f 6).toNat : Int), .int .u8 ((id.f 7).toNat : Int)], .slice a0 zs.length cap0, .agg #[.int .i64 ma, .int .i64 he, .int .i64 de], .slice a1 acts.length cap1] w fun e w' => e = .returned (.bool true) ∧ Below w.heap.size w w' := by
  have g1 : decide ((60 : Int) < (acts.length : Int)) = true := decide_eq_true (by omega)
  go_enter Try.func6, Try.ntmps6
  go_upto_region 1 with fail
  generalize hW : (w.alloc _).alloc _ = W
  have hb : Below w.heap.size w W := by rw [← hW]; exact BX2 w _ _
  clear hW
  go_wp2_with fail
  refine (awake_any _).mono ?_
  rintro e w1 ⟨rfl, hb1⟩
  go_wp2_with fail
  refine (awake_any _).mono ?_
  rintro e w2 ⟨rfl, hb2⟩
  have hbf : Below w.heap.size w w2 := (hb.trans (hb1.mono hb.size)).trans (hb2.mono (Nat.le_trans hb.size hb1.size))
  clear hb hb1 hb2
  go_wp2_with fail
  go_ret
  exact ⟨rfl, hbf⟩

set_option maxRecDepth 20000 in
set_option maxHeartbeats 2000000 in
theorem spanTells_wide (id : Id8) (a0 : Option Addr) (zs : List Int) (cap0 : Nat) (ma he de : Int) (a1 : Option Addr) (acts : List ActS) (cap1 : Nat) (w : World) (ha : acts.length ≤ 60) (hl : 100 < zs.length) :
    Calls Try.prog 6 #[.agg #[.int .u8 ((id.f 0).toNat : Int), .int .u8 ((id.f 1).toNat : Int), .int .u8 ((id.f 2).toNat : Int), .int .u8 ((id.f 3).toNat : Int), .int .u8 ((id.f 4).toNat : Int), .int .u8 ((id.f 5).toNat : Int), .int .u8 ((id.f 6).toNat : Int), .int .u8 ((id.f 7).toNat : Int)], .slice a0 zs.length cap0, .agg #[.int .i64 ma, .int .i64 he, .int .i64 de], .slice a1 acts.length cap1] w fun e w' => e = .returned (.bool true) ∧ Below w.heap.size w w' := by
  have g1 : decide ((60 : Int) < (acts.length : Int)) = false := decide_eq_false (by omega)
  have g2 : decide ((zs.length : Int) ≤ 100) = false := decide_eq_false (by omega)
  go_enter Try.func6, Try.ntmps6
  go_upto_region 1 with fail
  generalize hW : (w.alloc _).alloc _ = W
  have hb : Below w.heap.size w W := by rw [← hW]; exact BX2 w _ _
  clear hW
  go_wp2_with fail
  refine (awake_any _).mono ?_
  rintro e w1 ⟨rfl, hb1⟩
  go_wp2_with fail
  refine (few_any _ _ _ _).mono ?_
  rintro e w2 ⟨rfl, rfl⟩
  go_wp2_with fail
  refine (awake_any _).mono ?_
  rintro e w2 ⟨rfl, hb2⟩
  have hbf : Below w.heap.size w w2 := (hb.trans (hb1.mono hb.size)).trans (hb2.mono (Nat.le_trans hb.size hb1.size))
  clear hb hb1 hb2
  go_wp2_with fail
  go_ret
  exact ⟨rfl, hbf⟩

set_option maxRecDepth 20000 in
set_option maxHeartbeats 4000000 in
theorem spanTells_bad (id : Id8) (a0 : Option Addr) (zs : List Int) (cap0 : Nat) (ma he de : Int) (a1 : Option Addr) (acts : List ActS) (cap1 : Nat) (w : World) (ha : acts.length ≤ 60) (hz : zs.length ≤ 100) (hA0 : IntsAt w a0 zs) (hbad : newOk zs ma he de = false) :
    Calls Try.prog 6 #[.agg #[.int .u8 ((id.f 0).toNat : Int), .int .u8 ((id.f 1).toNat : Int), .int .u8 ((id.f 2).toNat : Int), .int .u8 ((id.f 3).toNat : Int), .int .u8 ((id.f 4).toNat : Int), .int .u8 ((id.f 5).toNat : Int), .int .u8 ((id.f 6).toNat : Int), .int .u8 ((id.f 7).toNat : Int)], .slice a0 zs.length cap0, .agg #[.int .i64 ma, .int .i64 he, .int .i64 de], .slice a1 acts.length cap1] w fun e w' => e = .returned (.bool true) ∧ Below w.heap.size w w' := by
  have g1 : decide ((60 : Int) < (acts.length : Int)) = false := decide_eq_false (by omega)
  have g2 : decide ((zs.length : Int) ≤ 100) = true := decide_eq_true (by omega)
  go_enter Try.func6, Try.ntmps6
  go_upto_region 1 with fail
  generalize hW : (w.alloc _).alloc _ = W
  have hbW : Below w.heap.size w W := by rw [← hW]; exact BX2 w _ _
  have RD : Hid (RowIs W w.heap.size 23 #[.int .u8 ((id.f 0).toNat : Int), .int .u8 ((id.f 1).toNat : Int), .int .u8 ((id.f 2).toNat : Int), .int .u8 ((id.f 3).toNat : Int), .int .u8 ((id.f 4).toNat : Int), .int .u8 ((id.f 5).toNat : Int), .int .u8 ((id.f 6).toNat : Int), .int .u8 ((id.f 7).toNat : Int)]) := by subst hW; exact (rowIs_new w _ _).alloc _
  have RT : Hid (RowIs W (w.heap.size + 1) 43 #[.int .i64 ma, .int .i64 he, .int .i64 de]) := by subst hW; exact rowIs_new1 w _ _ _
  clear hW
  go_wp2_with fail
  refine (awake_any _).mono ?_
  rintro e w1 ⟨rfl, hb1⟩
  have hbW1 := hbW.trans (hb1.mono hbW.size)
  have RD1 := Lib.hid (RD.out.kept hb1)
  have RT1 := Lib.hid (RT.out.kept hb1)
  clear RD RT hbW hb1
  go_wp2_with fail
  refine (few_any _ _ _ _).mono ?_
  rintro e w2 ⟨rfl, rfl⟩
  have HN := Lib.hid (new_bad id a0 zs cap0 ma he de w1 (hA0.after hbW1) (by omega) hbad)
  have c0 : w1.cell? ⟨w.heap.size + 1, 0, none⟩ = some (.int .i64 ma) := RT1.out.cell 0
  have c1 : w1.cell? ⟨w.heap.size + 1, 1, none⟩ = some (.int .i64 he) := RT1.out.cell 1
  have c2 : w1.cell? ⟨w.heap.size + 1, 2, none⟩ = some (.int .i64 de) := RT1.out.cell 2
  clear hbad hA0
  go_wp2_with ((with_reducible refine at_load 23 (.tmp 4) ?_); refine wpList_load_own rfl 23 (.tmp 4) rfl (w.heap.size) rfl _ _ _ RD1.out Try.underlying23 rfl (by kernel_rfl) ?_)
  refine HN.out.mono ?_
  rintro e w3 ⟨rfl, hb3⟩
  have hbf := hbW1.trans (hb3.mono hbW1.size)
  clear hb3 HN c0 c1 c2 RD1 RT1
  go_wp2_with fail
  go_ret
  exact ⟨rfl, hbf⟩

set_option maxRecDepth 20000 in
set_option maxHeartbeats 8000000 in
theorem spanTells_go (id : Id8) (a0 : Option Addr) (zs : List Int) (cap0 : Nat) (ma he de : Int) (a1 : Option Addr) (acts : List ActS) (cap1 : Nat) (w : World) (ha : acts.length ≤ 60) (hz : zs.length ≤ 100) (hA0 : IntsAt w a0 zs) (hA1 : ManyAt w a1 ActS.cells 26 acts) (hA2 : ∀ a ∈ acts, a.ok) (hgood : newOk zs ma he de = true) :
    Calls Try.prog 6 #[.agg #[.int .u8 ((id.f 0).toNat : Int), .int .u8 ((id.f 1).toNat : Int), .int .u8 ((id.f 2).toNat : Int), .int .u8 ((id.f 3).toNat : Int), .int .u8 ((id.f 4).toNat : Int), .int .u8 ((id.f 5).toNat : Int), .int .u8 ((id.f 6).toNat : Int), .int .u8 ((id.f 7).toNat : Int)], .slice a0 zs.length cap0, .agg #[.int .i64 ma, .int .i64 he, .int .i64 de], .slice a1 acts.length cap1] w fun e w' => e = .returned (.bool true) ∧ Below w.heap.size w w' := by
  have HA := Lib.hid hA1
  have HAK := Lib.hid hA2
  have HGD := Lib.hid hgood
  have g1 : decide ((60 : Int) < (acts.length : Int)) = false := decide_eq_false (by omega)
  have g2 : decide ((zs.length : Int) ≤ 100) = true := decide_eq_true (by omega)
  clear hA1 hA2
  go_enter Try.func6, Try.ntmps6
  go_upto_region 1 with fail
  generalize hW : (w.alloc _).alloc _ = W
  have hbW : Below w.heap.size w W := by rw [← hW]; exact BX2 w _ _
  have RD : Hid (RowIs W w.heap.size 23 #[.int .u8 ((id.f 0).toNat : Int), .int .u8 ((id.f 1).toNat : Int), .int .u8 ((id.f 2).toNat : Int), .int .u8 ((id.f 3).toNat : Int), .int .u8 ((id.f 4).toNat : Int), .int .u8 ((id.f 5).toNat : Int), .int .u8 ((id.f 6).toNat : Int), .int .u8 ((id.f 7).toNat : Int)]) := by subst hW; exact (rowIs_new w _ _).alloc _
  have RT : Hid (RowIs W (w.heap.size + 1) 43 #[.int .i64 ma, .int .i64 he, .int .i64 de]) := by subst hW; exact rowIs_new1 w _ _ _
  clear hW
  go_wp2_with fail
  refine (awake_any _).mono ?_
  rintro e w1 ⟨rfl, hb1⟩
  have hbW1 := hbW.trans (hb1.mono hbW.size)
  have RD1 := Lib.hid (RD.out.kept hb1)
  have RT1 := Lib.hid (RT.out.kept hb1)
  clear RD RT hbW hb1
  go_wp2_with fail
  refine (few_any _ _ _ _).mono ?_
  rintro e w2 ⟨rfl, rfl⟩
  have HN := Lib.hid (new_good id a0 zs cap0 ma he de w1 (hA0.after hbW1) hgood)
  have c0 : w1.cell? ⟨w.heap.size + 1, 0, none⟩ = some (.int .i64 ma) := RT1.out.cell 0
  have c1 : w1.cell? ⟨w.heap.size + 1, 1, none⟩ = some (.int .i64 he) := RT1.out.cell 1
  have c2 : w1.cell? ⟨w.heap.size + 1, 2, none⟩ = some (.int .i64 de) := RT1.out.cell 2
  have HIS := Lib.hid (SS.fresh_same id zs ma he de)
  have HOK := Lib.hid (SS.Ok.fresh (id := id) hgood)
  have hnok := newOk_spec hgood
  clear hgood hA0
  go_wp2_with ((with_reducible refine at_load 23 (.tmp 4) ?_); refine wpList_load_own rfl 23 (.tmp 4) rfl (w.heap.size) rfl _ _ _ RD1.out Try.underlying23 rfl (by kernel_rfl) ?_)
  refine HN.out.mono ?_
  rintro e w3 ⟨S, g, cp, pbs, rfl, hSA, hb3⟩
  have HSA := Lib.hid hSA
  have hbf := hbW1.trans (hb3.mono hbW1.size)
  have RD3 := Lib.hid (RD1.out.kept hb3)
  have RT3 := Lib.hid (RT1.out.kept hb3)
  have hBB : w.heap.size ≤ w1.heap.size := hbW1.size
  have htb : w.heap.size + 1 < w1.heap.size := RT1.out.lt
  have hb0 : Below w1.heap.size w3 w3 := Below.refl _ _
  clear hSA hb3 HN c0 c1 c2 RD1 RT1 hbW1 g1 g2
  generalize (SS.fresh id zs ma he de).found.1 = s0 at *
  generalize w1.heap.size = BB at *
  obtain ⟨hid, hma, hhe, hde, hlen, hnow⟩ := HIS.out
  have HID := Lib.hid hid
  have HMA := Lib.hid hma
  have HHE := Lib.hid hhe
  have HLEN := Lib.hid hlen
  have HNOW := Lib.hid hnow
  clear HIS hid hma hhe hde hlen hnow
  go_upto_region 7 with fail
  go_wp2_with fail
  go_loopw [11, 12] (fun s11 s12 wr => ∃ i : Nat, i ≤ acts.length ∧ s12 = .int .i64 i ∧ s11 = .int .i64 (runF s0 acts i).now ∧ Hid (SpAt BB S g cp pbs wr (runF s0 acts i)) ∧ Below BB w3 wr) (fun _ s12 _ => acts.length - (intOf s12).toNat)
  case atStart => exact ⟨0, Nat.zero_le _, rfl, by rw [← HNOW.out]; rfl, HSA, Below.refl _ _⟩
  case round =>
    clear HSA hb0
    rename World => wr
    obtain ⟨i, hi, rfl, rfl, HW, hbR⟩ := hrel
    by_cases hlt : i < acts.length
    · have hbW : Below w.heap.size w wr := hbf.trans (hbR.mono hBB)
      obtain ⟨b, off, hao, hbl, hcell⟩ := (HA.out.later hbW).range hlt
      have hxok := HAK.out acts[i] (List.getElem_mem hlt)
      have hgd : acts.getD i ⟨0, 0, .zero⟩ = acts[i] := by simp [List.getD, hlt]
      have HN : Hid (runF s0 acts (i + 1) = ((runF s0 acts i).act acts[i]).1) := by
        show _ = _
        rw [← hgd]
        rfl
      have HOKI := Lib.hid (runF_ok HOK.out acts i)
      have HSM := Lib.hid (runF_same s0 acts (i + 1))
      rw [HN.out] at HSM
      have hbw0 : b < w.heap.size := by
        rcases HA.out with h | ⟨b', off', e1, h1, _⟩
        · rw [h] at hlt
          exact absurd hlt (Nat.not_lt_zero _)
        · rw [hao] at e1
          simp only [Option.some.injEq, Addr.mk.injEq, and_true] at e1
          omega
      clear hgd
      subst hao
      generalize acts[i] = x at *
      generalize runF s0 acts i = si at *
      have HXR := Lib.hid (show wr.rangeAt b (off + i * 26) [.int .u8 (x.d.toNat : Int), .int .i64 x.port, .int .u8 ((x.w.r.f 0).toNat : Int), .int .u8 ((x.w.r.f 1).toNat : Int), .int .u8 ((x.w.r.f 2).toNat : Int), .int .u8 ((x.w.r.f 3).toNat : Int), .int .u8 ((x.w.r.f 4).toNat : Int), .int .u8 ((x.w.r.f 5).toNat : Int), .int .u8 ((x.w.r.f 6).toNat : Int), .int .u8 ((x.w.r.f 7).toNat : Int), .int .u8 ((x.w.b.f 0).toNat : Int), .int .u8 ((x.w.b.f 1).toNat : Int), .int .u8 ((x.w.b.f 2).toNat : Int), .int .u8 ((x.w.b.f 3).toNat : Int), .int .u8 ((x.w.b.f 4).toNat : Int), .int .u8 ((x.w.b.f 5).toNat : Int), .int .u8 ((x.w.b.f 6).toNat : Int), .int .u8 ((x.w.b.f 7).toNat : Int), .int .i64 x.w.c, .int .i64 x.w.p, .int .i64 x.w.age, .int .i64 x.w.ma, .int .i64 x.w.he, .int .i64 x.w.de, .bool x.w.ch, .bool x.w.ak] from hcell)
      have hc0 : wr.cell? ⟨b, off + i * 26, none⟩ = some (.int .u8 (x.d.toNat : Int)) := hcell 0 _ rfl
      have HDO := Lib.hid (do_any BB S g cp pbs wr si HW.out _ HOKI.out (by omega) x (wf_i64 hxok.1))
      clear hcell
      go_wp2_with ((with_reducible refine at_load 50 (.tmp 56) ?_); refine wpList_load_midW rfl 50 (.tmp 56) rfl b (off + i * 26) rfl [.int .u8 (x.d.toNat : Int), .int .i64 x.port, .int .u8 ((x.w.r.f 0).toNat : Int), .int .u8 ((x.w.r.f 1).toNat : Int), .int .u8 ((x.w.r.f 2).toNat : Int), .int .u8 ((x.w.r.f 3).toNat : Int), .int .u8 ((x.w.r.f 4).toNat : Int), .int .u8 ((x.w.r.f 5).toNat : Int), .int .u8 ((x.w.r.f 6).toNat : Int), .int .u8 ((x.w.r.f 7).toNat : Int), .int .u8 ((x.w.b.f 0).toNat : Int), .int .u8 ((x.w.b.f 1).toNat : Int), .int .u8 ((x.w.b.f 2).toNat : Int), .int .u8 ((x.w.b.f 3).toNat : Int), .int .u8 ((x.w.b.f 4).toNat : Int), .int .u8 ((x.w.b.f 5).toNat : Int), .int .u8 ((x.w.b.f 6).toNat : Int), .int .u8 ((x.w.b.f 7).toNat : Int), .int .i64 x.w.c, .int .i64 x.w.p, .int .i64 x.w.age, .int .i64 x.w.ma, .int .i64 x.w.he, .int .i64 x.w.de, .bool x.w.ch, .bool x.w.ak] _ HXR.out Try.underlying50 rfl (by kernel_rfl) ?_)
      refine HDO.out.mono ?_
      rintro e w5 ⟨v, rfl, hO, hA5, hb5, ho5⟩
      have HO5 := Lib.hid (hO.lower (Nat.le_refl _))
      have HA5 := Lib.hid hA5
      have hbR5 := hbR.trans hb5
      have c0 : w5.cell? ⟨b, off + i * 26, none⟩ = some (.int .u8 (x.d.toNat : Int)) := by
        rw [(show Below w.heap.size wr w5 from hb5.mono hBB).cell (p := ⟨b, off + i * 26, none⟩) hbw0]
        exact hc0
      have HOKN := Lib.hid (HOKI.out.act x)
      have HACT := Lib.hid (SS.act_now si x)
      have HKD : Hid (x.kind = x.d.toNat % 8) := rfl
      clear hO hA5 hb5 ho5 HDO HXR hc0 HW hbR hxok hbl hbW
      by_cases hk : x.kind ≤ 1
      · have g5 : decide ((1 : Int) < (x.d.toNat : Int) % 8) = false := decide_eq_false (by have := HKD.out; omega)
        have HAE : Hid (si.act x = si.tick) := by
          show _ = _
          unfold SS.act
          rw [if_pos hk]
        have hnw : (si.act x).1.now = si.now + 1 := by
          rw [HACT.out, if_pos hk]
        have HTT := Lib.hid si.tick_told
        have HSE : Hid (si.tick.1 = si.ticked) := rfl
        rw [HAE.out] at HN HO5 HA5 HOKN hnw HSM
        rw [HSE.out] at HN HA5 HOKN hnw HSM
        have HIDI : Hid (si.id = id) := by
          have h1 := HSM.out.id
          have h2 := si.ticked_same.id
          show _ = _
          rw [← h2, h1]
          exact HID.out
        have hlenN : si.ticked.ports.length = zs.length := by
          rw [HSM.out.len]
          exact HLEN.out
        have hheN : si.ticked.he = he := by
          rw [HSM.out.he]
          exact HHE.out
        have HHEN := Lib.hid hheN
        have HLENN := Lib.hid hlenN
        have HNW := Lib.hid hnw
        have hbnow := HOKN.out.now
        have hsin := HOKI.out.now
        generalize si.tick.2 = outs at *
        generalize si.ticked = sn at *
        rw [HHEN.out, HLENN.out] at HTT
        clear hk HACT HKD HAE HSE hnw hheN hlenN
        obtain ⟨oa, oc, rfl, hmany⟩ := HO5.out.many
        have HM := Lib.hid hmany
        have hpl : pbs.length = zs.length := by
          have := HA5.out.len
          rw [HLENN.out] at this
          exact this
        have HPL := Lib.hid hpl
        have hplz : pbs.length ≤ 1000 := by omega
        clear hmany hpl HO5
        go_wp2_with fail
        go_loopw [14, 15] (fun s14 s15 wx => ∃ p : Nat, p ≤ zs.length ∧ s15 = .int .i64 p ∧ s14 = .int .i64 (countR sn p : Nat) ∧ w5 = wx) (fun _ s15 _ => zs.length - (intOf s15).toNat)
        case atStart => exact ⟨0, Nat.zero_le _, rfl, rfl, rfl⟩
        case round =>
          obtain ⟨p, hp, rfl, rfl, rfl⟩ := hrel
          by_cases hpz : p < zs.length
          · have HRO := Lib.hid (roleAt_any BB S g cp pbs w5 sn HA5.out hplz (p : Int) (wf_nat p (by omega)))
            have hro : sn.roleAt (p : Int) = (sn.port p).role := by
              unfold SS.roleAt SS.has
              rw [if_pos (by simp; rw [HLENN.out]; omega), Int.toNat_natCast]
            rw [hro] at HRO
            have HCN : Hid (countR sn (p + 1) = countR sn p + (if ((sn.port p).role == 2) = true then 1 else 0)) := rfl
            have hcl := countR_le sn p
            clear hro
            cases hr2 : ((sn.port p).role == 2)
            · rw [hr2] at HCN
              have HCN : Hid (countR sn (p + 1) = countR sn p) := HCN.out
              go_wp2_with fail
              refine HRO.out.mono ?_
              rintro e w6 ⟨rfl, rfl⟩
              go_wp2_with fail
              refine ⟨⟨p + 1, by omega, by go_num, by rw [HCN.out], trivial⟩, by simp [intOf]; omega⟩
            · rw [hr2] at HCN
              have HCN : Hid (countR sn (p + 1) = countR sn p + 1) := HCN.out
              go_wp2_with fail
              refine HRO.out.mono ?_
              rintro e w6 ⟨rfl, rfl⟩
              go_wp2_with fail
              refine ⟨⟨p + 1, by omega, by go_num, by rw [HCN.out]; go_num, trivial⟩, by simp [intOf]; omega⟩
          · obtain rfl : p = zs.length := by omega
            have HRT := Lib.hid (root_any BB S g cp pbs w5 sn HA5.out)
            go_wp2_with fail
            refine HRT.out.mono ?_
            rintro e w6 ⟨rfl, hb6⟩
            have RN : RowIs (w6.alloc (.cells #[.int .u8 0, .int .u8 0, .int .u8 0, .int .u8 0, .int .u8 0, .int .u8 0, .int .u8 0, .int .u8 0, .int .i64 0, .int .u8 0, .int .u8 0, .int .u8 0, .int .u8 0, .int .u8 0, .int .u8 0, .int .u8 0, .int .u8 0, .int .i64 0] 38)) w6.heap.size 38 #[.int .u8 0, .int .u8 0, .int .u8 0, .int .u8 0, .int .u8 0, .int .u8 0, .int .u8 0, .int .u8 0, .int .i64 0, .int .u8 0, .int .u8 0, .int .u8 0, .int .u8 0, .int .u8 0, .int .u8 0, .int .u8 0, .int .u8 0, .int .i64 0] := rowIs_new w6 _ _
            have hbN : Below w6.heap.size w6 (w6.alloc (.cells #[.int .u8 0, .int .u8 0, .int .u8 0, .int .u8 0, .int .u8 0, .int .u8 0, .int .u8 0, .int .u8 0, .int .i64 0, .int .u8 0, .int .u8 0, .int .u8 0, .int .u8 0, .int .u8 0, .int .u8 0, .int .u8 0, .int .u8 0, .int .i64 0] 38)) := (Below.refl _ _).alloc (Nat.le_refl _) _
            go_wp2_with ((with_reducible refine at_store 38 (.tmp 16) (.tmp 83) ?_); refine wpList_store_own rfl 38 (.tmp 16) (.tmp 83) rfl (w6.heap.size) _ rfl rfl _ _ RN (by kernel_rfl) rfl (by simp [Value.oneCell']) w6.heap.size (Nat.le_refl _) ?_)
            intro w7 hR7 ho7 hs7 hb7
            have hb7 := hb6.trans ((hbN.trans hb7).mono hb6.size)
            have HA7 := Lib.hid (HA5.out.later hb7)
            have HM7 := Lib.hid (HM.out.later hb7)
            have hbR7 := hbR5.trans (hb7.mono (Nat.le_trans HA5.out.hB (Nat.le_of_lt HA5.out.row.lt)))
            clear HRT RN hbN hR7 ho7 hs7 hb6 hb7 HA5 HM hbR5 c0
            have HT7 := Lib.hid (RT3.out.kept (Below.refl _ w3))
            have c1 : w7.cell? ⟨w.heap.size + 1, 1, none⟩ = some (.int .i64 he) := (hbR7.cell (p := ⟨w.heap.size + 1, 1, none⟩) htb).trans (RT3.out.cell 1)
            have HLEN7 := Lib.hid HTT.out.1
            have HMEM := Lib.hid HTT.out.2
            have hm1 : (si.now + 1).tmod he = (si.now + 1) % he := Int.tmod_eq_emod_of_nonneg (by omega)
            have hol : outs.length ≤ zs.length := by
              have h := HLEN7.out
              have := countR_le sn zs.length
              split at h <;> omega
            clear HTT
            rw [HNW.out] at HLEN7
            go_upto_region 20 with fail
            go_cut [93] (fun v wx => v = .bool (decide (sn.root ≥ 0) || (si.now + 1) % he != 0) ∧ w7 = wx)
            case first =>
              cases hr : decide (sn.root ≥ 0)
              · have hr0 : decide (0 ≤ sn.root) = false := hr
                have hhe0 : (he == 0) = false := by rw [beq_eq_false_iff_ne]; omega
                go_wp2_with fail
                go_meet
                exact ⟨by rw [hr]; rfl, rfl⟩
              · have hr0 : decide (0 ≤ sn.root) = true := hr
                go_wp2_with fail
                go_meet
                exact ⟨by rw [hr]; rfl, rfl⟩
            case rest =>
             obtain ⟨rfl, rfl⟩ := hcut
             generalize (decide (sn.root ≥ 0) || (si.now + 1) % he != 0) = cc at *
             clear hm1 c1
             go_upto_if 93 with fail
             go_cut [14] (fun v wx => v = .int .i64 (outs.length : Nat) ∧ w7 = wx)
             case first =>
              cases cc
              · have HLEN7 : Hid (outs.length = countR sn zs.length) := HLEN7.out
                go_wp2_with fail
                go_meet
                exact ⟨by rw [HLEN7.out], rfl⟩
              · have HLEN7 : Hid (outs.length = 0) := HLEN7.out
                go_wp2_with fail
                go_meet
                exact ⟨by rw [HLEN7.out]; rfl, rfl⟩
             case rest =>
              obtain ⟨rfl, rfl⟩ := hcut
              clear HLEN7
              go_wp2_with fail
              go_loopw [18] (fun s18 wx => ∃ k : Nat, k ≤ outs.length ∧ s18 = .int .i64 k ∧ Hid (SpAt BB S g cp pbs wx sn) ∧ Below BB w3 wx ∧ Hid (ManyAt wx oa SO.cells 25 outs)) (fun s18 _ => outs.length - (intOf s18).toNat)
              case atStart => exact ⟨0, Nat.zero_le _, rfl, HA7, hbR7, HM7⟩
              case round =>
                clear HA7 hbR7 HM7
                rename World => wx
                obtain ⟨k, hk, rfl, HA8, hbR8, HM8⟩ := hrel
                by_cases hkl : k < outs.length
                · obtain ⟨b9, off9, hoa, hbl9, hcell9⟩ := HM8.out.range hkl
                  obtain ⟨he1, he2, he3⟩ := HMEM.out outs[k] (List.getElem_mem hkl)
                  subst hoa
                  generalize outs[k] = o at *
                  have HXO := Lib.hid (show wx.rangeAt b9 (off9 + k * 25) [.int .i64 (o.port : Nat), .int .u8 ((o.w.r.f 0).toNat : Int), .int .u8 ((o.w.r.f 1).toNat : Int), .int .u8 ((o.w.r.f 2).toNat : Int), .int .u8 ((o.w.r.f 3).toNat : Int), .int .u8 ((o.w.r.f 4).toNat : Int), .int .u8 ((o.w.r.f 5).toNat : Int), .int .u8 ((o.w.r.f 6).toNat : Int), .int .u8 ((o.w.r.f 7).toNat : Int), .int .u8 ((o.w.b.f 0).toNat : Int), .int .u8 ((o.w.b.f 1).toNat : Int), .int .u8 ((o.w.b.f 2).toNat : Int), .int .u8 ((o.w.b.f 3).toNat : Int), .int .u8 ((o.w.b.f 4).toNat : Int), .int .u8 ((o.w.b.f 5).toNat : Int), .int .u8 ((o.w.b.f 6).toNat : Int), .int .u8 ((o.w.b.f 7).toNat : Int), .int .i64 o.w.c, .int .i64 o.w.p, .int .i64 o.w.age, .int .i64 o.w.ma, .int .i64 o.w.he, .int .i64 o.w.de, .bool o.w.ch, .bool o.w.ak] from hcell9)
                  have kc19 := cell_regrown (show wx.cell? ⟨b9, off9 + k * 25 + 19, none⟩ = some (.int .i64 o.w.age) from HXO.out 19 _ rfl)
                  have kc17 := cell_regrown (show wx.cell? ⟨b9, off9 + k * 25 + 17, none⟩ = some (.int .i64 o.w.c) from HXO.out 17 _ rfl)
                  rw [he1] at kc19
                  rw [he3] at kc17
                  have HXR : Hid (wx.rangeAt b9 (off9 + k * 25 + 1) [.int .u8 ((o.w.r.f 0).toNat : Int), .int .u8 ((o.w.r.f 1).toNat : Int), .int .u8 ((o.w.r.f 2).toNat : Int), .int .u8 ((o.w.r.f 3).toNat : Int), .int .u8 ((o.w.r.f 4).toNat : Int), .int .u8 ((o.w.r.f 5).toNat : Int), .int .u8 ((o.w.r.f 6).toNat : Int), .int .u8 ((o.w.r.f 7).toNat : Int)]) := fun j v hj => by
                    have := (List.getElem?_eq_some_iff.1 hj).1
                    have h := HXO.out (1 + j) v (by
                      rw [← hj]
                      have hj8 : j < 8 := this
                      rcases (show j = 0 ∨ j = 1 ∨ j = 2 ∨ j = 3 ∨ j = 4 ∨ j = 5 ∨ j = 6 ∨ j = 7 from by omega) with rfl | rfl | rfl | rfl | rfl | rfl | rfl | rfl <;> rfl)
                    rw [← Nat.add_assoc] at h
                    exact h
                  have RD8 : Hid (RowIs wx w.heap.size 23 #[.int .u8 ((id.f 0).toNat : Int), .int .u8 ((id.f 1).toNat : Int), .int .u8 ((id.f 2).toNat : Int), .int .u8 ((id.f 3).toNat : Int), .int .u8 ((id.f 4).toNat : Int), .int .u8 ((id.f 5).toNat : Int), .int .u8 ((id.f 6).toNat : Int), .int .u8 ((id.f 7).toNat : Int)]) := (hbR8.block _ (by omega)).trans RD3.out
                  have m1 : ∀ w, (Op.equalIn 10000 23 (.agg #[.int .u8 ((o.w.r.f 0).toNat : Int), .int .u8 ((o.w.r.f 1).toNat : Int), .int .u8 ((o.w.r.f 2).toNat : Int), .int .u8 ((o.w.r.f 3).toNat : Int), .int .u8 ((o.w.r.f 4).toNat : Int), .int .u8 ((o.w.r.f 5).toNat : Int), .int .u8 ((o.w.r.f 6).toNat : Int), .int .u8 ((o.w.r.f 7).toNat : Int)]) (.agg #[.int .u8 ((id.f 0).toNat : Int), .int .u8 ((id.f 1).toNat : Int), .int .u8 ((id.f 2).toNat : Int), .int .u8 ((id.f 3).toNat : Int), .int .u8 ((id.f 4).toNat : Int), .int .u8 ((id.f 5).toNat : Int), .int .u8 ((id.f 6).toNat : Int), .int .u8 ((id.f 7).toNat : Int)])).run Try.prog w = .ok true w := fun w => by
                    have h := run_equalIn_bid 9998 o.w.r.f id.f w
                    rw [eqB_id, show decide (o.w.r = id) = true from decide_eq_true (he2.trans HIDI.out)] at h
                    exact h
                  clear he1 he2 he3 HXO hcell9
                  have hx0 : (0 : Int) ≤ (k : Int) := by omega
                  have hx1 : (k : Int) < (outs.length : Int) := by omega
                  go_upto_region 27 with fail
                  refine wp_region_mix 26 (by kernel_rfl) (by kernel_rfl) (by kernel_rfl) ?_
                  (refine mix_step (by kernel_rfl) (by kernel_rfl) (fun K hK => ?_); go_simp; (try (simp only [↓IntWalk.iteOmega]; go_simp)); (first | (refine hK _ ?_; clear hK K) | (apply Exists.intro; refine ⟨fun _ => ?_, hK _ ?_⟩; (first | fail); clear hK K)))
                  (refine mix_step (by kernel_rfl) (by kernel_rfl) (fun K hK => ?_); go_simp; (try (simp only [↓IntWalk.iteOmega]; go_simp)); (first | (refine hK _ ?_; clear hK K) | (apply Exists.intro; refine ⟨fun _ => ?_, hK _ ?_⟩; (first | fail); clear hK K)))
                  (refine mix_step (by kernel_rfl) (by kernel_rfl) (fun K hK => ?_); go_simp; (try (simp only [↓IntWalk.iteOmega]; go_simp)); (first | (refine hK _ ?_; clear hK K) | (apply Exists.intro; refine ⟨fun _ => ?_, hK _ ?_⟩; (first | fail); clear hK K)))
                  (refine mix_step (by kernel_rfl) (by kernel_rfl) (fun K hK => ?_); go_simp; (try (simp only [↓IntWalk.iteOmega]; go_simp)); (first | (refine hK _ ?_; clear hK K) | (apply Exists.intro; refine ⟨fun _ => ?_, hK _ ?_⟩; (first | fail); clear hK K)))
                  (refine mix_step (by kernel_rfl) (by kernel_rfl) (fun K hK => ?_); go_simp; (try (simp only [↓IntWalk.iteOmega]; go_simp)); (first | (refine hK _ ?_; clear hK K) | (apply Exists.intro; refine ⟨fun _ => ?_, hK _ ?_⟩; (first | fail); clear hK K)))
                  (refine mix_step (by kernel_rfl) (by kernel_rfl) (fun K hK => ?_); go_simp; (try (simp only [↓IntWalk.iteOmega]; go_simp)); (first | (refine hK _ ?_; clear hK K) | (apply Exists.intro; refine ⟨fun _ => ?_, hK _ ?_⟩; (first | fail); clear hK K)))
                  (refine mix_step (by kernel_rfl) (by kernel_rfl) (fun K hK => ?_); go_simp; (try (simp only [↓IntWalk.iteOmega]; go_simp)); (first | (refine hK _ ?_; clear hK K) | (apply Exists.intro; refine ⟨fun _ => ?_, hK _ ?_⟩; (first | fail); clear hK K)))
                  (refine mix_step (by kernel_rfl) (by kernel_rfl) (fun K hK => ?_); go_simp; (try (simp only [↓IntWalk.iteOmega]; go_simp)); (first | (refine hK _ ?_; clear hK K) | (apply Exists.intro; refine ⟨fun _ => ?_, hK _ ?_⟩; (first | fail); clear hK K)))
                  (refine mix_step (by kernel_rfl) (by kernel_rfl) (fun K hK => ?_); go_simp; (try (simp only [↓IntWalk.iteOmega]; go_simp)); (first | (refine hK _ ?_; clear hK K) | (apply Exists.intro; refine ⟨fun _ => ?_, hK _ ?_⟩; (first | fail); clear hK K)))
                  (refine mix_step (by kernel_rfl) (by kernel_rfl) (fun K hK => ?_); go_simp; (try (simp only [↓IntWalk.iteOmega]; go_simp)); (first | (refine hK _ ?_; clear hK K) | (apply Exists.intro; refine ⟨fun _ => ?_, hK _ ?_⟩; (first | fail); clear hK K)))
                  (refine mix_step (by kernel_rfl) (by kernel_rfl) (fun K hK => ?_); go_simp; (try (simp only [↓IntWalk.iteOmega]; go_simp)); (first | (refine hK _ ?_; clear hK K) | (apply Exists.intro; refine ⟨fun _ => ?_, hK _ ?_⟩; (first | fail); clear hK K)))
                  (refine mix_step (by kernel_rfl) (by kernel_rfl) (fun K hK => ?_); go_simp; (try (simp only [↓IntWalk.iteOmega]; go_simp)); (first | (refine hK _ ?_; clear hK K) | (apply Exists.intro; refine ⟨fun _ => ?_, hK _ ?_⟩; (first | fail); clear hK K)))
                  (refine mix_step (by kernel_rfl) (by kernel_rfl) (fun K hK => ?_); go_simp; (try (simp only [↓IntWalk.iteOmega]; go_simp)); (first | (refine hK _ ?_; clear hK K) | (apply Exists.intro; refine ⟨fun _ => ?_, hK _ ?_⟩; (first | fail); clear hK K)))
                  refine mix_exact (.agg #[.int .u8 ((o.w.r.f 0).toNat : Int), .int .u8 ((o.w.r.f 1).toNat : Int), .int .u8 ((o.w.r.f 2).toNat : Int), .int .u8 ((o.w.r.f 3).toNat : Int), .int .u8 ((o.w.r.f 4).toNat : Int), .int .u8 ((o.w.r.f 5).toNat : Int), .int .u8 ((o.w.r.f 6).toNat : Int), .int .u8 ((o.w.r.f 7).toNat : Int)]) rfl (exact_load_range (off := off9 + k * 25 + 1) (sub := [.int .u8 ((o.w.r.f 0).toNat : Int), .int .u8 ((o.w.r.f 1).toNat : Int), .int .u8 ((o.w.r.f 2).toNat : Int), .int .u8 ((o.w.r.f 3).toNat : Int), .int .u8 ((o.w.r.f 4).toNat : Int), .int .u8 ((o.w.r.f 5).toNat : Int), .int .u8 ((o.w.r.f 6).toNat : Int), .int .u8 ((o.w.r.f 7).toNat : Int)]) rfl rfl (by simp) HXR.out hbl9 Try.underlying23 rfl (by kernel_rfl)) ?_
                  refine mix_exact (.agg #[.int .u8 ((id.f 0).toNat : Int), .int .u8 ((id.f 1).toNat : Int), .int .u8 ((id.f 2).toNat : Int), .int .u8 ((id.f 3).toNat : Int), .int .u8 ((id.f 4).toNat : Int), .int .u8 ((id.f 5).toNat : Int), .int .u8 ((id.f 6).toNat : Int), .int .u8 ((id.f 7).toNat : Int)]) rfl (exact_load_row rfl rfl (by simp) RD8.out Try.underlying23 rfl (by kernel_rfl)) ?_
                  (refine mix_step (by kernel_rfl) (by kernel_rfl) (fun K hK => ?_); go_simp; (try (simp only [↓IntWalk.iteOmega]; go_simp)); (first | (refine hK _ ?_; clear hK K) | (apply Exists.intro; refine ⟨fun _ => ?_, hK _ ?_⟩; (first | fail); clear hK K)))
                  (refine mix_step (by kernel_rfl) (by kernel_rfl) (fun K hK => ?_); go_simp; (try (simp only [↓IntWalk.iteOmega]; go_simp)); (first | (refine hK _ ?_; clear hK K) | (apply Exists.intro; refine ⟨fun _ => ?_, hK _ ?_⟩; (first | fail); clear hK K)))
                  (refine mix_step (by kernel_rfl) (by kernel_rfl) (fun K hK => ?_); go_simp; (try (simp only [↓IntWalk.iteOmega]; go_simp)); (first | (refine hK _ ?_; clear hK K) | (apply Exists.intro; refine ⟨fun _ => ?_, hK _ ?_⟩; (first | fail); clear hK K)))
                  (refine mix_step (by kernel_rfl) (by kernel_rfl) (fun K hK => ?_); go_simp; (try (simp only [↓IntWalk.iteOmega]; go_simp)); (first | (refine hK _ ?_; clear hK K) | (apply Exists.intro; refine ⟨fun _ => ?_, hK _ ?_⟩; (first | fail); clear hK K)))
                  (refine mix_step (by kernel_rfl) (by kernel_rfl) (fun K hK => ?_); go_simp; (try (simp only [↓IntWalk.iteOmega]; go_simp)); (first | (refine hK _ ?_; clear hK K) | (apply Exists.intro; refine ⟨fun _ => ?_, hK _ ?_⟩; (first | fail); clear hK K)))
                  (refine mix_step (by kernel_rfl) (by kernel_rfl) (fun K hK => ?_); go_simp; (try (simp only [↓IntWalk.iteOmega]; go_simp)); (first | (refine hK _ ?_; clear hK K) | (apply Exists.intro; refine ⟨fun _ => ?_, hK _ ?_⟩; (first | fail); clear hK K)))
                  (refine mix_step (by kernel_rfl) (by kernel_rfl) (fun K hK => ?_); go_simp; (try (simp only [↓IntWalk.iteOmega]; go_simp)); (first | (refine hK _ ?_; clear hK K) | (apply Exists.intro; refine ⟨fun _ => ?_, hK _ ?_⟩; (first | fail); clear hK K)))
                  (refine mix_step (by kernel_rfl) (by kernel_rfl) (fun K hK => ?_); go_simp; (try (simp only [↓IntWalk.iteOmega]; go_simp)); (first | (refine hK _ ?_; clear hK K) | (apply Exists.intro; refine ⟨fun _ => ?_, hK _ ?_⟩; (first | fail); clear hK K)))
                  (refine mix_step (by kernel_rfl) (by kernel_rfl) (fun K hK => ?_); go_simp; (try (simp only [↓IntWalk.iteOmega]; go_simp)); (first | (refine hK _ ?_; clear hK K) | (apply Exists.intro; refine ⟨fun _ => ?_, hK _ ?_⟩; (first | fail); clear hK K)))
                  (refine mix_step (by kernel_rfl) (by kernel_rfl) (fun K hK => ?_); go_simp; (try (simp only [↓IntWalk.iteOmega]; go_simp)); (first | (refine hK _ ?_; clear hK K) | (apply Exists.intro; refine ⟨fun _ => ?_, hK _ ?_⟩; (first | fail); clear hK K)))
                  (refine mix_step (by kernel_rfl) (by kernel_rfl) (fun K hK => ?_); go_simp; (try (simp only [↓IntWalk.iteOmega]; go_simp)); (first | (refine hK _ ?_; clear hK K) | (apply Exists.intro; refine ⟨fun _ => ?_, hK _ ?_⟩; (first | fail); clear hK K)))
                  refine mix_nil ?_
                  rintro ⟨dq, osq⟩
                  have hb9 := below_regrown wx dq osq
                  have HA9 := Lib.hid (HA8.out.later hb9)
                  have HM9 := Lib.hid (HM8.out.later hb9)
                  have hbR9 := hbR8.trans (hb9.mono (Nat.le_trans HA8.out.hB (Nat.le_of_lt HA8.out.row.lt)))
                  clear kc19 kc17 HXR RD8 m1 HA8 HM8 hbR8 hb9
                  generalize grow (redrawn wx dq) osq = w9 at *
                  refine (show wpList _ _ _ _ _ _ from ?_)
                  simp only [List.drop, Act.put, List.setIfInBounds_toArray, List.set]
                  go_wp2_with fail
                  refine ⟨⟨k + 1, by omega, by go_num, HA9, hbR9, HM9⟩, by simp [intOf]; omega⟩
                · obtain rfl : k = outs.length := by omega
                  go_wp2_with fail
                  refine ⟨⟨i + 1, by omega, by go_num, by rw [HN.out, HNW.out], by show SpAt _ _ _ _ _ _ _; rw [HN.out]; exact HA8.out, hbR8⟩, by simp [intOf]; omega⟩
      · have g5 : decide ((1 : Int) < (x.d.toNat : Int) % 8) = true := decide_eq_true (by have := HKD.out; omega)
        have hnw : (si.act x).1.now = si.now := by
          rw [HACT.out, if_neg hk]
        rw [← HN.out] at HA5 hnw
        have HNW := Lib.hid hnw
        clear HACT hnw
        go_wp2_with fail
        refine ⟨⟨i + 1, by omega, by go_num, by rw [HNW.out], HA5, hbR5⟩, by simp [intOf]; omega⟩
    · have hbFin := hbf.trans (hbR.mono hBB)
      clear hbf hbR HW
      go_wp2_with fail
      go_ret
      exact ⟨rfl, hbFin⟩

set_option maxHeartbeats 1000000 in
theorem spanTells_walk (f : Nat → UInt8) (a0 : Option Addr) (zs : List Int) (cap0 : Nat) (ma he de : Int) (a1 : Option Addr) (acts : List ActS) (cap1 : Nat) (w : World) (hA0 : IntsAt w a0 zs) (_ : zs.length ≤ 9223372036854775807) (_ : I64 ma ∧ I64 he ∧ I64 de) (hA1 : ManyAt w a1 ActS.cells 26 acts) (_ : acts.length ≤ 9223372036854775807) (hA2 : ∀ a ∈ acts, a.ok) :
    Calls Try.prog 6 #[.agg #[.int .u8 ((f 0).toNat : Int), .int .u8 ((f 1).toNat : Int), .int .u8 ((f 2).toNat : Int), .int .u8 ((f 3).toNat : Int), .int .u8 ((f 4).toNat : Int), .int .u8 ((f 5).toNat : Int), .int .u8 ((f 6).toNat : Int), .int .u8 ((f 7).toNat : Int)], .slice a0 zs.length cap0, .agg #[.int .i64 ma, .int .i64 he, .int .i64 de], .slice a1 acts.length cap1] w fun e w' => e = .returned (.bool true) ∧ Below w.heap.size w w' := by
  show Calls Try.prog 6 #[.agg #[.int .u8 (((Id8.of f).f 0).toNat : Int), .int .u8 (((Id8.of f).f 1).toNat : Int), .int .u8 (((Id8.of f).f 2).toNat : Int), .int .u8 (((Id8.of f).f 3).toNat : Int), .int .u8 (((Id8.of f).f 4).toNat : Int), .int .u8 (((Id8.of f).f 5).toNat : Int), .int .u8 (((Id8.of f).f 6).toNat : Int), .int .u8 (((Id8.of f).f 7).toNat : Int)], .slice a0 zs.length cap0, .agg #[.int .i64 ma, .int .i64 he, .int .i64 de], .slice a1 acts.length cap1] w _
  generalize Id8.of f = id
  by_cases h1 : 60 < acts.length
  · exact spanTells_long id a0 zs cap0 ma he de a1 acts cap1 w h1
  · by_cases h2 : 100 < zs.length
    · exact spanTells_wide id a0 zs cap0 ma he de a1 acts cap1 w (by omega) h2
    · cases h3 : newOk zs ma he de
      · exact spanTells_bad id a0 zs cap0 ma he de a1 acts cap1 w (by omega) (by omega) hA0 h3
      · exact spanTells_go id a0 zs cap0 ma he de a1 acts cap1 w (by omega) (by omega) hA0 hA1 hA2 h3
end Go.Proofs.Ytnpoholeemcklaa
