/- Every call as the document says; the walk of LearnPlays. By an AI agent. -/
import Derived.Test.YtcdklbhfcfamnaaLearnSame
import Derived.Test.YtcdklbhfcfamnaaLearnLimits
import Derived.Test.YtcdklbhfcfamnaaStep
import Derived.Deep.CutBlock
namespace Go.Proofs.Ytcdklbhfcfamnaa
open Go.RowKit Go.MapKept Go.Maps Go.WideShapes Go.Sort Grow

theorem run_build_fix (v p a b c d e f : Int) (w : World) :
    (Instr.build 51 #[(0, .int .i64 v), (1, .int .i64 p), (3, .agg #[.int .u8 a, .int .u8 b, .int .u8 c, .int .u8 d, .int .u8 e, .int .u8 f]), (4, .bool true)]).run Try.prog w = .ok (.agg #[.int .i64 v, .int .i64 p, .int .i64 0, .int .u8 a, .int .u8 b, .int .u8 c, .int .u8 d, .int .u8 e, .int .u8 f, .bool true]) w := by kernel_rfl
theorem many_grown {w w' : World} {ao : Option Addr} {M : Nat} {l : List Ent} (h : ManyAt w ao encE 10 l) (hg : w.grownBy w' (some M)) (hM : ∃ es ck, w.heap[M]? = some (.map es ck)) : ManyAt w' ao encE 10 l := by
  rcases h with h | ⟨b, off, e, hl, hc⟩
  · exact .inl h
  · by_cases h0 : l = []
    · exact .inl h0
    · have hbM : b ≠ M := fun e1 => by
        subst e1
        obtain ⟨es, ck, h1⟩ := hM
        have h2 := hc 0 (List.length_pos_iff.2 h0) 0 _ rfl
        simp [World.cell?, h1] at h2
      refine .inr ⟨b, off, e, Nat.lt_of_lt_of_le hl hg.size, fun i h j v hj => ?_⟩
      have e1 : w'.heap[b]? = w.heap[b]? := hg.block b hl (fun e => hbM (by cases e; rfl))
      rw [show w'.cell? ⟨b, off + i * 10 + j, none⟩ = w.cell? ⟨b, off + i * 10 + j, none⟩ from World.cell?_of_block (w := w) e1]
      exact hc i h j v hj
theorem row_grown {w w' : World} {g : Nat} {t : TypeId} {cs : Array Value} {M : Nat} (h : RowIs w g t cs) (hg : w.grownBy w' (some M)) (hM : ∃ es ck, w.heap[M]? = some (.map es ck)) : RowIs w' g t cs := by
  have hgM : g ≠ M := fun e1 => by
    subst e1
    obtain ⟨es, ck, h1⟩ := hM
    rw [show w.heap[g]? = _ from h] at h1
    cases h1
  exact (hg.block g h.lt (fun e => hgM (by cases e; rfl))).trans h
theorem tab_map {B T M : Nat} {w : World} {ageing : Int} {lims : List Int} {L : List Ent} (h : TabIs B T M w ageing lims L) : ∃ es ck, w.heap[M]? = some (.map es ck) := by
  obtain ⟨_, _, _, _, _, _, hM, _⟩ := h
  obtain ⟨es, ck, h1, _⟩ := hM
  exact ⟨es, ck, h1⟩

set_option maxRecDepth 20000 in
set_option maxHeartbeats 4000000 in
theorem learnPlays_bad (ageing : Int) (a0 : Option Addr) (zs : List Int) (cap0 : Nat) (a1 : Option Addr) (acts : List ActD) (cap1 : Nat) (w : World) (ha : acts.length ≤ 80) (hz : zs.length ≤ 100) (hA0 : IntsAt w a0 zs) (h : ageing < 1 ∨ 1000000 < ageing ∨ 32 < zs.length ∨ anyBad zs = true) :
    Calls Try.prog 7 #[.int .i64 ageing, .slice a0 zs.length cap0, .slice a1 acts.length cap1] w fun e w' => e = .returned (.bool true) ∧ Below w.heap.size w w' := by
  have HZ := Lib.hid hA0
  have g1 : ((acts.length : Int) > 80) = False := by simp; omega
  have g2 : ((zs.length : Int) > 100) = False := by simp; omega
  go_enter Try.func7, Try.ntmps7
  go_wp2_with fail
  refine (awake_any _).mono ?_
  rintro e w1 ⟨rfl, hbW⟩
  have HN := Lib.hid (new_bad ageing a0 zs cap0 w1 (hA0.after hbW) (by omega) h)
  have HNO : Hid ((decide (1 ≤ ageing) && decide (ageing ≤ 1000000) && decide ((zs.length : Int) ≤ 32) && zs.all okLim) = false) := by
    show _ = _
    unfold anyBad at h
    rcases h with h | h | h | h
    · rw [decide_eq_false (show ¬ 1 ≤ ageing by omega)]; rfl
    · rw [decide_eq_false (show ¬ ageing ≤ 1000000 by omega)]; simp
    · rw [decide_eq_false (show ¬ (zs.length : Int) ≤ 32 by omega)]; simp
    · have : zs.all okLim = false := by simpa using h
      rw [this]; simp
  clear hA0 h
  go_wp2_with fail
  refine HN.out.mono ?_
  rintro e w2 ⟨rfl, rfl⟩
  have HZ2 := Lib.hid (HZ.out.after hbW)
  clear HN HZ
  go_upto_region 4 with fail
  go_cut [9] (fun v wx => v = .bool (decide (1 ≤ ageing) && decide (ageing ≤ 1000000) && decide ((zs.length : Int) ≤ 32)) ∧ w1 = wx)
  case first =>
    by_cases h1 : 1 ≤ ageing
    · have p1 : decide (1 ≤ ageing) = true := decide_eq_true h1
      have p1' : (ageing ≥ 1) = True := eq_true h1
      by_cases h2 : ageing ≤ 1000000
      · have p2 : decide (ageing ≤ 1000000) = true := decide_eq_true h2
        by_cases h3 : (zs.length : Int) ≤ 32
        · have p3 : decide ((zs.length : Int) ≤ 32) = true := decide_eq_true h3
          go_wp2_with fail
          go_meet
          exact ⟨by rw [p1, p2, p3]; rfl, rfl⟩
        · have p3 : decide ((zs.length : Int) ≤ 32) = false := decide_eq_false h3
          go_wp2_with fail
          go_meet
          exact ⟨by rw [p1, p2, p3]; rfl, rfl⟩
      · have p2 : decide (ageing ≤ 1000000) = false := decide_eq_false h2
        go_wp2_with fail
        go_meet
        exact ⟨by rw [p1, p2]; rfl, rfl⟩
    · have p1 : decide (1 ≤ ageing) = false := decide_eq_false h1
      have p1' : (ageing ≥ 1) = False := eq_false h1
      go_wp2_with fail
      go_meet
      exact ⟨by rw [p1]; rfl, rfl⟩
  case rest =>
    obtain ⟨rfl, rfl⟩ := hcut
    generalize (decide (1 ≤ ageing) && decide (ageing ≤ 1000000) && decide ((zs.length : Int) ≤ 32)) = r0 at *
    generalize w1 = w2 at *
    clear g1 g2
    go_upto_region 5 with fail
    go_wp2_with fail
    go_loopw [9, 10] (fun s9 s10 wl => ∃ i : Nat, i ≤ zs.length ∧ s10 = .int .i64 i ∧ s9 = .bool (r0 && (zs.take i).all okLim) ∧ w2 = wl) (fun _ s10 _ => zs.length - (intOf s10).toNat)
    case atStart => exact ⟨0, Nat.zero_le _, rfl, by simp, rfl⟩
    case round =>
      obtain ⟨i, hi, rfl, rfl, rfl⟩ := hrel
      by_cases hlt : i < zs.length
      · obtain ⟨b0, off0, ha0, hz0⟩ : ∃ b0 off0, a0 = some ⟨b0, off0, none⟩ ∧ w2.cell? ⟨b0, off0 + i, none⟩ = some (.int .i64 (zs.getD i 0)) := by
          rcases HZ2.out with h | ⟨b0, off0, h1, h2⟩
          · rw [h] at hlt
            exact absurd hlt (Nat.not_lt_zero _)
          · exact ⟨b0, off0, h1, h2 i hlt⟩
        subst ha0
        have HT2 : Hid ((zs.take (i + 1)).all okLim = ((zs.take i).all okLim && okLim (zs.getD i 0))) := by
          show _ = _
          rw [take_snoc zs i hlt, List.all_append, List.getD, List.getElem?_eq_getElem hlt]
          simp
        have HOK : Hid (okLim (zs.getD i 0) = (decide (0 ≤ zs.getD i 0) && decide (zs.getD i 0 ≤ 65535))) := by
          show _ = _
          unfold okLim
          rw [Bool.decide_and]
        generalize zs.getD i 0 = z at *
        rw [HOK.out] at HT2
        clear HOK
        generalize (zs.take i).all okLim = ra at *
        have HT3 : Hid ((r0 && (zs.take (i + 1)).all okLim) = ((r0 && ra) && (decide (0 ≤ z) && decide (z ≤ 65535)))) := by
          show _ = _
          rw [HT2.out, Bool.and_assoc]
        generalize (r0 && ra) = rb at *
        clear HT2
        cases rb
        · have HT3 : Hid ((r0 && (zs.take (i + 1)).all okLim) = false) := HT3.out
          go_wp2_with fail
          refine ⟨⟨i + 1, by omega, by go_num, by rw [HT3.out], by first | rfl | trivial⟩, by simp [intOf]; omega⟩
        · by_cases hz1 : 0 ≤ z
          · have z1 : decide (0 ≤ z) = true := decide_eq_true hz1
            have z1' : (z ≥ 0) = True := eq_true hz1
            by_cases hz2 : z ≤ 65535
            · have z2 : decide (z ≤ 65535) = true := decide_eq_true hz2
              rw [z1, z2] at HT3
              have HT3 : Hid ((r0 && (zs.take (i + 1)).all okLim) = true) := HT3.out
              go_wp2_with fail
              refine ⟨⟨i + 1, by omega, by go_num, by rw [HT3.out], by first | rfl | trivial⟩, by simp [intOf]; omega⟩
            · have z2 : decide (z ≤ 65535) = false := decide_eq_false hz2
              rw [z1, z2] at HT3
              have HT3 : Hid ((r0 && (zs.take (i + 1)).all okLim) = false) := HT3.out
              go_wp2_with fail
              refine ⟨⟨i + 1, by omega, by go_num, by rw [HT3.out], by first | rfl | trivial⟩, by simp [intOf]; omega⟩
          · have z1 : decide (0 ≤ z) = false := decide_eq_false hz1
            have z1' : (z ≥ 0) = False := eq_false hz1
            rw [z1] at HT3
            have HT3 : Hid ((r0 && (zs.take (i + 1)).all okLim) = false) := HT3.out
            go_wp2_with fail
            refine ⟨⟨i + 1, by omega, by go_num, by rw [HT3.out], by first | rfl | trivial⟩, by simp [intOf]; omega⟩
      · obtain rfl : i = zs.length := by omega
        rw [List.take_length]
        rw [HNO.out]
        go_wp2_with fail
        go_ret
        exact ⟨rfl, hbW⟩


set_option maxRecDepth 20000 in
set_option maxHeartbeats 16000000 in
theorem learnPlays_go (ageing : Int) (hag : 1 ≤ ageing ∧ ageing ≤ 1000000) (a0 : Option Addr) (zs : List Int) (cap0 : Nat) (a1 : Option Addr) (acts : List ActD) (cap1 : Nat) (w : World) (hz : zs.length ≤ 32) (hbad : anyBad zs = false) (ha : acts.length ≤ 80) (hA0 : IntsAt w a0 zs) (hA1 : ManyAt w a1 ActD.cells 10 acts) (hok : ∀ a ∈ acts, a.ok) :
    Calls Try.prog 7 #[.int .i64 ageing, .slice a0 zs.length cap0, .slice a1 acts.length cap1] w fun e w' => e = .returned (.bool true) ∧ Below w.heap.size w w' := by
  have HA := Lib.hid hA1
  have HOKA := Lib.hid hok
  have HZ := Lib.hid hA0
  have HALL : Hid (zs.all okLim = true) := by
    have h1 := hbad
    unfold anyBad at h1
    show _ = _
    simpa using h1
  have g1 : ((acts.length : Int) > 80) = False := by simp; omega
  have g2 : ((zs.length : Int) > 100) = False := by simp; omega
  go_enter Try.func7, Try.ntmps7
  go_wp2_with fail
  refine (awake_any _).mono ?_
  rintro e w1 ⟨rfl, hbW⟩
  have HN := Lib.hid (new_ok ageing hag a0 zs cap0 w1 (hA0.after hbW) hz hbad)
  clear hA0 hA1 hok
  go_wp2_with fail
  refine HN.out.mono ?_
  rintro e w2 ⟨T, M, rfl, hT, hb2⟩
  have hB1 := hbW.size
  have hbW := hbW.trans (hb2.mono hB1)
  clear hb2 HN
  generalize w1.heap.size = BB at *
  have hBM := hT.baseM
  have hMw : w.heap.size ≤ M := Nat.le_trans hB1 hBM
  have HT0 := Lib.hid hT
  have HZ2 := Lib.hid (HZ.out.after hbW)
  have p1 : decide (1 ≤ ageing) = true := decide_eq_true hag.1
  have p1' : (ageing ≥ 1) = True := eq_true hag.1
  have p2 : decide (ageing ≤ 1000000) = true := decide_eq_true hag.2
  have p3 : decide ((zs.length : Int) ≤ 32) = true := decide_eq_true (by omega)
  obtain ⟨r0, hr0⟩ : ∃ r0 : Bool, r0 = true := ⟨true, rfl⟩
  have HR0 := Lib.hid hr0
  clear hT g1 g2 hr0
  go_upto_region 4 with fail
  go_cut [9] (fun v wx => v = .bool r0 ∧ w2 = wx)
  case first =>
    go_wp2_with fail
    go_meet
    exact ⟨by rw [HR0.out], rfl⟩
  case rest =>
    obtain ⟨rfl, rfl⟩ := hcut
    clear p1 p1' p2 p3
    go_upto_region 5 with fail
    go_wp2_with fail
    go_loopw [9, 10] (fun s9 s10 wl => ∃ i : Nat, i ≤ zs.length ∧ s10 = .int .i64 i ∧ s9 = .bool (r0 && (zs.take i).all okLim) ∧ w2 = wl) (fun _ s10 _ => zs.length - (intOf s10).toNat)
    case atStart => exact ⟨0, Nat.zero_le _, rfl, by simp, rfl⟩
    case round =>
      obtain ⟨i, hi, rfl, rfl, rfl⟩ := hrel
      by_cases hlt : i < zs.length
      · obtain ⟨b0, off0, ha0, hz0⟩ : ∃ b0 off0, a0 = some ⟨b0, off0, none⟩ ∧ w2.cell? ⟨b0, off0 + i, none⟩ = some (.int .i64 (zs.getD i 0)) := by
          rcases HZ2.out with h | ⟨b0, off0, h1, h2⟩
          · rw [h] at hlt
            exact absurd hlt (Nat.not_lt_zero _)
          · exact ⟨b0, off0, h1, h2 i hlt⟩
        subst ha0
        have HT2 : Hid ((zs.take (i + 1)).all okLim = ((zs.take i).all okLim && okLim (zs.getD i 0))) := by
          show _ = _
          rw [take_snoc zs i hlt, List.all_append, List.getD, List.getElem?_eq_getElem hlt]
          simp
        have HOK : Hid (okLim (zs.getD i 0) = (decide (0 ≤ zs.getD i 0) && decide (zs.getD i 0 ≤ 65535))) := by
          show _ = _
          unfold okLim
          rw [Bool.decide_and]
        generalize zs.getD i 0 = z at *
        rw [HOK.out] at HT2
        clear HOK
        generalize (zs.take i).all okLim = ra at *
        have HT3 : Hid ((r0 && (zs.take (i + 1)).all okLim) = ((r0 && ra) && (decide (0 ≤ z) && decide (z ≤ 65535)))) := by
          show _ = _
          rw [HT2.out, Bool.and_assoc]
        generalize (r0 && ra) = rb at *
        clear HT2
        cases rb
        · have HT3 : Hid ((r0 && (zs.take (i + 1)).all okLim) = false) := HT3.out
          go_wp2_with fail
          refine ⟨⟨i + 1, by omega, by go_num, by rw [HT3.out], by first | rfl | trivial⟩, by simp [intOf]; omega⟩
        · by_cases hz1 : 0 ≤ z
          · have z1 : decide (0 ≤ z) = true := decide_eq_true hz1
            have z1' : (z ≥ 0) = True := eq_true hz1
            by_cases hz2 : z ≤ 65535
            · have z2 : decide (z ≤ 65535) = true := decide_eq_true hz2
              rw [z1, z2] at HT3
              have HT3 : Hid ((r0 && (zs.take (i + 1)).all okLim) = true) := HT3.out
              go_wp2_with fail
              refine ⟨⟨i + 1, by omega, by go_num, by rw [HT3.out], by first | rfl | trivial⟩, by simp [intOf]; omega⟩
            · have z2 : decide (z ≤ 65535) = false := decide_eq_false hz2
              rw [z1, z2] at HT3
              have HT3 : Hid ((r0 && (zs.take (i + 1)).all okLim) = false) := HT3.out
              go_wp2_with fail
              refine ⟨⟨i + 1, by omega, by go_num, by rw [HT3.out], by first | rfl | trivial⟩, by simp [intOf]; omega⟩
          · have z1 : decide (0 ≤ z) = false := decide_eq_false hz1
            have z1' : (z ≥ 0) = False := eq_false hz1
            rw [z1] at HT3
            have HT3 : Hid ((r0 && (zs.take (i + 1)).all okLim) = false) := HT3.out
            go_wp2_with fail
            refine ⟨⟨i + 1, by omega, by go_num, by rw [HT3.out], by first | rfl | trivial⟩, by simp [intOf]; omega⟩
      · obtain rfl : i = zs.length := by omega
        rw [List.take_length]
        rw [HALL.out, HR0.out, Bool.and_self]
        clear hlt
        go_upto_region 12 with fail
        go_wp2_with fail
        go_loopw [11, 12] (fun s11 s12 wr => ∃ (i : Nat) (L l : List Ent) (ao : Option Addr) (cap : Nat), i ≤ acts.length ∧ s12 = .int .i64 i ∧ s11 = .slice ao (List.length l) cap ∧ L.length ≤ i ∧ Hid (ManyAt wr ao encE 10 l) ∧ Hid (TabIs BB T M wr ageing zs L) ∧ Hid (Kept zs.length i L) ∧ Hid (Same L l) ∧ Below w.heap.size w wr) (fun _ s12 _ => acts.length - (intOf s12).toNat)
        case atStart => exact ⟨0, [], [], none, 0, Nat.zero_le _, rfl, rfl, Nat.zero_le _, .inl rfl, HT0, (fun e he => by cases he), same_nil, hbW⟩
        case round =>
          clear hbW HT0
          rename World => wr
          obtain ⟨i, L, l, ao, cap, hi, rfl, rfl, hLi, HL, HT, HK, HS, hbW⟩ := hrel
          by_cases hlt : i < acts.length
          · obtain ⟨b, off, hao, hbl, hcell⟩ := (HA.out.later hbW).range hlt
            have HXV := Lib.hid (HOKA.out acts[i] (List.getElem_mem hlt)).1
            generalize acts[i] = x at *
            subst hao
            have hll : l.length ≤ 1000 := by rw [same_len HS.out]; omega
            have HR := Lib.hid (show wr.rangeAt b (off + i * 10) [.int .u8 (x.x.toNat : Int), .int .i64 x.v, .int .i64 x.port, .int .i64 x.n, .int .u8 (x.m.a.toNat : Int), .int .u8 (x.m.b.toNat : Int), .int .u8 (x.m.c.toNat : Int), .int .u8 (x.m.d.toNat : Int), .int .u8 (x.m.e.toNat : Int), .int .u8 (x.m.f.toNat : Int)] from hcell)
            clear hcell
            go_upto_region 16 with ((with_reducible refine at_load 38 (.tmp 93) ?_); refine wpList_load_midW rfl 38 (.tmp 93) rfl b (off + i * 10) rfl [.int .u8 (x.x.toNat : Int), .int .i64 x.v, .int .i64 x.port, .int .i64 x.n, .int .u8 (x.m.a.toNat : Int), .int .u8 (x.m.b.toNat : Int), .int .u8 (x.m.c.toNat : Int), .int .u8 (x.m.d.toNat : Int), .int .u8 (x.m.e.toNat : Int), .int .u8 (x.m.f.toNat : Int)] _ HR.out Try.underlying38 rfl (by kernel_rfl) ?_)
            have HR3 := Lib.hid (rowIs_new wr 38 #[.int .u8 (x.x.toNat : Int), .int .i64 x.v, .int .i64 x.port, .int .i64 x.n, .int .u8 (x.m.a.toNat : Int), .int .u8 (x.m.b.toNat : Int), .int .u8 (x.m.c.toNat : Int), .int .u8 (x.m.d.toNat : Int), .int .u8 (x.m.e.toNat : Int), .int .u8 (x.m.f.toNat : Int)])
            have hb3 : Below wr.heap.size wr (wr.alloc (.cells #[.int .u8 (x.x.toNat : Int), .int .i64 x.v, .int .i64 x.port, .int .i64 x.n, .int .u8 (x.m.a.toNat : Int), .int .u8 (x.m.b.toNat : Int), .int .u8 (x.m.c.toNat : Int), .int .u8 (x.m.d.toNat : Int), .int .u8 (x.m.e.toNat : Int), .int .u8 (x.m.f.toNat : Int)] 38)) := (Below.refl _ wr).alloc (Nat.le_refl _) _
            have HT3 := Lib.hid (HT.out.later hb3)
            have HL3 := Lib.hid (HL.out.later hb3)
            have hbW3 := hbW.trans (hb3.mono hbW.size)
            clear hb3 HT hbW HR HL
            generalize hw3 : wr.alloc (.cells #[.int .u8 (x.x.toNat : Int), .int .i64 x.v, .int .i64 x.port, .int .i64 x.n, .int .u8 (x.m.a.toNat : Int), .int .u8 (x.m.b.toNat : Int), .int .u8 (x.m.c.toNat : Int), .int .u8 (x.m.d.toNat : Int), .int .u8 (x.m.e.toNat : Int), .int .u8 (x.m.f.toNat : Int)] 38) = w3 at *
            clear hw3
            have c0 : w3.cell? ⟨wr.heap.size, 0, none⟩ = some (.int .u8 (x.x.toNat : Int)) := HR3.out.cell 0
            have HX := Lib.hid (range_of_row (off := 4) (sub := macCells x.m) HR3.out rfl)
            have c1 : w3.cell? ⟨wr.heap.size, 1, none⟩ = some (.int .i64 x.v) := HR3.out.cell 1
            have c2 : w3.cell? ⟨wr.heap.size, 2, none⟩ = some (.int .i64 x.port) := HR3.out.cell 2
            have c3 : w3.cell? ⟨wr.heap.size, 3, none⟩ = some (.int .i64 x.n) := HR3.out.cell 3
            go_upto_block 4 with fail
            go_cut [11, 97] (fun v _ wx => ∃ ao' l' cap' L', v = .slice ao' (List.length l') cap' ∧ Hid (ManyAt wx ao' encE 10 l') ∧ L'.length ≤ i + 1 ∧ Hid (TabIs BB T M wx ageing zs L') ∧ Hid (Kept zs.length (i + 1) L') ∧ Hid (Same L' l') ∧ Hid (RowIs wx wr.heap.size 38 #[.int .u8 (x.x.toNat : Int), .int .i64 x.v, .int .i64 x.port, .int .i64 x.n, .int .u8 (x.m.a.toNat : Int), .int .u8 (x.m.b.toNat : Int), .int .u8 (x.m.c.toNat : Int), .int .u8 (x.m.d.toNat : Int), .int .u8 (x.m.e.toNat : Int), .int .u8 (x.m.f.toNat : Int)]) ∧ Below w.heap.size w wx)
            case first =>
              by_cases h4 : (x.x.toNat : Int) % 8 = 4
              · as_aux_lemma =>
                  have HM := Lib.hid (refmay_any ao l cap a0 zs cap0 x.v x.m x.port w3 HL3.out hll (same_nodup HS.out))
                  rw [may_same HS.out] at HM
                  go_wp2_with ((with_reducible refine at_load 23 (.tmp 127) ?_); refine wpList_load_midW rfl 23 (.tmp 127) rfl (wr.heap.size) 4 rfl [.int .u8 (x.m.a.toNat : Int), .int .u8 (x.m.b.toNat : Int), .int .u8 (x.m.c.toNat : Int), .int .u8 (x.m.d.toNat : Int), .int .u8 (x.m.e.toNat : Int), .int .u8 (x.m.f.toNat : Int)] _ HX.out Try.underlying23 rfl (by kernel_rfl) ?_)
                  refine HM.out.mono ?_
                  rintro r w4 ⟨rfl, hb4⟩
                  clear c1 c2 c3 HX
                  clear c0 HM
                  have hbW4 := hbW3.trans (hb4.mono hbW3.size)
                  have HR4 := Lib.hid (HR3.out.kept hb4)
                  have HT4 := Lib.hid (HT3.out.later hb4)
                  have HL4 := Lib.hid (HL3.out.later hb4)
                  have HX := Lib.hid (range_of_row (off := 4) (sub := macCells x.m) HR4.out rfl)
                  have c1 : w4.cell? ⟨wr.heap.size, 1, none⟩ = some (.int .i64 x.v) := HR4.out.cell 1
                  have c2 : w4.cell? ⟨wr.heap.size, 2, none⟩ = some (.int .i64 x.port) := HR4.out.cell 2
                  have c3 : w4.cell? ⟨wr.heap.size, 3, none⟩ = some (.int .i64 x.n) := HR4.out.cell 3
                  clear hb4 HT3 HR3 hbW3 HL3
                  have HF := Lib.hid (fun w' h => fix_says BB T M ageing zs L x.v x.m x.port w' h)
                  by_cases hm : mayN zs L x.v x.m x.port = 0
                  · rw [hm] at HF ⊢
                    obtain ⟨q, hq, hql⟩ := mayN_port hm
                    have HQ := Lib.hid hq
                    have HP := Lib.hid (put_any ao l cap ⟨x.v, x.m, x.port, 0, true⟩ w4 HL4.out hll)
                    clear hm hq
                    go_wp2_with (first | ((with_reducible refine at_load 23 (.tmp 139) ?_); refine wpList_load_midW rfl 23 (.tmp 139) rfl (wr.heap.size) 4 rfl [.int .u8 (x.m.a.toNat : Int), .int .u8 (x.m.b.toNat : Int), .int .u8 (x.m.c.toNat : Int), .int .u8 (x.m.d.toNat : Int), .int .u8 (x.m.e.toNat : Int), .int .u8 (x.m.f.toNat : Int)] _ HX.out Try.underlying23 rfl (by kernel_rfl) ?_) | ((with_reducible refine at_dst 141 ?_); refine wpList_build4 rfl 51 0 1 3 4 _ _ _ _ rfl _ _ _ _ _ rfl rfl rfl rfl (run_build_fix x.v x.port (x.m.a.toNat : Int) (x.m.b.toNat : Int) (x.m.c.toNat : Int) (x.m.d.toNat : Int) (x.m.e.toNat : Int) (x.m.f.toNat : Int) _) ?_))
                    refine HP.out.mono ?_
                    rintro r w5 ⟨ao', cap', rfl, hM5, hb5⟩
                    clear c1 c2 c3 HX
                    clear HP
                    have hbW5 := hbW4.trans (hb5.mono hbW4.size)
                    have HR5 := Lib.hid (HR4.out.kept hb5)
                    have HT5 := Lib.hid (HT4.out.later hb5)
                    have HL5 := Lib.hid hM5
                    have HX := Lib.hid (range_of_row (off := 4) (sub := macCells x.m) HR5.out rfl)
                    have c1 : w5.cell? ⟨wr.heap.size, 1, none⟩ = some (.int .i64 x.v) := HR5.out.cell 1
                    have c2 : w5.cell? ⟨wr.heap.size, 2, none⟩ = some (.int .i64 x.port) := HR5.out.cell 2
                    have c3 : w5.cell? ⟨wr.heap.size, 3, none⟩ = some (.int .i64 x.n) := HR5.out.cell 3
                    clear hb5 hM5 HT4 HR4 hbW4 HL4
                    have H := Lib.hid (HF.out w5 HT5.out)
                    clear HF
                    go_wp2_with ((with_reducible refine at_load 23 (.tmp 146) ?_); refine wpList_load_midW rfl 23 (.tmp 146) rfl (wr.heap.size) 4 rfl [.int .u8 (x.m.a.toNat : Int), .int .u8 (x.m.b.toNat : Int), .int .u8 (x.m.c.toNat : Int), .int .u8 (x.m.d.toNat : Int), .int .u8 (x.m.e.toNat : Int), .int .u8 (x.m.f.toNat : Int)] _ HX.out Try.underlying23 rfl (by kernel_rfl) ?_)
                    refine H.out.mono ?_
                    rintro r w6 ⟨rfl, L', hT6, hg6, hor⟩
                    clear c1 c2 c3 HX
                    have hbW6 := hbW5.grown hg6 hbW5.size (fun k e => by
                      cases e
                      exact hMw)
                    have HR6 := Lib.hid (row_grown HR5.out hg6 (tab_map HT5.out))
                    have HL6 := Lib.hid (many_grown HL5.out hg6 (tab_map HT5.out))
                    have HT6 := Lib.hid hT6
                    have HX := Lib.hid (range_of_row (off := 4) (sub := macCells x.m) HR6.out rfl)
                    have c1 : w6.cell? ⟨wr.heap.size, 1, none⟩ = some (.int .i64 x.v) := HR6.out.cell 1
                    have c2 : w6.cell? ⟨wr.heap.size, 2, none⟩ = some (.int .i64 x.port) := HR6.out.cell 2
                    have c3 : w6.cell? ⟨wr.heap.size, 3, none⟩ = some (.int .i64 x.n) := HR6.out.cell 3
                    clear hg6 hT6 HT5 HR5 hbW5 HL5
                    rcases hor with ⟨_, hp⟩ | ⟨h0, _⟩
                    · have HS6 := Lib.hid (same_put HS.out hp)
                      have HN6 := Lib.hid (show L'.length ≤ i + 1 from by rw [hp.length_eq, List.length_cons]; have := others_len x.v x.m L; omega)
                      have HK6 := Lib.hid (kept_put hql HK.out (HQ.out ▸ hp))
                      clear hp H
                      go_wp2_with fail
                      go_meet
                      exact ⟨_, _, _, _, rfl, HL6, HN6.out, HT6, HK6, HS6, HR6, hbW6⟩
                    · exact absurd rfl h0
                  · generalize mayN zs L x.v x.m x.port = c at *
                    have hm1 : (c == 0) = false := by simpa using hm
                    have H := Lib.hid (HF.out w4 HT4.out)
                    clear HF
                    go_wp2_with ((with_reducible refine at_load 23 (.tmp 146) ?_); refine wpList_load_midW rfl 23 (.tmp 146) rfl (wr.heap.size) 4 rfl [.int .u8 (x.m.a.toNat : Int), .int .u8 (x.m.b.toNat : Int), .int .u8 (x.m.c.toNat : Int), .int .u8 (x.m.d.toNat : Int), .int .u8 (x.m.e.toNat : Int), .int .u8 (x.m.f.toNat : Int)] _ HX.out Try.underlying23 rfl (by kernel_rfl) ?_)
                    refine H.out.mono ?_
                    rintro r w6 ⟨rfl, L', hT6, hg6, hor⟩
                    clear c1 c2 c3 HX
                    have hbW6 := hbW4.grown hg6 hbW4.size (fun k e => by
                      cases e
                      exact hMw)
                    have HR6 := Lib.hid (row_grown HR4.out hg6 (tab_map HT4.out))
                    have HL6 := Lib.hid (many_grown HL4.out hg6 (tab_map HT4.out))
                    have HT6 := Lib.hid hT6
                    have HX := Lib.hid (range_of_row (off := 4) (sub := macCells x.m) HR6.out rfl)
                    have c1 : w6.cell? ⟨wr.heap.size, 1, none⟩ = some (.int .i64 x.v) := HR6.out.cell 1
                    have c2 : w6.cell? ⟨wr.heap.size, 2, none⟩ = some (.int .i64 x.port) := HR6.out.cell 2
                    have c3 : w6.cell? ⟨wr.heap.size, 3, none⟩ = some (.int .i64 x.n) := HR6.out.cell 3
                    clear hg6 hT6 HT4 HR4 hbW4 HL4
                    rcases hor with ⟨h0, _⟩ | ⟨_, rfl⟩
                    · exact absurd h0 hm
                    · clear H
                      go_wp2_with fail
                      go_meet
                      exact ⟨_, _, _, _, rfl, HL6, by omega, HT6, kept_up HK.out, HS, HR6, hbW6⟩
              · by_cases h5 : (x.x.toNat : Int) % 8 = 5
                · as_aux_lemma =>
                    have HTK := Lib.hid (tick_any BB T M ageing zs L w3 HT3.out (by omega) (fun e he => ⟨(HK.out e he).2.2.1, by have := (HK.out e he).2.2.2; omega⟩))
                    have HAGE := Lib.hid (same_ages HS.out HK.out)
                    go_wp2_with fail
                    refine HTK.out.mono ?_
                    rintro r w4 ⟨⟨v, rfl⟩, hT4, hg4⟩
                    clear c1 c2 c3 HX
                    clear c0 HTK
                    have hbW4 := hbW3.grown hg4 hbW3.size (fun k e => by
                      cases e
                      exact hMw)
                    have HR4 := Lib.hid (row_grown HR3.out hg4 (tab_map HT3.out))
                    have HL4 := Lib.hid (many_grown HL3.out hg4 (tab_map HT3.out))
                    have HT4 := Lib.hid hT4
                    have HX := Lib.hid (range_of_row (off := 4) (sub := macCells x.m) HR4.out rfl)
                    have c1 : w4.cell? ⟨wr.heap.size, 1, none⟩ = some (.int .i64 x.v) := HR4.out.cell 1
                    have c2 : w4.cell? ⟨wr.heap.size, 2, none⟩ = some (.int .i64 x.port) := HR4.out.cell 2
                    have c3 : w4.cell? ⟨wr.heap.size, 3, none⟩ = some (.int .i64 x.n) := HR4.out.cell 3
                    clear hg4 hT4 HT3 HR3 hbW3 HL3
                    have HO := Lib.hid (older_any ao l cap ageing w4 HL4.out hll (fun e he => ⟨(HAGE.out e he).1, by have := (HAGE.out e he).2; omega⟩))
                    have HS6 := Lib.hid (same_tick HS.out ageing)
                    have HK6 := Lib.hid (kept_tick ageing HK.out)
                    have HN6 := Lib.hid (Nat.le_succ_of_le (Nat.le_trans (tick_len ageing L) hLi))
                    generalize (l.map agedR).filter (keepO ageing) = l' at *
                    clear HAGE
                    go_wp2_with fail
                    refine HO.out.mono ?_
                    rintro r w6 ⟨ao', cap', rfl, hM6, hb6⟩
                    clear c1 c2 c3 HX
                    clear HO
                    have hbW6 := hbW4.trans (hb6.mono hbW4.size)
                    have HR6 := Lib.hid (HR4.out.kept hb6)
                    have HT6 := Lib.hid (HT4.out.later hb6)
                    have HL6 := Lib.hid hM6
                    have HX := Lib.hid (range_of_row (off := 4) (sub := macCells x.m) HR6.out rfl)
                    have c1 : w6.cell? ⟨wr.heap.size, 1, none⟩ = some (.int .i64 x.v) := HR6.out.cell 1
                    have c2 : w6.cell? ⟨wr.heap.size, 2, none⟩ = some (.int .i64 x.port) := HR6.out.cell 2
                    have c3 : w6.cell? ⟨wr.heap.size, 3, none⟩ = some (.int .i64 x.n) := HR6.out.cell 3
                    clear hb6 hM6 HT4 HR4 hbW4 HL4
                    go_wp2_with fail
                    go_meet
                    exact ⟨_, _, _, _, rfl, HL6, HN6.out, HT6, HK6, HS6, HR6, hbW6⟩
                · by_cases h6 : (x.x.toNat : Int) % 8 = 6
                  · as_aux_lemma =>
                      have HO := Lib.hid (without_any ao l cap x.n (-1) w3 HL3.out hll)
                      have HF := Lib.hid (fun w' h => clear_tab BB T M ageing zs L x.n w' h (by omega))
                      rw [(same_clear HS.out x.n).2] at HO
                      have HS6 := Lib.hid (same_clear HS.out x.n).1
                      have HK6 := Lib.hid (kept_up (kept_filter HK.out (Ent.stays fun e => decide (x.n < e.age))))
                      have HN6 := Lib.hid (show (L.filter (Ent.stays fun e => decide (x.n < e.age))).length ≤ i + 1 from Nat.le_succ_of_le (Nat.le_trans (List.length_filter_le _ _) hLi))
                      generalize L.filter (Ent.stays fun e => decide (x.n < e.age)) = L' at *
                      generalize (L.filter (Ent.goes fun e => decide (x.n < e.age))).length = cnt at *
                      generalize l.filter (keepW x.n (-1)) = l' at *
                      go_wp2_with fail
                      refine HO.out.mono ?_
                      rintro r w4 ⟨ao', cap', rfl, hM4, hb4⟩
                      clear c1 c2 c3 HX
                      clear c0 HO
                      have hbW4 := hbW3.trans (hb4.mono hbW3.size)
                      have HR4 := Lib.hid (HR3.out.kept hb4)
                      have HT4 := Lib.hid (HT3.out.later hb4)
                      have HL4 := Lib.hid hM4
                      have HX := Lib.hid (range_of_row (off := 4) (sub := macCells x.m) HR4.out rfl)
                      have c1 : w4.cell? ⟨wr.heap.size, 1, none⟩ = some (.int .i64 x.v) := HR4.out.cell 1
                      have c2 : w4.cell? ⟨wr.heap.size, 2, none⟩ = some (.int .i64 x.port) := HR4.out.cell 2
                      have c3 : w4.cell? ⟨wr.heap.size, 3, none⟩ = some (.int .i64 x.n) := HR4.out.cell 3
                      clear hb4 hM4 HT3 HR3 hbW3 HL3
                      have H := Lib.hid (HF.out w4 HT4.out)
                      clear HF
                      go_wp2_with fail
                      refine H.out.mono ?_
                      rintro r w6 ⟨rfl, hT6, hg6⟩
                      clear c1 c2 c3 HX
                      clear H
                      have hbW6 := hbW4.grown hg6 hbW4.size (fun k e => by
                        cases e
                        exact hMw)
                      have HR6 := Lib.hid (row_grown HR4.out hg6 (tab_map HT4.out))
                      have HL6 := Lib.hid (many_grown HL4.out hg6 (tab_map HT4.out))
                      have HT6 := Lib.hid hT6
                      have HX := Lib.hid (range_of_row (off := 4) (sub := macCells x.m) HR6.out rfl)
                      have c1 : w6.cell? ⟨wr.heap.size, 1, none⟩ = some (.int .i64 x.v) := HR6.out.cell 1
                      have c2 : w6.cell? ⟨wr.heap.size, 2, none⟩ = some (.int .i64 x.port) := HR6.out.cell 2
                      have c3 : w6.cell? ⟨wr.heap.size, 3, none⟩ = some (.int .i64 x.n) := HR6.out.cell 3
                      clear hg6 hT6 HT4 HR4 hbW4 HL4
                      go_wp2_with fail
                      go_meet
                      exact ⟨_, _, _, _, rfl, HL6, HN6.out, HT6, HK6, HS6, HR6, hbW6⟩
                  · by_cases h7 : (x.x.toNat : Int) % 8 = 7
                    · as_aux_lemma =>
                        by_cases hpp : 0 ≤ x.port
                        · have p1 : (x.port ≥ 0) = True := eq_true hpp
                          have p2 : decide (0 ≤ x.port) = true := decide_eq_true hpp
                          have HO := Lib.hid (without_any ao l cap 0 x.port w3 HL3.out hll)
                          have HF := Lib.hid (fun w' h => drop_tab BB T M ageing zs L x.port w' h (by omega))
                          rw [(same_drop HS.out hpp).2] at HO
                          have HS6 := Lib.hid (same_drop HS.out hpp).1
                          have HK6 := Lib.hid (kept_up (kept_filter HK.out (Ent.stays fun e => e.port == x.port)))
                          have HN6 := Lib.hid (show (L.filter (Ent.stays fun e => e.port == x.port)).length ≤ i + 1 from Nat.le_succ_of_le (Nat.le_trans (List.length_filter_le _ _) hLi))
                          generalize L.filter (Ent.stays fun e => e.port == x.port) = L' at *
                          generalize (L.filter (Ent.goes fun e => e.port == x.port)).length = cnt at *
                          generalize l.filter (keepW 0 x.port) = l' at *
                          clear hpp
                          go_wp2_with fail
                          refine HO.out.mono ?_
                          rintro r w4 ⟨ao', cap', rfl, hM4, hb4⟩
                          clear c1 c2 c3 HX
                          clear c0 HO p1 p2
                          have hbW4 := hbW3.trans (hb4.mono hbW3.size)
                          have HR4 := Lib.hid (HR3.out.kept hb4)
                          have HT4 := Lib.hid (HT3.out.later hb4)
                          have HL4 := Lib.hid hM4
                          have HX := Lib.hid (range_of_row (off := 4) (sub := macCells x.m) HR4.out rfl)
                          have c1 : w4.cell? ⟨wr.heap.size, 1, none⟩ = some (.int .i64 x.v) := HR4.out.cell 1
                          have c2 : w4.cell? ⟨wr.heap.size, 2, none⟩ = some (.int .i64 x.port) := HR4.out.cell 2
                          have c3 : w4.cell? ⟨wr.heap.size, 3, none⟩ = some (.int .i64 x.n) := HR4.out.cell 3
                          clear hb4 hM4 HT3 HR3 hbW3 HL3
                          have H := Lib.hid (HF.out w4 HT4.out)
                          clear HF
                          go_wp2_with fail
                          refine H.out.mono ?_
                          rintro r w6 ⟨rfl, hT6, hg6⟩
                          clear c1 c2 c3 HX
                          clear H
                          have hbW6 := hbW4.grown hg6 hbW4.size (fun k e => by
                            cases e
                            exact hMw)
                          have HR6 := Lib.hid (row_grown HR4.out hg6 (tab_map HT4.out))
                          have HL6 := Lib.hid (many_grown HL4.out hg6 (tab_map HT4.out))
                          have HT6 := Lib.hid hT6
                          have HX := Lib.hid (range_of_row (off := 4) (sub := macCells x.m) HR6.out rfl)
                          have c1 : w6.cell? ⟨wr.heap.size, 1, none⟩ = some (.int .i64 x.v) := HR6.out.cell 1
                          have c2 : w6.cell? ⟨wr.heap.size, 2, none⟩ = some (.int .i64 x.port) := HR6.out.cell 2
                          have c3 : w6.cell? ⟨wr.heap.size, 3, none⟩ = some (.int .i64 x.n) := HR6.out.cell 3
                          clear hg6 hT6 HT4 HR4 hbW4 HL4
                          go_wp2_with fail
                          go_meet
                          exact ⟨_, _, _, _, rfl, HL6, HN6.out, HT6, HK6, HS6, HR6, hbW6⟩
                        · have p1 : (x.port ≥ 0) = False := eq_false hpp
                          have p2 : decide (0 ≤ x.port) = false := decide_eq_false hpp
                          have H := Lib.hid (drop_tab BB T M ageing zs L x.port w3 HT3.out (by omega))
                          rw [(drop_none HK.out (show x.port < 0 by omega)).1, (drop_none HK.out (show x.port < 0 by omega)).2] at H
                          clear hpp
                          go_wp2_with fail
                          refine H.out.mono ?_
                          rintro r w6 ⟨rfl, hT6, hg6⟩
                          clear c1 c2 c3 HX
                          clear H c0 p1 p2
                          have hbW6 := hbW3.grown hg6 hbW3.size (fun k e => by
                            cases e
                            exact hMw)
                          have HR6 := Lib.hid (row_grown HR3.out hg6 (tab_map HT3.out))
                          have HL6 := Lib.hid (many_grown HL3.out hg6 (tab_map HT3.out))
                          have HT6 := Lib.hid hT6
                          have HX := Lib.hid (range_of_row (off := 4) (sub := macCells x.m) HR6.out rfl)
                          have c1 : w6.cell? ⟨wr.heap.size, 1, none⟩ = some (.int .i64 x.v) := HR6.out.cell 1
                          have c2 : w6.cell? ⟨wr.heap.size, 2, none⟩ = some (.int .i64 x.port) := HR6.out.cell 2
                          have c3 : w6.cell? ⟨wr.heap.size, 3, none⟩ = some (.int .i64 x.n) := HR6.out.cell 3
                          clear hg6 hT6 HT3 HR3 hbW3 HL3
                          go_wp2_with fail
                          go_meet
                          exact ⟨_, _, _, _, rfl, HL6, by omega, HT6, kept_up HK.out, HS, HR6, hbW6⟩
                    · as_aux_lemma =>
                        have HM := Lib.hid (reflearn_any ao l cap a0 zs cap0 x.v x.m x.port w3 HL3.out hll (same_nodup HS.out) (HZ.out.after hbW3))
                        rw [learn_same HS.out] at HM
                        have HLL := Lib.hid (show learnL zs l x.v x.m x.port = if learnN zs L x.v x.m x.port = 0 then putL l ⟨x.v, x.m, x.port, 0, false⟩ else l by unfold learnL; rw [learn_same HS.out])
                        have HF := Lib.hid (fun w' h => learn_says BB T M ageing zs L x.v x.m x.port w' h (by omega) (by omega))
                        generalize learnL zs l x.v x.m x.port = l' at *
                        go_wp2_with ((with_reducible refine at_load 23 (.tmp 103) ?_); refine wpList_load_midW rfl 23 (.tmp 103) rfl (wr.heap.size) 4 rfl [.int .u8 (x.m.a.toNat : Int), .int .u8 (x.m.b.toNat : Int), .int .u8 (x.m.c.toNat : Int), .int .u8 (x.m.d.toNat : Int), .int .u8 (x.m.e.toNat : Int), .int .u8 (x.m.f.toNat : Int)] _ HX.out Try.underlying23 rfl (by kernel_rfl) ?_)
                        refine HM.out.mono ?_
                        rintro r w4 ⟨ao', cap', rfl, hM4, hb4⟩
                        clear c1 c2 c3 HX
                        clear c0 HM
                        have hbW4 := hbW3.trans (hb4.mono hbW3.size)
                        have HR4 := Lib.hid (HR3.out.kept hb4)
                        have HT4 := Lib.hid (HT3.out.later hb4)
                        have HL4 := Lib.hid hM4
                        have HX := Lib.hid (range_of_row (off := 4) (sub := macCells x.m) HR4.out rfl)
                        have c1 : w4.cell? ⟨wr.heap.size, 1, none⟩ = some (.int .i64 x.v) := HR4.out.cell 1
                        have c2 : w4.cell? ⟨wr.heap.size, 2, none⟩ = some (.int .i64 x.port) := HR4.out.cell 2
                        have c3 : w4.cell? ⟨wr.heap.size, 3, none⟩ = some (.int .i64 x.n) := HR4.out.cell 3
                        clear hb4 hM4 HT3 HR3 hbW3 HL3
                        have H := Lib.hid (HF.out w4 HT4.out)
                        clear HF
                        go_wp2_with ((with_reducible refine at_load 23 (.tmp 114) ?_); refine wpList_load_midW rfl 23 (.tmp 114) rfl (wr.heap.size) 4 rfl [.int .u8 (x.m.a.toNat : Int), .int .u8 (x.m.b.toNat : Int), .int .u8 (x.m.c.toNat : Int), .int .u8 (x.m.d.toNat : Int), .int .u8 (x.m.e.toNat : Int), .int .u8 (x.m.f.toNat : Int)] _ HX.out Try.underlying23 rfl (by kernel_rfl) ?_)
                        refine H.out.mono ?_
                        rintro r w6 ⟨rfl, L', hT6, hg6, hor⟩
                        clear c1 c2 c3 HX
                        have hbW6 := hbW4.grown hg6 hbW4.size (fun k e => by
                          cases e
                          exact hMw)
                        have HR6 := Lib.hid (row_grown HR4.out hg6 (tab_map HT4.out))
                        have HL6 := Lib.hid (many_grown HL4.out hg6 (tab_map HT4.out))
                        have HT6 := Lib.hid hT6
                        have HX := Lib.hid (range_of_row (off := 4) (sub := macCells x.m) HR6.out rfl)
                        have c1 : w6.cell? ⟨wr.heap.size, 1, none⟩ = some (.int .i64 x.v) := HR6.out.cell 1
                        have c2 : w6.cell? ⟨wr.heap.size, 2, none⟩ = some (.int .i64 x.port) := HR6.out.cell 2
                        have c3 : w6.cell? ⟨wr.heap.size, 3, none⟩ = some (.int .i64 x.n) := HR6.out.cell 3
                        clear hg6 hT6 HT4 HR4 hbW4 HL4
                        have HFIN : Hid (L'.length ≤ i + 1 ∧ Kept zs.length (i + 1) L' ∧ Same L' l') := by
                          rcases hor with ⟨h0, hp⟩ | ⟨h0, rfl⟩
                          · obtain ⟨q, hq, hql⟩ := mayN_port (learnN_may h0)
                            have e := HLL.out
                            rw [if_pos h0] at e
                            refine ⟨by rw [hp.length_eq, List.length_cons]; have := others_len x.v x.m L; omega, kept_put hql HK.out (by rw [← hq]; exact hp), ?_⟩
                            rw [e]
                            exact same_put HS.out hp
                          · have e := HLL.out
                            rw [if_neg h0] at e
                            rw [e]
                            exact ⟨by omega, kept_up HK.out, HS.out⟩
                        clear hor H HLL
                        go_wp2_with fail
                        go_meet
                        exact ⟨_, _, _, _, rfl, HL6, HFIN.out.1, HT6, HFIN.out.2.1, HFIN.out.2.2, HR6, hbW6⟩
            case rest =>
              clear HL3 HT3 HK HS hbW3 hLi hll c0 c1 c2 c3 HX
              obtain ⟨ao, l, cap, L, rfl, HL, hLi, HT, HK, HS, HRX, hbW⟩ := hcut
              generalize wc = w5 at *
              have hll : l.length ≤ 1000 := by rw [same_len HS.out]; omega
              have H := Lib.hid (all_any BB T M ageing zs L w5 HT.out (by omega))
              go_wp2_with fail
              refine H.out.mono ?_
              rintro r w6 ⟨ao2, ds, cap2, rfl, hp, hs, hh, hb6⟩
              obtain rfl : ds = l := same_all HS.out hp hs
              have hbW := hbW.trans (hb6.mono hbW.size)
              have HD := Lib.hid (many_of_holds hh)
              have HL := Lib.hid (HL.out.later hb6)
              have HT := Lib.hid (HT.out.later hb6)
              have HRX := Lib.hid (HRX.out.kept hb6)
              clear hp hs hh hb6 H
              go_upto_region 45 with fail
              go_wp2_with fail
              go_loopw [22] (fun s22 wx => ∃ k : Nat, k ≤ ds.length ∧ s22 = .int .i64 k ∧ Below w6.heap.size w6 wx) (fun s22 _ => ds.length - (intOf s22).toNat)
              case atStart => exact ⟨0, Nat.zero_le _, rfl, Below.refl _ _⟩
              case round =>
                rename World => wx
                obtain ⟨k, hk, rfl, hbx⟩ := hrel
                by_cases hkl : k < ds.length
                · obtain ⟨b, off, hao, hbl, hcell⟩ := (HD.out.later hbx).range hkl
                  obtain ⟨b', off', hao', hbl', hcell'⟩ := (HL.out.later hbx).range hkl
                  subst hao hao'
                  have HRm : Hid (wx.rangeAt b' (off' + k * 10 + 3) (macCells ds[k].m)) := fun t v ht => by
                    have h := hcell' (3 + t) v (by rcases t with _ | _ | _ | _ | _ | _ | t <;> first | exact ht | (simp [macCells] at ht))
                    rw [← Nat.add_assoc] at h
                    exact h
                  have HR := Lib.hid (show wx.rangeAt b (off + k * 10) (encE ds[k]) from hcell)
                  have c0 : wx.cell? ⟨b', off' + k * 10, none⟩ = some (.int .i64 ds[k].v) := hcell' 0 _ rfl
                  have c1 : wx.cell? ⟨b', off' + k * 10 + 1, none⟩ = some (.int .i64 ds[k].port) := hcell' 1 _ rfl
                  have c2 : wx.cell? ⟨b', off' + k * 10 + 2, none⟩ = some (.int .i64 ds[k].age) := hcell' 2 _ rfl
                  have c9 : wx.cell? ⟨b', off' + k * 10 + 9, none⟩ = some (.bool ds[k].fixed) := hcell' 9 _ rfl
                  clear hcell hcell'
                  generalize ds[k] = d at *
                  have k0 := cell_regrown c0
                  have k1 := cell_regrown c1
                  have k2 := cell_regrown c2
                  have k9 := cell_regrown c9
                  clear c0 c1 c2 c9
                  have m1 := run_equalIn_mac 9997 d.m.a d.m.b d.m.c d.m.d d.m.e d.m.f d.m.a d.m.b d.m.c d.m.d d.m.e d.m.f
                  rw [eqB_true.2 rfl] at m1
                  go_upto_region 48 with fail
                  refine wp_region_mix 31 (by kernel_rfl) (by kernel_rfl) (by kernel_rfl) ?_
                  (refine mix_step (by kernel_rfl) (by kernel_rfl) (fun K hK => ?_); go_simp; (try (simp only [↓IntWalk.iteOmega]; go_simp)); (first | (refine hK _ ?_; clear hK K) | (apply Exists.intro; refine ⟨fun _ => ?_, hK _ ?_⟩; (first | fail); clear hK K)))
                  (refine mix_step (by kernel_rfl) (by kernel_rfl) (fun K hK => ?_); go_simp; (try (simp only [↓IntWalk.iteOmega]; go_simp)); (first | (refine hK _ ?_; clear hK K) | (apply Exists.intro; refine ⟨fun _ => ?_, hK _ ?_⟩; (first | fail); clear hK K)))
                  (refine mix_step (by kernel_rfl) (by kernel_rfl) (fun K hK => ?_); go_simp; (try (simp only [↓IntWalk.iteOmega]; go_simp)); (first | (refine hK _ ?_; clear hK K) | (apply Exists.intro; refine ⟨fun _ => ?_, hK _ ?_⟩; (first | fail); clear hK K)))
                  refine mix_exact (.agg #[.int .i64 d.v, .int .i64 d.port, .int .i64 d.age, .int .u8 (d.m.a.toNat : Int), .int .u8 (d.m.b.toNat : Int), .int .u8 (d.m.c.toNat : Int), .int .u8 (d.m.d.toNat : Int), .int .u8 (d.m.e.toNat : Int), .int .u8 (d.m.f.toNat : Int), .bool d.fixed]) rfl (exact_load_range (off := off + k * 10) (sub := encE d) rfl rfl (by simp) HR.out hbl Try.underlying42 rfl (by kernel_rfl)) ?_
                  (refine mix_step (by kernel_rfl) (by kernel_rfl) (fun K hK => ?_); go_simp; (try (simp only [↓IntWalk.iteOmega]; go_simp)); (first | (refine hK _ ?_; clear hK K) | (apply Exists.intro; refine ⟨fun _ => ?_, hK _ ?_⟩; (first | fail); clear hK K)))
                  (refine mix_step (by kernel_rfl) (by kernel_rfl) (fun K hK => ?_); go_simp; (try (simp only [↓IntWalk.iteOmega]; go_simp)); (first | (refine hK _ ?_; clear hK K) | (apply Exists.intro; refine ⟨fun _ => ?_, hK _ ?_⟩; (first | fail); clear hK K)))
                  (refine mix_step (by kernel_rfl) (by kernel_rfl) (fun K hK => ?_); go_simp; (try (simp only [↓IntWalk.iteOmega]; go_simp)); (first | (refine hK _ ?_; clear hK K) | (apply Exists.intro; refine ⟨fun _ => ?_, hK _ ?_⟩; (first | fail); clear hK K)))
                  (refine mix_step (by kernel_rfl) (by kernel_rfl) (fun K hK => ?_); go_simp; (try (simp only [↓IntWalk.iteOmega]; go_simp)); (first | (refine hK _ ?_; clear hK K) | (apply Exists.intro; refine ⟨fun _ => ?_, hK _ ?_⟩; (first | fail); clear hK K)))
                  (refine mix_step (by kernel_rfl) (by kernel_rfl) (fun K hK => ?_); go_simp; (try (simp only [↓IntWalk.iteOmega]; go_simp)); (first | (refine hK _ ?_; clear hK K) | (apply Exists.intro; refine ⟨fun _ => ?_, hK _ ?_⟩; (first | fail); clear hK K)))
                  (refine mix_step (by kernel_rfl) (by kernel_rfl) (fun K hK => ?_); go_simp; (try (simp only [↓IntWalk.iteOmega]; go_simp)); (first | (refine hK _ ?_; clear hK K) | (apply Exists.intro; refine ⟨fun _ => ?_, hK _ ?_⟩; (first | fail); clear hK K)))
                  (refine mix_step (by kernel_rfl) (by kernel_rfl) (fun K hK => ?_); go_simp; (try (simp only [↓IntWalk.iteOmega]; go_simp)); (first | (refine hK _ ?_; clear hK K) | (apply Exists.intro; refine ⟨fun _ => ?_, hK _ ?_⟩; (first | fail); clear hK K)))
                  (refine mix_step (by kernel_rfl) (by kernel_rfl) (fun K hK => ?_); go_simp; (try (simp only [↓IntWalk.iteOmega]; go_simp)); (first | (refine hK _ ?_; clear hK K) | (apply Exists.intro; refine ⟨fun _ => ?_, hK _ ?_⟩; (first | fail); clear hK K)))
                  (refine mix_step (by kernel_rfl) (by kernel_rfl) (fun K hK => ?_); go_simp; (try (simp only [↓IntWalk.iteOmega]; go_simp)); (first | (refine hK _ ?_; clear hK K) | (apply Exists.intro; refine ⟨fun _ => ?_, hK _ ?_⟩; (first | fail); clear hK K)))
                  (refine mix_step (by kernel_rfl) (by kernel_rfl) (fun K hK => ?_); go_simp; (try (simp only [↓IntWalk.iteOmega]; go_simp)); (first | (refine hK _ ?_; clear hK K) | (apply Exists.intro; refine ⟨fun _ => ?_, hK _ ?_⟩; (first | fail); clear hK K)))
                  (refine mix_step (by kernel_rfl) (by kernel_rfl) (fun K hK => ?_); go_simp; (try (simp only [↓IntWalk.iteOmega]; go_simp)); (first | (refine hK _ ?_; clear hK K) | (apply Exists.intro; refine ⟨fun _ => ?_, hK _ ?_⟩; (first | fail); clear hK K)))
                  (refine mix_step (by kernel_rfl) (by kernel_rfl) (fun K hK => ?_); go_simp; (try (simp only [↓IntWalk.iteOmega]; go_simp)); (first | (refine hK _ ?_; clear hK K) | (apply Exists.intro; refine ⟨fun _ => ?_, hK _ ?_⟩; (first | fail); clear hK K)))
                  (refine mix_step (by kernel_rfl) (by kernel_rfl) (fun K hK => ?_); go_simp; (try (simp only [↓IntWalk.iteOmega]; go_simp)); (first | (refine hK _ ?_; clear hK K) | (apply Exists.intro; refine ⟨fun _ => ?_, hK _ ?_⟩; (first | fail); clear hK K)))
                  (refine mix_step (by kernel_rfl) (by kernel_rfl) (fun K hK => ?_); go_simp; (try (simp only [↓IntWalk.iteOmega]; go_simp)); (first | (refine hK _ ?_; clear hK K) | (apply Exists.intro; refine ⟨fun _ => ?_, hK _ ?_⟩; (first | fail); clear hK K)))
                  (refine mix_step (by kernel_rfl) (by kernel_rfl) (fun K hK => ?_); go_simp; (try (simp only [↓IntWalk.iteOmega]; go_simp)); (first | (refine hK _ ?_; clear hK K) | (apply Exists.intro; refine ⟨fun _ => ?_, hK _ ?_⟩; (first | fail); clear hK K)))
                  (refine mix_step (by kernel_rfl) (by kernel_rfl) (fun K hK => ?_); go_simp; (try (simp only [↓IntWalk.iteOmega]; go_simp)); (first | (refine hK _ ?_; clear hK K) | (apply Exists.intro; refine ⟨fun _ => ?_, hK _ ?_⟩; (first | fail); clear hK K)))
                  (refine mix_step (by kernel_rfl) (by kernel_rfl) (fun K hK => ?_); go_simp; (try (simp only [↓IntWalk.iteOmega]; go_simp)); (first | (refine hK _ ?_; clear hK K) | (apply Exists.intro; refine ⟨fun _ => ?_, hK _ ?_⟩; (first | fail); clear hK K)))
                  (refine mix_step (by kernel_rfl) (by kernel_rfl) (fun K hK => ?_); go_simp; (try (simp only [↓IntWalk.iteOmega]; go_simp)); (first | (refine hK _ ?_; clear hK K) | (apply Exists.intro; refine ⟨fun _ => ?_, hK _ ?_⟩; (first | fail); clear hK K)))
                  (refine mix_step (by kernel_rfl) (by kernel_rfl) (fun K hK => ?_); go_simp; (try (simp only [↓IntWalk.iteOmega]; go_simp)); (first | (refine hK _ ?_; clear hK K) | (apply Exists.intro; refine ⟨fun _ => ?_, hK _ ?_⟩; (first | fail); clear hK K)))
                  refine mix_exact (.agg #[.int .u8 (d.m.a.toNat : Int), .int .u8 (d.m.b.toNat : Int), .int .u8 (d.m.c.toNat : Int), .int .u8 (d.m.d.toNat : Int), .int .u8 (d.m.e.toNat : Int), .int .u8 (d.m.f.toNat : Int)]) rfl (exact_load_range (off := off' + k * 10 + 3) (sub := macCells d.m) rfl rfl (by simp) HRm.out hbl' Try.underlying22 rfl (by kernel_rfl)) ?_
                  (refine mix_step (by kernel_rfl) (by kernel_rfl) (fun K hK => ?_); go_simp; (try (simp only [↓IntWalk.iteOmega]; go_simp)); (first | (refine hK _ ?_; clear hK K) | (apply Exists.intro; refine ⟨fun _ => ?_, hK _ ?_⟩; (first | fail); clear hK K)))
                  (refine mix_step (by kernel_rfl) (by kernel_rfl) (fun K hK => ?_); go_simp; (try (simp only [↓IntWalk.iteOmega]; go_simp)); (first | (refine hK _ ?_; clear hK K) | (apply Exists.intro; refine ⟨fun _ => ?_, hK _ ?_⟩; (first | fail); clear hK K)))
                  (refine mix_step (by kernel_rfl) (by kernel_rfl) (fun K hK => ?_); go_simp; (try (simp only [↓IntWalk.iteOmega]; go_simp)); (first | (refine hK _ ?_; clear hK K) | (apply Exists.intro; refine ⟨fun _ => ?_, hK _ ?_⟩; (first | fail); clear hK K)))
                  (refine mix_step (by kernel_rfl) (by kernel_rfl) (fun K hK => ?_); go_simp; (try (simp only [↓IntWalk.iteOmega]; go_simp)); (first | (refine hK _ ?_; clear hK K) | (apply Exists.intro; refine ⟨fun _ => ?_, hK _ ?_⟩; (first | fail); clear hK K)))
                  (refine mix_step (by kernel_rfl) (by kernel_rfl) (fun K hK => ?_); go_simp; (try (simp only [↓IntWalk.iteOmega]; go_simp)); (first | (refine hK _ ?_; clear hK K) | (apply Exists.intro; refine ⟨fun _ => ?_, hK _ ?_⟩; (first | fail); clear hK K)))
                  (refine mix_step (by kernel_rfl) (by kernel_rfl) (fun K hK => ?_); go_simp; (try (simp only [↓IntWalk.iteOmega]; go_simp)); (first | (refine hK _ ?_; clear hK K) | (apply Exists.intro; refine ⟨fun _ => ?_, hK _ ?_⟩; (first | fail); clear hK K)))
                  (refine mix_step (by kernel_rfl) (by kernel_rfl) (fun K hK => ?_); go_simp; (try (simp only [↓IntWalk.iteOmega]; go_simp)); (first | (refine hK _ ?_; clear hK K) | (apply Exists.intro; refine ⟨fun _ => ?_, hK _ ?_⟩; (first | fail); clear hK K)))
                  refine mix_nil ?_
                  rintro ⟨dr, osr⟩
                  have hbx := hbx.trans ((below_regrown wx dr osr).mono hbx.size)
                  clear k0 k1 k2 k9 m1 HR HRm
                  refine (show wpList _ _ _ _ _ _ from ?_)
                  simp only [List.drop, Act.put, List.setIfInBounds_toArray, List.set]
                  go_wp2_with fail
                  refine ⟨⟨k + 1, by omega, by go_num, hbx⟩, by simp [intOf]; omega⟩
                · obtain rfl : k = ds.length := by omega
                  have hbW := hbW.trans (hbx.mono hbW.size)
                  have HL := Lib.hid (HL.out.later hbx)
                  have HT := Lib.hid (HT.out.later hbx)
                  have HR3 := Lib.hid (HRX.out.kept hbx)
                  have HX := Lib.hid (range_of_row (off := 4) (sub := macCells x.m) HR3.out rfl)
                  have c1 : wx.cell? ⟨wr.heap.size, 1, none⟩ = some (.int .i64 x.v) := HR3.out.cell 1
                  have c2 : wx.cell? ⟨wr.heap.size, 2, none⟩ = some (.int .i64 x.port) := HR3.out.cell 2
                  have c3 : wx.cell? ⟨wr.heap.size, 3, none⟩ = some (.int .i64 x.n) := HR3.out.cell 3
                  clear HD HRX hbx hkl
                  by_cases hk : HasKey L x.v x.m
                  · as_aux_lemma =>
                        obtain ⟨e0, he0, hv, hm⟩ := hk
                        have HF : Hid (Calls Try.prog 12 #[.pointer (some ⟨T, 0, none⟩), .int .i64 x.v, .agg #[.int .u8 (x.m.a.toNat : Int), .int .u8 (x.m.b.toNat : Int), .int .u8 (x.m.c.toNat : Int), .int .u8 (x.m.d.toNat : Int), .int .u8 (x.m.e.toNat : Int), .int .u8 (x.m.f.toNat : Int)]] wx fun e w' => e = .returned (.tuple #[.int .i64 e0.port, .bool true]) ∧ Below wx.heap.size wx w') := by
                          show Calls _ _ _ _ _
                          have := find_hit BB T M ageing zs L e0 wx HT.out he0
                          rw [hv, hm] at this
                          exact this
                        have HHIT : Hid (∀ (j : Nat) (h : j < ds.length), ds[j].is x.v x.m = true → ds[j].port = e0.port) := fun j h hi => same_hit HS.out (fun a ha b hb => key_once HT.out ha hb) he0 h (by rw [hv, hm]; exact hi)
                        have HIN : Hid (¬ ∀ z ∈ ds, z.is x.v x.m = false) := fun h => same_in HS.out he0 (by rw [hv, hm]; exact h)
                        clear he0 hv hm
                        generalize e0.port = pt at *
                        go_wp2_with ((with_reducible refine at_load 23 (.tmp 244) ?_); refine wpList_load_midW rfl 23 (.tmp 244) rfl (wr.heap.size) 4 rfl [.int .u8 (x.m.a.toNat : Int), .int .u8 (x.m.b.toNat : Int), .int .u8 (x.m.c.toNat : Int), .int .u8 (x.m.d.toNat : Int), .int .u8 (x.m.e.toNat : Int), .int .u8 (x.m.f.toNat : Int)] _ HX.out Try.underlying23 rfl (by kernel_rfl) ?_)
                        refine HF.out.mono ?_
                        rintro r w7 ⟨rfl, hb7⟩
                        have hbW := hbW.trans (hb7.mono hbW.size)
                        have HL := Lib.hid (HL.out.later hb7)
                        have HT := Lib.hid (HT.out.later hb7)
                        have HR4 := Lib.hid (HR3.out.kept hb7)
                        clear c1 c2 c3 HX
                        clear hb7 HF HR3
                        have HX := Lib.hid (range_of_row (off := 4) (sub := macCells x.m) HR4.out rfl)
                        have c1 : w7.cell? ⟨wr.heap.size, 1, none⟩ = some (.int .i64 x.v) := HR4.out.cell 1
                        have c2 : w7.cell? ⟨wr.heap.size, 2, none⟩ = some (.int .i64 x.port) := HR4.out.cell 2
                        have c3 : w7.cell? ⟨wr.heap.size, 3, none⟩ = some (.int .i64 x.n) := HR4.out.cell 3
                        have HG := Lib.hid (reffind_any ao ds cap x.v x.m w7 HL.out hll)
                        go_wp2_with ((with_reducible refine at_load 23 (.tmp 252) ?_); refine wpList_load_midW rfl 23 (.tmp 252) rfl (wr.heap.size) 4 rfl [.int .u8 (x.m.a.toNat : Int), .int .u8 (x.m.b.toNat : Int), .int .u8 (x.m.c.toNat : Int), .int .u8 (x.m.d.toNat : Int), .int .u8 (x.m.e.toNat : Int), .int .u8 (x.m.f.toNat : Int)] _ HX.out Try.underlying23 rfl (by kernel_rfl) ?_)
                        refine HG.out.mono ?_
                        rintro r w8 ⟨hr, hb8⟩
                        have hbW := hbW.trans (hb8.mono hbW.size)
                        have HL := Lib.hid (HL.out.later hb8)
                        have HT := Lib.hid (HT.out.later hb8)
                        clear c1 c2 c3 HX
                        clear hb8 HG HR4
                        rcases hr with ⟨j, hj, rfl, his⟩ | ⟨rfl, hno⟩
                        · obtain ⟨b, off, hao, hbl, hcell⟩ := HL.out.range hj
                          subst hao
                          have c1 : w8.cell? ⟨b, off + j * 10 + 1, none⟩ = some (.int .i64 ds[j].port) := hcell 1 _ rfl
                          rw [HHIT.out j hj his] at c1
                          clear hcell his
                          go_wp2_with fail
                          refine ⟨⟨i + 1, L, ds, _, _, by omega, by go_num, rfl, hLi, HL, HT, HK, HS, hbW⟩, by simp [intOf]; omega⟩
                        · exact absurd hno HIN.out
                  · as_aux_lemma =>
                        have HF := Lib.hid (find_miss BB T M ageing zs L x.v HXV.out x.m wx HT.out hk)
                        have HOUT : Hid (∀ (j : Nat) (h : j < ds.length), ds[j].is x.v x.m = true → False) := fun j h hi => same_out HS.out hk h hi
                        clear hk
                        go_wp2_with ((with_reducible refine at_load 23 (.tmp 244) ?_); refine wpList_load_midW rfl 23 (.tmp 244) rfl (wr.heap.size) 4 rfl [.int .u8 (x.m.a.toNat : Int), .int .u8 (x.m.b.toNat : Int), .int .u8 (x.m.c.toNat : Int), .int .u8 (x.m.d.toNat : Int), .int .u8 (x.m.e.toNat : Int), .int .u8 (x.m.f.toNat : Int)] _ HX.out Try.underlying23 rfl (by kernel_rfl) ?_)
                        refine HF.out.mono ?_
                        rintro r w7 ⟨rfl, hb7⟩
                        have hbW := hbW.trans (hb7.mono hbW.size)
                        have HL := Lib.hid (HL.out.later hb7)
                        have HT := Lib.hid (HT.out.later hb7)
                        have HR4 := Lib.hid (HR3.out.kept hb7)
                        clear c1 c2 c3 HX
                        clear hb7 HF HR3
                        have HX := Lib.hid (range_of_row (off := 4) (sub := macCells x.m) HR4.out rfl)
                        have c1 : w7.cell? ⟨wr.heap.size, 1, none⟩ = some (.int .i64 x.v) := HR4.out.cell 1
                        have c2 : w7.cell? ⟨wr.heap.size, 2, none⟩ = some (.int .i64 x.port) := HR4.out.cell 2
                        have c3 : w7.cell? ⟨wr.heap.size, 3, none⟩ = some (.int .i64 x.n) := HR4.out.cell 3
                        have HG := Lib.hid (reffind_any ao ds cap x.v x.m w7 HL.out hll)
                        go_wp2_with ((with_reducible refine at_load 23 (.tmp 252) ?_); refine wpList_load_midW rfl 23 (.tmp 252) rfl (wr.heap.size) 4 rfl [.int .u8 (x.m.a.toNat : Int), .int .u8 (x.m.b.toNat : Int), .int .u8 (x.m.c.toNat : Int), .int .u8 (x.m.d.toNat : Int), .int .u8 (x.m.e.toNat : Int), .int .u8 (x.m.f.toNat : Int)] _ HX.out Try.underlying23 rfl (by kernel_rfl) ?_)
                        refine HG.out.mono ?_
                        rintro r w8 ⟨hr, hb8⟩
                        have hbW := hbW.trans (hb8.mono hbW.size)
                        have HL := Lib.hid (HL.out.later hb8)
                        have HT := Lib.hid (HT.out.later hb8)
                        clear c1 c2 c3 HX
                        clear hb8 HG HR4
                        rcases hr with ⟨j, hj, rfl, his⟩ | ⟨rfl, hno⟩
                        · exact (HOUT.out j hj his).elim
                        · clear hno
                          go_wp2_with fail
                          refine ⟨⟨i + 1, L, ds, _, _, by omega, by go_num, rfl, hLi, HL, HT, HK, HS, hbW⟩, by simp [intOf]; omega⟩
          · go_wp2_with fail
            go_ret
            exact ⟨rfl, hbW⟩

set_option maxRecDepth 20000 in
set_option maxHeartbeats 2000000 in
theorem learnPlays_big (ageing : Int) (a0 : Option Addr) (zs : List Int) (cap0 : Nat) (a1 : Option Addr) (acts : List ActD) (cap1 : Nat) (w : World) (h : 80 < acts.length ∨ 100 < zs.length) :
    Calls Try.prog 7 #[.int .i64 ageing, .slice a0 zs.length cap0, .slice a1 acts.length cap1] w fun e w' => e = .returned (.bool true) ∧ Below w.heap.size w w' := by
  by_cases ha : 80 < acts.length
  · have g1 : ((acts.length : Int) > 80) = True := by simp; omega
    have g2 : decide ((80 : Int) < (acts.length : Int)) = true := decide_eq_true (by omega)
    go_enter Try.func7, Try.ntmps7
    go_wp2_with fail
    refine (awake_any _).mono ?_
    rintro e w1 ⟨rfl, hb⟩
    go_wp2_with fail
    refine (awake_any _).mono ?_
    rintro e w2 ⟨rfl, hb2⟩
    have hbW := hb.trans (hb2.mono hb.size)
    clear hb hb2
    go_wp2_with fail
    go_ret
    exact ⟨rfl, hbW⟩
  · have hz : 100 < zs.length := h.resolve_left ha
    have g1 : ((acts.length : Int) > 80) = False := by simp; omega
    have g2 : decide ((80 : Int) < (acts.length : Int)) = false := decide_eq_false (by omega)
    have g3 : ((zs.length : Int) > 100) = True := by simp; omega
    have g4 : decide ((100 : Int) < (zs.length : Int)) = true := decide_eq_true (by omega)
    go_enter Try.func7, Try.ntmps7
    go_wp2_with fail
    refine (awake_any _).mono ?_
    rintro e w1 ⟨rfl, hb⟩
    go_wp2_with fail
    refine (awake_any _).mono ?_
    rintro e w2 ⟨rfl, hb2⟩
    have hbW := hb.trans (hb2.mono hb.size)
    clear hb hb2
    go_wp2_with fail
    go_ret
    exact ⟨rfl, hbW⟩

theorem learnPlays_walk (ageing : Int) (_ : (Lit.int .i64 ageing).wf = true) (a0 : Option Addr) (zs : List Int) (cap0 : Nat) (a1 : Option Addr) (acts : List ActD) (cap1 : Nat) (w : World) (hA0 : IntsAt w a0 zs) (_ : zs.length ≤ 9223372036854775807) (hA1 : ManyAt w a1 ActD.cells 10 acts) (_ : acts.length ≤ 9223372036854775807) (hok : ∀ a ∈ acts, a.ok) :
    Calls Try.prog 7 #[.int .i64 ageing, .slice a0 zs.length cap0, .slice a1 acts.length cap1] w fun e w' => e = .returned (.bool true) ∧ Below w.heap.size w w' := by
  by_cases h1 : 80 < acts.length ∨ 100 < zs.length
  · exact learnPlays_big ageing a0 zs cap0 a1 acts cap1 w h1
  · by_cases h2 : ageing < 1 ∨ 1000000 < ageing ∨ 32 < zs.length ∨ anyBad zs = true
    · exact learnPlays_bad ageing a0 zs cap0 a1 acts cap1 w (by omega) (by omega) hA0 h2
    · exact learnPlays_go ageing (by omega) a0 zs cap0 a1 acts cap1 w (by omega) (by
        cases hb : anyBad zs
        · rfl
        · exact absurd (.inr (.inr (.inr hb))) h2) (by omega) hA0 hA1 hok
end Go.Proofs.Ytcdklbhfcfamnaa
