/- The document's table: May, Learn. By an AI agent. -/
import Derived.Test.YtcdklbhfcfamnaaLearnPut
namespace Go.Proofs.Ytcdklbhfcfamnaa
open Go.RowKit Go.MapKept Go.Maps Go.WideShapes Go.Sort Grow

theorem grp_mod (a : UInt8) : grp a = ((a.toNat : Int) % 2 == 1) := by
  rw [← grp_eq, and1]
  congr 1
  have h : (a &&& 1).toNat = a.toNat % 2 := by
    rw [UInt8.toNat_and]
    exact Nat.and_one_is_mod _
  rw [h]
  omega
theorem any_at {l : List Ent} (hn : (l.map fun e => keyV e.v e.m).Nodup) {i : Nat} (hi : i < l.length) {v : Int} {m : Mac6} (h : l[i].is v m = true) (f : Ent → Bool) : (l.any fun e => e.is v m && f e) = f l[i] := by
  obtain ⟨h1, h2⟩ := is_true.1 h
  obtain ⟨l1, l2, hl⟩ := List.append_of_mem (List.getElem_mem hi)
  have hp : l.Perm (l[i] :: (l1 ++ l2)) := by
    conv => lhs; rw [hl]
    exact List.perm_middle
  subst h1 h2
  exact any_one hn hp f
theorem any_none {l : List Ent} {v : Int} {m : Mac6} (h : ∀ x ∈ l, x.is v m = false) (f : Ent → Bool) : (l.any fun e => e.is v m && f e) = false := by
  rw [List.any_eq_false]
  intro e he
  rw [h e he]
  simp

set_option maxRecDepth 20000 in
set_option maxHeartbeats 4000000 in
theorem refmay_any (ao : Option Addr) (l : List Ent) (cap : Nat) (a0 : Option Addr) (zs : List Int) (cap0 : Nat) (v : Int) (m : Mac6) (port : Int) (w : World) (h : ManyAt w ao encE 10 l) (hl : l.length ≤ 1000) (hn : (l.map fun e => keyV e.v e.m).Nodup) : Calls Try.prog 18 #[.slice ao l.length cap, .slice a0 zs.length cap0, .int .i64 v, .agg #[.int .u8 (m.a.toNat : Int), .int .u8 (m.b.toNat : Int), .int .u8 (m.c.toNat : Int), .int .u8 (m.d.toNat : Int), .int .u8 (m.e.toNat : Int), .int .u8 (m.f.toNat : Int)], .int .i64 port] w
    fun e w' => e = .returned (.int .i64 (mayN zs l v m port)) ∧ Below w.heap.size w w' := by
  have HA := Lib.hid h
  have HN := Lib.hid hn
  have hbW : Below w.heap.size w (w.alloc (.cells #[.int .u8 (m.a.toNat : Int), .int .u8 (m.b.toNat : Int), .int .u8 (m.c.toNat : Int), .int .u8 (m.d.toNat : Int), .int .u8 (m.e.toNat : Int), .int .u8 (m.f.toNat : Int)] 22)) := (Below.refl _ w).alloc (Nat.le_refl _) _
  have HB0 := rowIs_new w 22 #[.int .u8 (m.a.toNat : Int), .int .u8 (m.b.toNat : Int), .int .u8 (m.c.toNat : Int), .int .u8 (m.d.toNat : Int), .int .u8 (m.e.toNat : Int), .int .u8 (m.f.toNat : Int)]
  have HB := Lib.hid HB0
  have c0 : (w.alloc (.cells #[.int .u8 (m.a.toNat : Int), .int .u8 (m.b.toNat : Int), .int .u8 (m.c.toNat : Int), .int .u8 (m.d.toNat : Int), .int .u8 (m.e.toNat : Int), .int .u8 (m.f.toNat : Int)] 22)).cell? ⟨w.heap.size, 0, none⟩ = some (.int .u8 (m.a.toNat : Int)) := HB0.cell 0
  have HG := Lib.hid (grp_mod m.a)
  clear h hn HB0
  by_cases hb : mayBad zs v m port = true
  · have hm1 : mayN zs l v m port = 1 := by unfold mayN; rw [if_pos hb]
    rw [hm1]
    clear hm1
    unfold mayBad at hb
    go_enter Try.func18, Try.ntmps18
    go_upto_region 1 with fail
    generalize (w.alloc (.cells #[.int .u8 (m.a.toNat : Int), .int .u8 (m.b.toNat : Int), .int .u8 (m.c.toNat : Int), .int .u8 (m.d.toNat : Int), .int .u8 (m.e.toNat : Int), .int .u8 (m.f.toNat : Int)] 22)) = W at *
    by_cases h1 : v < 1
    · have e1 : decide (v < 1) = true := decide_eq_true h1
      clear hb
      go_wp2_with fail
      go_ret
      exact ⟨rfl, hbW⟩
    · have e1 : decide (v < 1) = false := decide_eq_false h1
      by_cases h2 : 4094 < v
      · have e2 : decide (4094 < v) = true := decide_eq_true h2
        clear hb
        go_wp2_with fail
        go_ret
        exact ⟨rfl, hbW⟩
      · have e2 : decide (4094 < v) = false := decide_eq_false h2
        cases hg : grp m.a
        · have e3 : ((m.a.toNat : Int) % 2 == 1) = false := by rw [← HG.out]; exact hg
          have e3' : ¬ (m.a.toNat : Int) % 2 = 1 := by simpa using e3
          rw [e1, e2, hg] at hb
          by_cases h4 : port < 0
          · have e4 : decide (port < 0) = true := decide_eq_true h4
            clear hb hg
            go_wp2_with fail
            go_ret
            exact ⟨rfl, hbW⟩
          · have e4 : decide (port < 0) = false := decide_eq_false h4
            rw [e4] at hb
            have e5 : decide ((zs.length : Int) ≤ port) = true := by simpa using hb
            have e6 : (port ≥ (zs.length : Int)) = True := eq_true (by simpa using hb)
            clear hb hg
            go_wp2_with fail
            go_ret
            exact ⟨rfl, hbW⟩
        · have e3 : ((m.a.toNat : Int) % 2 == 1) = true := by rw [← HG.out]; exact hg
          have e3' : (m.a.toNat : Int) % 2 = 1 := by simpa using e3
          clear hb hg
          go_wp2_with fail
          go_ret
          exact ⟨rfl, hbW⟩
  · have hm1 : mayN zs l v m port = if (l.any fun e => e.is v m && e.fixed) = true then 10 else 0 := by unfold mayN; rw [if_neg hb]
    have HM1 := Lib.hid hm1
    clear hm1
    have hb : mayBad zs v m port = false := by simpa using hb
    unfold mayBad at hb
    simp only [Bool.or_eq_false_iff] at hb
    obtain ⟨⟨⟨⟨e1, e2⟩, hg⟩, e4⟩, e5⟩ := hb
    have h1 : ¬ v < 1 := by simpa using e1
    have h2 : ¬ 4094 < v := by simpa using e2
    have e3 : ((m.a.toNat : Int) % 2 == 1) = false := by rw [← HG.out]; exact hg
    have e3' : ¬ (m.a.toNat : Int) % 2 = 1 := by simpa using e3
    have h4 : ¬ port < 0 := by simpa using e4
    have e6 : (port ≥ (zs.length : Int)) = False := eq_false (by simpa using e5)
    clear hg
    go_enter Try.func18, Try.ntmps18
    go_upto_region 1 with fail
    generalize (w.alloc (.cells #[.int .u8 (m.a.toNat : Int), .int .u8 (m.b.toNat : Int), .int .u8 (m.c.toNat : Int), .int .u8 (m.d.toNat : Int), .int .u8 (m.e.toNat : Int), .int .u8 (m.f.toNat : Int)] 22)) = W at *
    go_upto_region 3 with fail
    have HF := Lib.hid (reffind_any ao l cap v m W (HA.out.later hbW) hl)
    clear c0 e1 e2 e3 e3' e4 e5 e6 h1 h2 h4
    go_wp2_with ((with_reducible refine at_load 22 (.tmp 8) ?_); refine wpList_load_own rfl 22 (.tmp 8) rfl _ rfl _ _ _ HB.out Try.underlying22 rfl (by kernel_rfl) ?_)
    refine HF.out.mono ?_
    rintro e w1 ⟨hr, hb1⟩
    have hbW1 := hbW.trans (hb1.mono hbW.size)
    rcases hr with ⟨i, hi, rfl, his⟩ | ⟨rfl, hno⟩
    · obtain ⟨b, off, hao, hbl, hcell⟩ := (HA.out.later hbW1).range hi
      subst hao
      have c9 : w1.cell? ⟨b, off + i * 10 + 9, none⟩ = some (.bool l[i].fixed) := hcell 9 _ rfl
      have HV := Lib.hid (HM1.out.trans (by rw [any_at HN.out hi his]))
      clear hcell his hb1 HF HM1 hbW
      generalize l[i].fixed = fx at *
      cases fx
      · replace HV : Hid (mayN zs l v m port = 0) := HV.out
        go_wp2_with fail
        go_ret
        rw [HV.out]
        exact ⟨rfl, hbW1⟩
      · replace HV : Hid (mayN zs l v m port = 10) := HV.out
        go_wp2_with fail
        go_ret
        rw [HV.out]
        exact ⟨rfl, hbW1⟩
    · have HV : Hid (mayN zs l v m port = 0) := HM1.out.trans (by rw [any_none hno]; rfl)
      clear hno hb1 HF HM1 hbW
      go_wp2_with fail
      go_ret
      rw [HV.out]
      exact ⟨rfl, hbW1⟩

/-- those that count against a port -/
def cntR (q v : Int) (m : Mac6) (e : Ent) : Bool := e.port == q && !e.fixed && !(e.is v m)
theorem cnt_on {l : List Ent} {q v : Int} {m : Mac6} (h : (l.any fun e => e.is v m && decide (e.port = q)) = false) : (l.filter (cntR q v m)).length = onN q l := by
  unfold onN
  congr 1
  refine List.filter_congr fun e he => ?_
  have h1 := List.any_eq_false.1 h e he
  unfold cntR
  by_cases hq : e.port = q
  · cases hi : e.is v m
    · simp
    · exact absurd (by rw [hi, decide_eq_true hq]; rfl) h1
  · have : (e.port == q) = false := by simpa using hq
    rw [this]
    rfl

/-- what the document's Learn answers -/
def learnL (zs : List Int) (l : List Ent) (v : Int) (m : Mac6) (port : Int) : List Ent := if learnN zs l v m port = 0 then putL l ⟨v, m, port, 0, false⟩ else l

set_option maxRecDepth 20000 in
set_option maxHeartbeats 8000000 in
theorem reflearn_any (ao : Option Addr) (l : List Ent) (cap : Nat) (a0 : Option Addr) (zs : List Int) (cap0 : Nat) (v : Int) (m : Mac6) (port : Int) (w : World) (h : ManyAt w ao encE 10 l) (hl : l.length ≤ 1000) (hn : (l.map fun e => keyV e.v e.m).Nodup) (hA0 : IntsAt w a0 zs) : Calls Try.prog 22 #[.slice ao l.length cap, .slice a0 zs.length cap0, .int .i64 v, .agg #[.int .u8 (m.a.toNat : Int), .int .u8 (m.b.toNat : Int), .int .u8 (m.c.toNat : Int), .int .u8 (m.d.toNat : Int), .int .u8 (m.e.toNat : Int), .int .u8 (m.f.toNat : Int)], .int .i64 port] w
    fun e w' => ∃ ao' cap', e = .returned (.tuple #[.slice ao' (learnL zs l v m port).length cap', .int .i64 (learnN zs l v m port)]) ∧ ManyAt w' ao' encE 10 (learnL zs l v m port) ∧ Below w.heap.size w w' := by
  have HA := Lib.hid h
  have HZ := Lib.hid hA0
  have HN := Lib.hid hn
  have hbW : Below w.heap.size w (w.alloc (.cells #[.int .u8 (m.a.toNat : Int), .int .u8 (m.b.toNat : Int), .int .u8 (m.c.toNat : Int), .int .u8 (m.d.toNat : Int), .int .u8 (m.e.toNat : Int), .int .u8 (m.f.toNat : Int)] 22)) := (Below.refl _ w).alloc (Nat.le_refl _) _
  have HB := Lib.hid (rowIs_new w 22 #[.int .u8 (m.a.toNat : Int), .int .u8 (m.b.toNat : Int), .int .u8 (m.c.toNat : Int), .int .u8 (m.d.toNat : Int), .int .u8 (m.e.toNat : Int), .int .u8 (m.f.toNat : Int)])
  clear h hn hA0
  go_enter Try.func22, Try.ntmps22
  go_upto_region 1 with fail
  generalize (w.alloc (.cells #[.int .u8 (m.a.toNat : Int), .int .u8 (m.b.toNat : Int), .int .u8 (m.c.toNat : Int), .int .u8 (m.d.toNat : Int), .int .u8 (m.e.toNat : Int), .int .u8 (m.f.toNat : Int)] 22)) = W at *
  have HM := Lib.hid (refmay_any ao l cap a0 zs cap0 v m port W (HA.out.later hbW) hl HN.out)
  go_wp2_with ((with_reducible refine at_load 22 (.tmp 8) ?_); refine wpList_load_own rfl 22 (.tmp 8) rfl _ rfl _ _ _ HB.out Try.underlying22 rfl (by kernel_rfl) ?_)
  refine HM.out.mono ?_
  rintro e w1 ⟨rfl, hb1⟩
  have hbW1 := hbW.trans (hb1.mono hbW.size)
  have HB1 := Lib.hid (HB.out.kept hb1)
  clear hb1 HM hbW HB
  by_cases hm : mayN zs l v m port = 0
  · obtain ⟨q, rfl, hq⟩ := mayN_port hm
    rw [hm]
    have HLN := Lib.hid (show learnN zs l v m q = if (l.any fun e => e.is v m && decide (e.port = (q : Int))) = true then 0 else if zs.getD q 0 ≤ (onN q l : Int) then 8 else 0 by
      unfold learnN
      rw [hm]
      simp only [ne_eq, not_true_eq_false, if_false, Int.toNat_natCast])
    clear hm
    go_upto_region 5 with fail
    go_wp2_with fail
    go_loopw [13, 14] (fun s13 s14 wr => ∃ i : Nat, i ≤ l.length ∧ s14 = .int .i64 i ∧ s13 = .int .i64 (((l.take i).filter (cntR q v m)).length : Nat) ∧ Below w1.heap.size w1 wr) (fun _ s14 _ => l.length - (intOf s14).toNat)
    case atStart => exact ⟨0, Nat.zero_le _, rfl, rfl, Below.refl _ _⟩
    case round =>
      rename_i wr
      obtain ⟨i, hi, rfl, rfl, hbR⟩ := hrel
      have hbr := hbW1.trans (hbR.mono hbW1.size)
      have HBr := Lib.hid (HB1.out.kept hbR)
      by_cases hlt : i < l.length
      · have HNX := Lib.hid (take_next (cntR q v m) l i hlt)
        have HC := Lib.hid (show ((l.take i).filter (cntR q v m)).length ≤ 1000 from Nat.le_trans (List.length_filter_le _ _) (by rw [List.length_take]; omega))
        obtain ⟨b, off, hao, hbl, hcell⟩ := (HA.out.later hbr).range hlt
        subst hao
        have HRm : Hid (wr.rangeAt b (off + i * 10 + 3) (macCells l[i].m)) := fun t v ht => by
          have h := hcell (3 + t) v (by rcases t with _ | _ | _ | _ | _ | _ | t <;> first | exact ht | (simp [macCells] at ht))
          rw [← Nat.add_assoc] at h
          exact h
        have c0 : wr.cell? ⟨b, off + i * 10, none⟩ = some (.int .i64 l[i].v) := hcell 0 _ rfl
        have c1 : wr.cell? ⟨b, off + i * 10 + 1, none⟩ = some (.int .i64 l[i].port) := hcell 1 _ rfl
        have c9 : wr.cell? ⟨b, off + i * 10 + 9, none⟩ = some (.bool l[i].fixed) := hcell 9 _ rfl
        have HCT : Hid (cntR q v m l[i] = (l[i].port == (q : Int) && !l[i].fixed && !(decide (l[i].v = v) && eqB [l[i].m.a, l[i].m.b, l[i].m.c, l[i].m.d, l[i].m.e, l[i].m.f] [m.a, m.b, m.c, m.d, m.e, m.f]))) := rfl
        clear hcell
        generalize l[i] = d at *
        generalize ((l.take i).filter (cntR q v m)).length = n at *
        generalize cntR q v m d = ct at *
        go_upto_region 8 with fail
        go_cut [64] (fun v wx => v = .bool ct ∧ Below wr.heap.size wr wx)
        case first =>
          have k0 := cell_regrown c0
          have k1 := cell_regrown c1
          clear c0 c1
          cases hp : d.port == (q : Int)
          · rw [hp] at HCT
            have hy : ct = false := HCT.out
            subst hy
            clear c9
            refine wp_region_mix 33 (by kernel_rfl) (by kernel_rfl) (by kernel_rfl) ?_
            (refine mix_step (by kernel_rfl) (by kernel_rfl) (fun K hK => ?_); go_simp; (try (simp only [↓IntWalk.iteOmega]; go_simp)); (first | (refine hK _ ?_; clear hK K) | (apply Exists.intro; refine ⟨fun _ => ?_, hK _ ?_⟩; (first | fail); clear hK K)))
            (refine mix_step (by kernel_rfl) (by kernel_rfl) (fun K hK => ?_); go_simp; (try (simp only [↓IntWalk.iteOmega]; go_simp)); (first | (refine hK _ ?_; clear hK K) | (apply Exists.intro; refine ⟨fun _ => ?_, hK _ ?_⟩; (first | fail); clear hK K)))
            (refine mix_step (by kernel_rfl) (by kernel_rfl) (fun K hK => ?_); go_simp; (try (simp only [↓IntWalk.iteOmega]; go_simp)); (first | (refine hK _ ?_; clear hK K) | (apply Exists.intro; refine ⟨fun _ => ?_, hK _ ?_⟩; (first | fail); clear hK K)))
            (refine mix_step (by kernel_rfl) (by kernel_rfl) (fun K hK => ?_); go_simp; (try (simp only [↓IntWalk.iteOmega]; go_simp)); (first | (refine hK _ ?_; clear hK K) | (apply Exists.intro; refine ⟨fun _ => ?_, hK _ ?_⟩; (first | fail); clear hK K)))
            (refine mix_step (by kernel_rfl) (by kernel_rfl) (fun K hK => ?_); go_simp; (try (simp only [↓IntWalk.iteOmega]; go_simp)); (first | (refine hK _ ?_; clear hK K) | (apply Exists.intro; refine ⟨fun _ => ?_, hK _ ?_⟩; (first | fail); clear hK K)))
            (refine mix_step (by kernel_rfl) (by kernel_rfl) (fun K hK => ?_); go_simp; (try (simp only [↓IntWalk.iteOmega]; go_simp)); (first | (refine hK _ ?_; clear hK K) | (apply Exists.intro; refine ⟨fun _ => ?_, hK _ ?_⟩; (first | fail); clear hK K)))
            (refine mix_step (by kernel_rfl) (by kernel_rfl) (fun K hK => ?_); go_simp; (try (simp only [↓IntWalk.iteOmega]; go_simp)); (first | (refine hK _ ?_; clear hK K) | (apply Exists.intro; refine ⟨fun _ => ?_, hK _ ?_⟩; (first | fail); clear hK K)))
            (refine mix_step (by kernel_rfl) (by kernel_rfl) (fun K hK => ?_); go_simp; (try (simp only [↓IntWalk.iteOmega]; go_simp)); (first | (refine hK _ ?_; clear hK K) | (apply Exists.intro; refine ⟨fun _ => ?_, hK _ ?_⟩; (first | fail); clear hK K)))
            (refine mix_step (by kernel_rfl) (by kernel_rfl) (fun K hK => ?_); go_simp; (try (simp only [↓IntWalk.iteOmega]; go_simp)); (first | (refine hK _ ?_; clear hK K) | (apply Exists.intro; refine ⟨fun _ => ?_, hK _ ?_⟩; (first | fail); clear hK K)))
            (refine mix_step (by kernel_rfl) (by kernel_rfl) (fun K hK => ?_); go_simp; (try (simp only [↓IntWalk.iteOmega]; go_simp)); (first | (refine hK _ ?_; clear hK K) | (apply Exists.intro; refine ⟨fun _ => ?_, hK _ ?_⟩; (first | fail); clear hK K)))
            (refine mix_step (by kernel_rfl) (by kernel_rfl) (fun K hK => ?_); go_simp; (try (simp only [↓IntWalk.iteOmega]; go_simp)); (first | (refine hK _ ?_; clear hK K) | (apply Exists.intro; refine ⟨fun _ => ?_, hK _ ?_⟩; (first | fail); clear hK K)))
            (refine mix_step (by kernel_rfl) (by kernel_rfl) (fun K hK => ?_); go_simp; (try (simp only [↓IntWalk.iteOmega]; go_simp)); (first | (refine hK _ ?_; clear hK K) | (apply Exists.intro; refine ⟨fun _ => ?_, hK _ ?_⟩; (first | fail); clear hK K)))
            (refine mix_step (by kernel_rfl) (by kernel_rfl) (fun K hK => ?_); go_simp; (try (simp only [↓IntWalk.iteOmega]; go_simp)); (first | (refine hK _ ?_; clear hK K) | (apply Exists.intro; refine ⟨fun _ => ?_, hK _ ?_⟩; (first | fail); clear hK K)))
            (refine mix_step (by kernel_rfl) (by kernel_rfl) (fun K hK => ?_); go_simp; (try (simp only [↓IntWalk.iteOmega]; go_simp)); (first | (refine hK _ ?_; clear hK K) | (apply Exists.intro; refine ⟨fun _ => ?_, hK _ ?_⟩; (first | fail); clear hK K)))
            (refine mix_step (by kernel_rfl) (by kernel_rfl) (fun K hK => ?_); go_simp; (try (simp only [↓IntWalk.iteOmega]; go_simp)); (first | (refine hK _ ?_; clear hK K) | (apply Exists.intro; refine ⟨fun _ => ?_, hK _ ?_⟩; (first | fail); clear hK K)))
            (refine mix_step (by kernel_rfl) (by kernel_rfl) (fun K hK => ?_); go_simp; (try (simp only [↓IntWalk.iteOmega]; go_simp)); (first | (refine hK _ ?_; clear hK K) | (apply Exists.intro; refine ⟨fun _ => ?_, hK _ ?_⟩; (first | fail); clear hK K)))
            (refine mix_step (by kernel_rfl) (by kernel_rfl) (fun K hK => ?_); go_simp; (try (simp only [↓IntWalk.iteOmega]; go_simp)); (first | (refine hK _ ?_; clear hK K) | (apply Exists.intro; refine ⟨fun _ => ?_, hK _ ?_⟩; (first | fail); clear hK K)))
            (refine mix_step (by kernel_rfl) (by kernel_rfl) (fun K hK => ?_); go_simp; (try (simp only [↓IntWalk.iteOmega]; go_simp)); (first | (refine hK _ ?_; clear hK K) | (apply Exists.intro; refine ⟨fun _ => ?_, hK _ ?_⟩; (first | fail); clear hK K)))
            (refine mix_step (by kernel_rfl) (by kernel_rfl) (fun K hK => ?_); go_simp; (try (simp only [↓IntWalk.iteOmega]; go_simp)); (first | (refine hK _ ?_; clear hK K) | (apply Exists.intro; refine ⟨fun _ => ?_, hK _ ?_⟩; (first | fail); clear hK K)))
            (refine mix_step (by kernel_rfl) (by kernel_rfl) (fun K hK => ?_); go_simp; (try (simp only [↓IntWalk.iteOmega]; go_simp)); (first | (refine hK _ ?_; clear hK K) | (apply Exists.intro; refine ⟨fun _ => ?_, hK _ ?_⟩; (first | fail); clear hK K)))
            (refine mix_step (by kernel_rfl) (by kernel_rfl) (fun K hK => ?_); go_simp; (try (simp only [↓IntWalk.iteOmega]; go_simp)); (first | (refine hK _ ?_; clear hK K) | (apply Exists.intro; refine ⟨fun _ => ?_, hK _ ?_⟩; (first | fail); clear hK K)))
            (refine mix_step (by kernel_rfl) (by kernel_rfl) (fun K hK => ?_); go_simp; (try (simp only [↓IntWalk.iteOmega]; go_simp)); (first | (refine hK _ ?_; clear hK K) | (apply Exists.intro; refine ⟨fun _ => ?_, hK _ ?_⟩; (first | fail); clear hK K)))
            (refine mix_step (by kernel_rfl) (by kernel_rfl) (fun K hK => ?_); go_simp; (try (simp only [↓IntWalk.iteOmega]; go_simp)); (first | (refine hK _ ?_; clear hK K) | (apply Exists.intro; refine ⟨fun _ => ?_, hK _ ?_⟩; (first | fail); clear hK K)))
            (refine mix_step (by kernel_rfl) (by kernel_rfl) (fun K hK => ?_); go_simp; (try (simp only [↓IntWalk.iteOmega]; go_simp)); (first | (refine hK _ ?_; clear hK K) | (apply Exists.intro; refine ⟨fun _ => ?_, hK _ ?_⟩; (first | fail); clear hK K)))
            (refine mix_step (by kernel_rfl) (by kernel_rfl) (fun K hK => ?_); go_simp; (try (simp only [↓IntWalk.iteOmega]; go_simp)); (first | (refine hK _ ?_; clear hK K) | (apply Exists.intro; refine ⟨fun _ => ?_, hK _ ?_⟩; (first | fail); clear hK K)))
            (refine mix_step (by kernel_rfl) (by kernel_rfl) (fun K hK => ?_); go_simp; (try (simp only [↓IntWalk.iteOmega]; go_simp)); (first | (refine hK _ ?_; clear hK K) | (apply Exists.intro; refine ⟨fun _ => ?_, hK _ ?_⟩; (first | fail); clear hK K)))
            (refine mix_step (by kernel_rfl) (by kernel_rfl) (fun K hK => ?_); go_simp; (try (simp only [↓IntWalk.iteOmega]; go_simp)); (first | (refine hK _ ?_; clear hK K) | (apply Exists.intro; refine ⟨fun _ => ?_, hK _ ?_⟩; (first | fail); clear hK K)))
            (refine mix_step (by kernel_rfl) (by kernel_rfl) (fun K hK => ?_); go_simp; (try (simp only [↓IntWalk.iteOmega]; go_simp)); (first | (refine hK _ ?_; clear hK K) | (apply Exists.intro; refine ⟨fun _ => ?_, hK _ ?_⟩; (first | fail); clear hK K)))
            (refine mix_step (by kernel_rfl) (by kernel_rfl) (fun K hK => ?_); go_simp; (try (simp only [↓IntWalk.iteOmega]; go_simp)); (first | (refine hK _ ?_; clear hK K) | (apply Exists.intro; refine ⟨fun _ => ?_, hK _ ?_⟩; (first | fail); clear hK K)))
            (refine mix_step (by kernel_rfl) (by kernel_rfl) (fun K hK => ?_); go_simp; (try (simp only [↓IntWalk.iteOmega]; go_simp)); (first | (refine hK _ ?_; clear hK K) | (apply Exists.intro; refine ⟨fun _ => ?_, hK _ ?_⟩; (first | fail); clear hK K)))
            (refine mix_step (by kernel_rfl) (by kernel_rfl) (fun K hK => ?_); go_simp; (try (simp only [↓IntWalk.iteOmega]; go_simp)); (first | (refine hK _ ?_; clear hK K) | (apply Exists.intro; refine ⟨fun _ => ?_, hK _ ?_⟩; (first | fail); clear hK K)))
            (refine mix_step (by kernel_rfl) (by kernel_rfl) (fun K hK => ?_); go_simp; (try (simp only [↓IntWalk.iteOmega]; go_simp)); (first | (refine hK _ ?_; clear hK K) | (apply Exists.intro; refine ⟨fun _ => ?_, hK _ ?_⟩; (first | fail); clear hK K)))
            (refine mix_step (by kernel_rfl) (by kernel_rfl) (fun K hK => ?_); go_simp; (try (simp only [↓IntWalk.iteOmega]; go_simp)); (first | (refine hK _ ?_; clear hK K) | (apply Exists.intro; refine ⟨fun _ => ?_, hK _ ?_⟩; (first | fail); clear hK K)))
            refine mix_nil ?_
            rintro ⟨dr, osr⟩
            have hb8 := below_regrown wr dr osr
            refine (show wpList _ _ _ _ _ _ from ?_)
            simp only [List.drop, Act.put, List.setIfInBounds_toArray, List.set]
            go_wp2_with fail
            go_meet
            exact ⟨rfl, hb8⟩
          · rw [hp] at HCT
            cases hf : d.fixed
            · rw [hf] at HCT c9
              have k9 := cell_regrown c9
              clear c9 hf
              cases hv : d.v == v
              · have hvn : ¬ d.v = v := by simpa using hv
                have hy : ct = true := by rw [HCT.out, decide_eq_false hvn]; rfl
                subst hy
                have hv2 : (d.v != v) = true := bne_iff_ne.2 hvn
                clear hvn hv
                refine wp_region_mix 33 (by kernel_rfl) (by kernel_rfl) (by kernel_rfl) ?_
                (refine mix_step (by kernel_rfl) (by kernel_rfl) (fun K hK => ?_); go_simp; (try (simp only [↓IntWalk.iteOmega]; go_simp)); (first | (refine hK _ ?_; clear hK K) | (apply Exists.intro; refine ⟨fun _ => ?_, hK _ ?_⟩; (first | fail); clear hK K)))
                (refine mix_step (by kernel_rfl) (by kernel_rfl) (fun K hK => ?_); go_simp; (try (simp only [↓IntWalk.iteOmega]; go_simp)); (first | (refine hK _ ?_; clear hK K) | (apply Exists.intro; refine ⟨fun _ => ?_, hK _ ?_⟩; (first | fail); clear hK K)))
                (refine mix_step (by kernel_rfl) (by kernel_rfl) (fun K hK => ?_); go_simp; (try (simp only [↓IntWalk.iteOmega]; go_simp)); (first | (refine hK _ ?_; clear hK K) | (apply Exists.intro; refine ⟨fun _ => ?_, hK _ ?_⟩; (first | fail); clear hK K)))
                (refine mix_step (by kernel_rfl) (by kernel_rfl) (fun K hK => ?_); go_simp; (try (simp only [↓IntWalk.iteOmega]; go_simp)); (first | (refine hK _ ?_; clear hK K) | (apply Exists.intro; refine ⟨fun _ => ?_, hK _ ?_⟩; (first | fail); clear hK K)))
                (refine mix_step (by kernel_rfl) (by kernel_rfl) (fun K hK => ?_); go_simp; (try (simp only [↓IntWalk.iteOmega]; go_simp)); (first | (refine hK _ ?_; clear hK K) | (apply Exists.intro; refine ⟨fun _ => ?_, hK _ ?_⟩; (first | fail); clear hK K)))
                (refine mix_step (by kernel_rfl) (by kernel_rfl) (fun K hK => ?_); go_simp; (try (simp only [↓IntWalk.iteOmega]; go_simp)); (first | (refine hK _ ?_; clear hK K) | (apply Exists.intro; refine ⟨fun _ => ?_, hK _ ?_⟩; (first | fail); clear hK K)))
                (refine mix_step (by kernel_rfl) (by kernel_rfl) (fun K hK => ?_); go_simp; (try (simp only [↓IntWalk.iteOmega]; go_simp)); (first | (refine hK _ ?_; clear hK K) | (apply Exists.intro; refine ⟨fun _ => ?_, hK _ ?_⟩; (first | fail); clear hK K)))
                (refine mix_step (by kernel_rfl) (by kernel_rfl) (fun K hK => ?_); go_simp; (try (simp only [↓IntWalk.iteOmega]; go_simp)); (first | (refine hK _ ?_; clear hK K) | (apply Exists.intro; refine ⟨fun _ => ?_, hK _ ?_⟩; (first | fail); clear hK K)))
                (refine mix_step (by kernel_rfl) (by kernel_rfl) (fun K hK => ?_); go_simp; (try (simp only [↓IntWalk.iteOmega]; go_simp)); (first | (refine hK _ ?_; clear hK K) | (apply Exists.intro; refine ⟨fun _ => ?_, hK _ ?_⟩; (first | fail); clear hK K)))
                (refine mix_step (by kernel_rfl) (by kernel_rfl) (fun K hK => ?_); go_simp; (try (simp only [↓IntWalk.iteOmega]; go_simp)); (first | (refine hK _ ?_; clear hK K) | (apply Exists.intro; refine ⟨fun _ => ?_, hK _ ?_⟩; (first | fail); clear hK K)))
                (refine mix_step (by kernel_rfl) (by kernel_rfl) (fun K hK => ?_); go_simp; (try (simp only [↓IntWalk.iteOmega]; go_simp)); (first | (refine hK _ ?_; clear hK K) | (apply Exists.intro; refine ⟨fun _ => ?_, hK _ ?_⟩; (first | fail); clear hK K)))
                (refine mix_step (by kernel_rfl) (by kernel_rfl) (fun K hK => ?_); go_simp; (try (simp only [↓IntWalk.iteOmega]; go_simp)); (first | (refine hK _ ?_; clear hK K) | (apply Exists.intro; refine ⟨fun _ => ?_, hK _ ?_⟩; (first | fail); clear hK K)))
                (refine mix_step (by kernel_rfl) (by kernel_rfl) (fun K hK => ?_); go_simp; (try (simp only [↓IntWalk.iteOmega]; go_simp)); (first | (refine hK _ ?_; clear hK K) | (apply Exists.intro; refine ⟨fun _ => ?_, hK _ ?_⟩; (first | fail); clear hK K)))
                (refine mix_step (by kernel_rfl) (by kernel_rfl) (fun K hK => ?_); go_simp; (try (simp only [↓IntWalk.iteOmega]; go_simp)); (first | (refine hK _ ?_; clear hK K) | (apply Exists.intro; refine ⟨fun _ => ?_, hK _ ?_⟩; (first | fail); clear hK K)))
                (refine mix_step (by kernel_rfl) (by kernel_rfl) (fun K hK => ?_); go_simp; (try (simp only [↓IntWalk.iteOmega]; go_simp)); (first | (refine hK _ ?_; clear hK K) | (apply Exists.intro; refine ⟨fun _ => ?_, hK _ ?_⟩; (first | fail); clear hK K)))
                (refine mix_step (by kernel_rfl) (by kernel_rfl) (fun K hK => ?_); go_simp; (try (simp only [↓IntWalk.iteOmega]; go_simp)); (first | (refine hK _ ?_; clear hK K) | (apply Exists.intro; refine ⟨fun _ => ?_, hK _ ?_⟩; (first | fail); clear hK K)))
                (refine mix_step (by kernel_rfl) (by kernel_rfl) (fun K hK => ?_); go_simp; (try (simp only [↓IntWalk.iteOmega]; go_simp)); (first | (refine hK _ ?_; clear hK K) | (apply Exists.intro; refine ⟨fun _ => ?_, hK _ ?_⟩; (first | fail); clear hK K)))
                (refine mix_step (by kernel_rfl) (by kernel_rfl) (fun K hK => ?_); go_simp; (try (simp only [↓IntWalk.iteOmega]; go_simp)); (first | (refine hK _ ?_; clear hK K) | (apply Exists.intro; refine ⟨fun _ => ?_, hK _ ?_⟩; (first | fail); clear hK K)))
                (refine mix_step (by kernel_rfl) (by kernel_rfl) (fun K hK => ?_); go_simp; (try (simp only [↓IntWalk.iteOmega]; go_simp)); (first | (refine hK _ ?_; clear hK K) | (apply Exists.intro; refine ⟨fun _ => ?_, hK _ ?_⟩; (first | fail); clear hK K)))
                (refine mix_step (by kernel_rfl) (by kernel_rfl) (fun K hK => ?_); go_simp; (try (simp only [↓IntWalk.iteOmega]; go_simp)); (first | (refine hK _ ?_; clear hK K) | (apply Exists.intro; refine ⟨fun _ => ?_, hK _ ?_⟩; (first | fail); clear hK K)))
                (refine mix_step (by kernel_rfl) (by kernel_rfl) (fun K hK => ?_); go_simp; (try (simp only [↓IntWalk.iteOmega]; go_simp)); (first | (refine hK _ ?_; clear hK K) | (apply Exists.intro; refine ⟨fun _ => ?_, hK _ ?_⟩; (first | fail); clear hK K)))
                (refine mix_step (by kernel_rfl) (by kernel_rfl) (fun K hK => ?_); go_simp; (try (simp only [↓IntWalk.iteOmega]; go_simp)); (first | (refine hK _ ?_; clear hK K) | (apply Exists.intro; refine ⟨fun _ => ?_, hK _ ?_⟩; (first | fail); clear hK K)))
                (refine mix_step (by kernel_rfl) (by kernel_rfl) (fun K hK => ?_); go_simp; (try (simp only [↓IntWalk.iteOmega]; go_simp)); (first | (refine hK _ ?_; clear hK K) | (apply Exists.intro; refine ⟨fun _ => ?_, hK _ ?_⟩; (first | fail); clear hK K)))
                (refine mix_step (by kernel_rfl) (by kernel_rfl) (fun K hK => ?_); go_simp; (try (simp only [↓IntWalk.iteOmega]; go_simp)); (first | (refine hK _ ?_; clear hK K) | (apply Exists.intro; refine ⟨fun _ => ?_, hK _ ?_⟩; (first | fail); clear hK K)))
                (refine mix_step (by kernel_rfl) (by kernel_rfl) (fun K hK => ?_); go_simp; (try (simp only [↓IntWalk.iteOmega]; go_simp)); (first | (refine hK _ ?_; clear hK K) | (apply Exists.intro; refine ⟨fun _ => ?_, hK _ ?_⟩; (first | fail); clear hK K)))
                (refine mix_step (by kernel_rfl) (by kernel_rfl) (fun K hK => ?_); go_simp; (try (simp only [↓IntWalk.iteOmega]; go_simp)); (first | (refine hK _ ?_; clear hK K) | (apply Exists.intro; refine ⟨fun _ => ?_, hK _ ?_⟩; (first | fail); clear hK K)))
                (refine mix_step (by kernel_rfl) (by kernel_rfl) (fun K hK => ?_); go_simp; (try (simp only [↓IntWalk.iteOmega]; go_simp)); (first | (refine hK _ ?_; clear hK K) | (apply Exists.intro; refine ⟨fun _ => ?_, hK _ ?_⟩; (first | fail); clear hK K)))
                (refine mix_step (by kernel_rfl) (by kernel_rfl) (fun K hK => ?_); go_simp; (try (simp only [↓IntWalk.iteOmega]; go_simp)); (first | (refine hK _ ?_; clear hK K) | (apply Exists.intro; refine ⟨fun _ => ?_, hK _ ?_⟩; (first | fail); clear hK K)))
                (refine mix_step (by kernel_rfl) (by kernel_rfl) (fun K hK => ?_); go_simp; (try (simp only [↓IntWalk.iteOmega]; go_simp)); (first | (refine hK _ ?_; clear hK K) | (apply Exists.intro; refine ⟨fun _ => ?_, hK _ ?_⟩; (first | fail); clear hK K)))
                (refine mix_step (by kernel_rfl) (by kernel_rfl) (fun K hK => ?_); go_simp; (try (simp only [↓IntWalk.iteOmega]; go_simp)); (first | (refine hK _ ?_; clear hK K) | (apply Exists.intro; refine ⟨fun _ => ?_, hK _ ?_⟩; (first | fail); clear hK K)))
                (refine mix_step (by kernel_rfl) (by kernel_rfl) (fun K hK => ?_); go_simp; (try (simp only [↓IntWalk.iteOmega]; go_simp)); (first | (refine hK _ ?_; clear hK K) | (apply Exists.intro; refine ⟨fun _ => ?_, hK _ ?_⟩; (first | fail); clear hK K)))
                (refine mix_step (by kernel_rfl) (by kernel_rfl) (fun K hK => ?_); go_simp; (try (simp only [↓IntWalk.iteOmega]; go_simp)); (first | (refine hK _ ?_; clear hK K) | (apply Exists.intro; refine ⟨fun _ => ?_, hK _ ?_⟩; (first | fail); clear hK K)))
                (refine mix_step (by kernel_rfl) (by kernel_rfl) (fun K hK => ?_); go_simp; (try (simp only [↓IntWalk.iteOmega]; go_simp)); (first | (refine hK _ ?_; clear hK K) | (apply Exists.intro; refine ⟨fun _ => ?_, hK _ ?_⟩; (first | fail); clear hK K)))
                refine mix_nil ?_
                rintro ⟨dr, osr⟩
                have hb8 := below_regrown wr dr osr
                refine (show wpList _ _ _ _ _ _ from ?_)
                simp only [List.drop, Act.put, List.setIfInBounds_toArray, List.set]
                go_wp2_with fail
                go_meet
                exact ⟨rfl, hb8⟩
              · have hve : d.v = v := by simpa using hv
                have hv2 : (d.v != v) = false := by rw [hve]; simp
                rw [decide_eq_true hve] at HCT
                have m1 := run_equalIn_arr6 9998 d.m.a d.m.b d.m.c d.m.d d.m.e d.m.f m.a m.b m.c m.d m.e m.f
                clear hve hv
                generalize eqB [d.m.a, d.m.b, d.m.c, d.m.d, d.m.e, d.m.f] [m.a, m.b, m.c, m.d, m.e, m.f] = yes at *
                have hy : ct = !yes := by rw [HCT.out]; cases yes <;> rfl
                subst hy
                refine wp_region_mix 33 (by kernel_rfl) (by kernel_rfl) (by kernel_rfl) ?_
                (refine mix_step (by kernel_rfl) (by kernel_rfl) (fun K hK => ?_); go_simp; (try (simp only [↓IntWalk.iteOmega]; go_simp)); (first | (refine hK _ ?_; clear hK K) | (apply Exists.intro; refine ⟨fun _ => ?_, hK _ ?_⟩; (first | fail); clear hK K)))
                (refine mix_step (by kernel_rfl) (by kernel_rfl) (fun K hK => ?_); go_simp; (try (simp only [↓IntWalk.iteOmega]; go_simp)); (first | (refine hK _ ?_; clear hK K) | (apply Exists.intro; refine ⟨fun _ => ?_, hK _ ?_⟩; (first | fail); clear hK K)))
                (refine mix_step (by kernel_rfl) (by kernel_rfl) (fun K hK => ?_); go_simp; (try (simp only [↓IntWalk.iteOmega]; go_simp)); (first | (refine hK _ ?_; clear hK K) | (apply Exists.intro; refine ⟨fun _ => ?_, hK _ ?_⟩; (first | fail); clear hK K)))
                (refine mix_step (by kernel_rfl) (by kernel_rfl) (fun K hK => ?_); go_simp; (try (simp only [↓IntWalk.iteOmega]; go_simp)); (first | (refine hK _ ?_; clear hK K) | (apply Exists.intro; refine ⟨fun _ => ?_, hK _ ?_⟩; (first | fail); clear hK K)))
                (refine mix_step (by kernel_rfl) (by kernel_rfl) (fun K hK => ?_); go_simp; (try (simp only [↓IntWalk.iteOmega]; go_simp)); (first | (refine hK _ ?_; clear hK K) | (apply Exists.intro; refine ⟨fun _ => ?_, hK _ ?_⟩; (first | fail); clear hK K)))
                (refine mix_step (by kernel_rfl) (by kernel_rfl) (fun K hK => ?_); go_simp; (try (simp only [↓IntWalk.iteOmega]; go_simp)); (first | (refine hK _ ?_; clear hK K) | (apply Exists.intro; refine ⟨fun _ => ?_, hK _ ?_⟩; (first | fail); clear hK K)))
                (refine mix_step (by kernel_rfl) (by kernel_rfl) (fun K hK => ?_); go_simp; (try (simp only [↓IntWalk.iteOmega]; go_simp)); (first | (refine hK _ ?_; clear hK K) | (apply Exists.intro; refine ⟨fun _ => ?_, hK _ ?_⟩; (first | fail); clear hK K)))
                (refine mix_step (by kernel_rfl) (by kernel_rfl) (fun K hK => ?_); go_simp; (try (simp only [↓IntWalk.iteOmega]; go_simp)); (first | (refine hK _ ?_; clear hK K) | (apply Exists.intro; refine ⟨fun _ => ?_, hK _ ?_⟩; (first | fail); clear hK K)))
                (refine mix_step (by kernel_rfl) (by kernel_rfl) (fun K hK => ?_); go_simp; (try (simp only [↓IntWalk.iteOmega]; go_simp)); (first | (refine hK _ ?_; clear hK K) | (apply Exists.intro; refine ⟨fun _ => ?_, hK _ ?_⟩; (first | fail); clear hK K)))
                (refine mix_step (by kernel_rfl) (by kernel_rfl) (fun K hK => ?_); go_simp; (try (simp only [↓IntWalk.iteOmega]; go_simp)); (first | (refine hK _ ?_; clear hK K) | (apply Exists.intro; refine ⟨fun _ => ?_, hK _ ?_⟩; (first | fail); clear hK K)))
                (refine mix_step (by kernel_rfl) (by kernel_rfl) (fun K hK => ?_); go_simp; (try (simp only [↓IntWalk.iteOmega]; go_simp)); (first | (refine hK _ ?_; clear hK K) | (apply Exists.intro; refine ⟨fun _ => ?_, hK _ ?_⟩; (first | fail); clear hK K)))
                (refine mix_step (by kernel_rfl) (by kernel_rfl) (fun K hK => ?_); go_simp; (try (simp only [↓IntWalk.iteOmega]; go_simp)); (first | (refine hK _ ?_; clear hK K) | (apply Exists.intro; refine ⟨fun _ => ?_, hK _ ?_⟩; (first | fail); clear hK K)))
                (refine mix_step (by kernel_rfl) (by kernel_rfl) (fun K hK => ?_); go_simp; (try (simp only [↓IntWalk.iteOmega]; go_simp)); (first | (refine hK _ ?_; clear hK K) | (apply Exists.intro; refine ⟨fun _ => ?_, hK _ ?_⟩; (first | fail); clear hK K)))
                (refine mix_step (by kernel_rfl) (by kernel_rfl) (fun K hK => ?_); go_simp; (try (simp only [↓IntWalk.iteOmega]; go_simp)); (first | (refine hK _ ?_; clear hK K) | (apply Exists.intro; refine ⟨fun _ => ?_, hK _ ?_⟩; (first | fail); clear hK K)))
                (refine mix_step (by kernel_rfl) (by kernel_rfl) (fun K hK => ?_); go_simp; (try (simp only [↓IntWalk.iteOmega]; go_simp)); (first | (refine hK _ ?_; clear hK K) | (apply Exists.intro; refine ⟨fun _ => ?_, hK _ ?_⟩; (first | fail); clear hK K)))
                (refine mix_step (by kernel_rfl) (by kernel_rfl) (fun K hK => ?_); go_simp; (try (simp only [↓IntWalk.iteOmega]; go_simp)); (first | (refine hK _ ?_; clear hK K) | (apply Exists.intro; refine ⟨fun _ => ?_, hK _ ?_⟩; (first | fail); clear hK K)))
                (refine mix_step (by kernel_rfl) (by kernel_rfl) (fun K hK => ?_); go_simp; (try (simp only [↓IntWalk.iteOmega]; go_simp)); (first | (refine hK _ ?_; clear hK K) | (apply Exists.intro; refine ⟨fun _ => ?_, hK _ ?_⟩; (first | fail); clear hK K)))
                (refine mix_step (by kernel_rfl) (by kernel_rfl) (fun K hK => ?_); go_simp; (try (simp only [↓IntWalk.iteOmega]; go_simp)); (first | (refine hK _ ?_; clear hK K) | (apply Exists.intro; refine ⟨fun _ => ?_, hK _ ?_⟩; (first | fail); clear hK K)))
                (refine mix_step (by kernel_rfl) (by kernel_rfl) (fun K hK => ?_); go_simp; (try (simp only [↓IntWalk.iteOmega]; go_simp)); (first | (refine hK _ ?_; clear hK K) | (apply Exists.intro; refine ⟨fun _ => ?_, hK _ ?_⟩; (first | fail); clear hK K)))
                (refine mix_step (by kernel_rfl) (by kernel_rfl) (fun K hK => ?_); go_simp; (try (simp only [↓IntWalk.iteOmega]; go_simp)); (first | (refine hK _ ?_; clear hK K) | (apply Exists.intro; refine ⟨fun _ => ?_, hK _ ?_⟩; (first | fail); clear hK K)))
                (refine mix_step (by kernel_rfl) (by kernel_rfl) (fun K hK => ?_); go_simp; (try (simp only [↓IntWalk.iteOmega]; go_simp)); (first | (refine hK _ ?_; clear hK K) | (apply Exists.intro; refine ⟨fun _ => ?_, hK _ ?_⟩; (first | fail); clear hK K)))
                (refine mix_step (by kernel_rfl) (by kernel_rfl) (fun K hK => ?_); go_simp; (try (simp only [↓IntWalk.iteOmega]; go_simp)); (first | (refine hK _ ?_; clear hK K) | (apply Exists.intro; refine ⟨fun _ => ?_, hK _ ?_⟩; (first | fail); clear hK K)))
                (refine mix_step (by kernel_rfl) (by kernel_rfl) (fun K hK => ?_); go_simp; (try (simp only [↓IntWalk.iteOmega]; go_simp)); (first | (refine hK _ ?_; clear hK K) | (apply Exists.intro; refine ⟨fun _ => ?_, hK _ ?_⟩; (first | fail); clear hK K)))
                (refine mix_step (by kernel_rfl) (by kernel_rfl) (fun K hK => ?_); go_simp; (try (simp only [↓IntWalk.iteOmega]; go_simp)); (first | (refine hK _ ?_; clear hK K) | (apply Exists.intro; refine ⟨fun _ => ?_, hK _ ?_⟩; (first | fail); clear hK K)))
                (refine mix_step (by kernel_rfl) (by kernel_rfl) (fun K hK => ?_); go_simp; (try (simp only [↓IntWalk.iteOmega]; go_simp)); (first | (refine hK _ ?_; clear hK K) | (apply Exists.intro; refine ⟨fun _ => ?_, hK _ ?_⟩; (first | fail); clear hK K)))
                (refine mix_step (by kernel_rfl) (by kernel_rfl) (fun K hK => ?_); go_simp; (try (simp only [↓IntWalk.iteOmega]; go_simp)); (first | (refine hK _ ?_; clear hK K) | (apply Exists.intro; refine ⟨fun _ => ?_, hK _ ?_⟩; (first | fail); clear hK K)))
                (refine mix_step (by kernel_rfl) (by kernel_rfl) (fun K hK => ?_); go_simp; (try (simp only [↓IntWalk.iteOmega]; go_simp)); (first | (refine hK _ ?_; clear hK K) | (apply Exists.intro; refine ⟨fun _ => ?_, hK _ ?_⟩; (first | fail); clear hK K)))
                (refine mix_step (by kernel_rfl) (by kernel_rfl) (fun K hK => ?_); go_simp; (try (simp only [↓IntWalk.iteOmega]; go_simp)); (first | (refine hK _ ?_; clear hK K) | (apply Exists.intro; refine ⟨fun _ => ?_, hK _ ?_⟩; (first | fail); clear hK K)))
                refine mix_exact (.agg #[.int .u8 (d.m.a.toNat : Int), .int .u8 (d.m.b.toNat : Int), .int .u8 (d.m.c.toNat : Int), .int .u8 (d.m.d.toNat : Int), .int .u8 (d.m.e.toNat : Int), .int .u8 (d.m.f.toNat : Int)]) rfl (exact_load_range (off := off + i * 10 + 3) (sub := macCells d.m) rfl rfl (by simp) HRm.out hbl Try.underlying22 rfl (by kernel_rfl)) ?_
                refine mix_exact (.agg #[.int .u8 (m.a.toNat : Int), .int .u8 (m.b.toNat : Int), .int .u8 (m.c.toNat : Int), .int .u8 (m.d.toNat : Int), .int .u8 (m.e.toNat : Int), .int .u8 (m.f.toNat : Int)]) rfl (exact_load_row rfl rfl (by simp) HBr.out Try.underlying22 rfl (by kernel_rfl)) ?_
                (refine mix_step (by kernel_rfl) (by kernel_rfl) (fun K hK => ?_); go_simp; (try (simp only [↓IntWalk.iteOmega]; go_simp)); (first | (refine hK _ ?_; clear hK K) | (apply Exists.intro; refine ⟨fun _ => ?_, hK _ ?_⟩; (first | fail); clear hK K)))
                (refine mix_step (by kernel_rfl) (by kernel_rfl) (fun K hK => ?_); go_simp; (try (simp only [↓IntWalk.iteOmega]; go_simp)); (first | (refine hK _ ?_; clear hK K) | (apply Exists.intro; refine ⟨fun _ => ?_, hK _ ?_⟩; (first | fail); clear hK K)))
                (refine mix_step (by kernel_rfl) (by kernel_rfl) (fun K hK => ?_); go_simp; (try (simp only [↓IntWalk.iteOmega]; go_simp)); (first | (refine hK _ ?_; clear hK K) | (apply Exists.intro; refine ⟨fun _ => ?_, hK _ ?_⟩; (first | fail); clear hK K)))
                refine mix_nil ?_
                rintro ⟨dr, osr⟩
                have hb8 := below_regrown wr dr osr
                refine (show wpList _ _ _ _ _ _ from ?_)
                simp only [List.drop, Act.put, List.setIfInBounds_toArray, List.set]
                go_wp2_with fail
                go_meet
                exact ⟨rfl, hb8⟩
            · rw [hf] at HCT c9
              have k9 := cell_regrown c9
              clear c9 hf
              have hy : ct = false := HCT.out
              subst hy
              refine wp_region_mix 33 (by kernel_rfl) (by kernel_rfl) (by kernel_rfl) ?_
              (refine mix_step (by kernel_rfl) (by kernel_rfl) (fun K hK => ?_); go_simp; (try (simp only [↓IntWalk.iteOmega]; go_simp)); (first | (refine hK _ ?_; clear hK K) | (apply Exists.intro; refine ⟨fun _ => ?_, hK _ ?_⟩; (first | fail); clear hK K)))
              (refine mix_step (by kernel_rfl) (by kernel_rfl) (fun K hK => ?_); go_simp; (try (simp only [↓IntWalk.iteOmega]; go_simp)); (first | (refine hK _ ?_; clear hK K) | (apply Exists.intro; refine ⟨fun _ => ?_, hK _ ?_⟩; (first | fail); clear hK K)))
              (refine mix_step (by kernel_rfl) (by kernel_rfl) (fun K hK => ?_); go_simp; (try (simp only [↓IntWalk.iteOmega]; go_simp)); (first | (refine hK _ ?_; clear hK K) | (apply Exists.intro; refine ⟨fun _ => ?_, hK _ ?_⟩; (first | fail); clear hK K)))
              (refine mix_step (by kernel_rfl) (by kernel_rfl) (fun K hK => ?_); go_simp; (try (simp only [↓IntWalk.iteOmega]; go_simp)); (first | (refine hK _ ?_; clear hK K) | (apply Exists.intro; refine ⟨fun _ => ?_, hK _ ?_⟩; (first | fail); clear hK K)))
              (refine mix_step (by kernel_rfl) (by kernel_rfl) (fun K hK => ?_); go_simp; (try (simp only [↓IntWalk.iteOmega]; go_simp)); (first | (refine hK _ ?_; clear hK K) | (apply Exists.intro; refine ⟨fun _ => ?_, hK _ ?_⟩; (first | fail); clear hK K)))
              (refine mix_step (by kernel_rfl) (by kernel_rfl) (fun K hK => ?_); go_simp; (try (simp only [↓IntWalk.iteOmega]; go_simp)); (first | (refine hK _ ?_; clear hK K) | (apply Exists.intro; refine ⟨fun _ => ?_, hK _ ?_⟩; (first | fail); clear hK K)))
              (refine mix_step (by kernel_rfl) (by kernel_rfl) (fun K hK => ?_); go_simp; (try (simp only [↓IntWalk.iteOmega]; go_simp)); (first | (refine hK _ ?_; clear hK K) | (apply Exists.intro; refine ⟨fun _ => ?_, hK _ ?_⟩; (first | fail); clear hK K)))
              (refine mix_step (by kernel_rfl) (by kernel_rfl) (fun K hK => ?_); go_simp; (try (simp only [↓IntWalk.iteOmega]; go_simp)); (first | (refine hK _ ?_; clear hK K) | (apply Exists.intro; refine ⟨fun _ => ?_, hK _ ?_⟩; (first | fail); clear hK K)))
              (refine mix_step (by kernel_rfl) (by kernel_rfl) (fun K hK => ?_); go_simp; (try (simp only [↓IntWalk.iteOmega]; go_simp)); (first | (refine hK _ ?_; clear hK K) | (apply Exists.intro; refine ⟨fun _ => ?_, hK _ ?_⟩; (first | fail); clear hK K)))
              (refine mix_step (by kernel_rfl) (by kernel_rfl) (fun K hK => ?_); go_simp; (try (simp only [↓IntWalk.iteOmega]; go_simp)); (first | (refine hK _ ?_; clear hK K) | (apply Exists.intro; refine ⟨fun _ => ?_, hK _ ?_⟩; (first | fail); clear hK K)))
              (refine mix_step (by kernel_rfl) (by kernel_rfl) (fun K hK => ?_); go_simp; (try (simp only [↓IntWalk.iteOmega]; go_simp)); (first | (refine hK _ ?_; clear hK K) | (apply Exists.intro; refine ⟨fun _ => ?_, hK _ ?_⟩; (first | fail); clear hK K)))
              (refine mix_step (by kernel_rfl) (by kernel_rfl) (fun K hK => ?_); go_simp; (try (simp only [↓IntWalk.iteOmega]; go_simp)); (first | (refine hK _ ?_; clear hK K) | (apply Exists.intro; refine ⟨fun _ => ?_, hK _ ?_⟩; (first | fail); clear hK K)))
              (refine mix_step (by kernel_rfl) (by kernel_rfl) (fun K hK => ?_); go_simp; (try (simp only [↓IntWalk.iteOmega]; go_simp)); (first | (refine hK _ ?_; clear hK K) | (apply Exists.intro; refine ⟨fun _ => ?_, hK _ ?_⟩; (first | fail); clear hK K)))
              (refine mix_step (by kernel_rfl) (by kernel_rfl) (fun K hK => ?_); go_simp; (try (simp only [↓IntWalk.iteOmega]; go_simp)); (first | (refine hK _ ?_; clear hK K) | (apply Exists.intro; refine ⟨fun _ => ?_, hK _ ?_⟩; (first | fail); clear hK K)))
              (refine mix_step (by kernel_rfl) (by kernel_rfl) (fun K hK => ?_); go_simp; (try (simp only [↓IntWalk.iteOmega]; go_simp)); (first | (refine hK _ ?_; clear hK K) | (apply Exists.intro; refine ⟨fun _ => ?_, hK _ ?_⟩; (first | fail); clear hK K)))
              (refine mix_step (by kernel_rfl) (by kernel_rfl) (fun K hK => ?_); go_simp; (try (simp only [↓IntWalk.iteOmega]; go_simp)); (first | (refine hK _ ?_; clear hK K) | (apply Exists.intro; refine ⟨fun _ => ?_, hK _ ?_⟩; (first | fail); clear hK K)))
              (refine mix_step (by kernel_rfl) (by kernel_rfl) (fun K hK => ?_); go_simp; (try (simp only [↓IntWalk.iteOmega]; go_simp)); (first | (refine hK _ ?_; clear hK K) | (apply Exists.intro; refine ⟨fun _ => ?_, hK _ ?_⟩; (first | fail); clear hK K)))
              (refine mix_step (by kernel_rfl) (by kernel_rfl) (fun K hK => ?_); go_simp; (try (simp only [↓IntWalk.iteOmega]; go_simp)); (first | (refine hK _ ?_; clear hK K) | (apply Exists.intro; refine ⟨fun _ => ?_, hK _ ?_⟩; (first | fail); clear hK K)))
              (refine mix_step (by kernel_rfl) (by kernel_rfl) (fun K hK => ?_); go_simp; (try (simp only [↓IntWalk.iteOmega]; go_simp)); (first | (refine hK _ ?_; clear hK K) | (apply Exists.intro; refine ⟨fun _ => ?_, hK _ ?_⟩; (first | fail); clear hK K)))
              (refine mix_step (by kernel_rfl) (by kernel_rfl) (fun K hK => ?_); go_simp; (try (simp only [↓IntWalk.iteOmega]; go_simp)); (first | (refine hK _ ?_; clear hK K) | (apply Exists.intro; refine ⟨fun _ => ?_, hK _ ?_⟩; (first | fail); clear hK K)))
              (refine mix_step (by kernel_rfl) (by kernel_rfl) (fun K hK => ?_); go_simp; (try (simp only [↓IntWalk.iteOmega]; go_simp)); (first | (refine hK _ ?_; clear hK K) | (apply Exists.intro; refine ⟨fun _ => ?_, hK _ ?_⟩; (first | fail); clear hK K)))
              (refine mix_step (by kernel_rfl) (by kernel_rfl) (fun K hK => ?_); go_simp; (try (simp only [↓IntWalk.iteOmega]; go_simp)); (first | (refine hK _ ?_; clear hK K) | (apply Exists.intro; refine ⟨fun _ => ?_, hK _ ?_⟩; (first | fail); clear hK K)))
              (refine mix_step (by kernel_rfl) (by kernel_rfl) (fun K hK => ?_); go_simp; (try (simp only [↓IntWalk.iteOmega]; go_simp)); (first | (refine hK _ ?_; clear hK K) | (apply Exists.intro; refine ⟨fun _ => ?_, hK _ ?_⟩; (first | fail); clear hK K)))
              (refine mix_step (by kernel_rfl) (by kernel_rfl) (fun K hK => ?_); go_simp; (try (simp only [↓IntWalk.iteOmega]; go_simp)); (first | (refine hK _ ?_; clear hK K) | (apply Exists.intro; refine ⟨fun _ => ?_, hK _ ?_⟩; (first | fail); clear hK K)))
              (refine mix_step (by kernel_rfl) (by kernel_rfl) (fun K hK => ?_); go_simp; (try (simp only [↓IntWalk.iteOmega]; go_simp)); (first | (refine hK _ ?_; clear hK K) | (apply Exists.intro; refine ⟨fun _ => ?_, hK _ ?_⟩; (first | fail); clear hK K)))
              (refine mix_step (by kernel_rfl) (by kernel_rfl) (fun K hK => ?_); go_simp; (try (simp only [↓IntWalk.iteOmega]; go_simp)); (first | (refine hK _ ?_; clear hK K) | (apply Exists.intro; refine ⟨fun _ => ?_, hK _ ?_⟩; (first | fail); clear hK K)))
              (refine mix_step (by kernel_rfl) (by kernel_rfl) (fun K hK => ?_); go_simp; (try (simp only [↓IntWalk.iteOmega]; go_simp)); (first | (refine hK _ ?_; clear hK K) | (apply Exists.intro; refine ⟨fun _ => ?_, hK _ ?_⟩; (first | fail); clear hK K)))
              (refine mix_step (by kernel_rfl) (by kernel_rfl) (fun K hK => ?_); go_simp; (try (simp only [↓IntWalk.iteOmega]; go_simp)); (first | (refine hK _ ?_; clear hK K) | (apply Exists.intro; refine ⟨fun _ => ?_, hK _ ?_⟩; (first | fail); clear hK K)))
              (refine mix_step (by kernel_rfl) (by kernel_rfl) (fun K hK => ?_); go_simp; (try (simp only [↓IntWalk.iteOmega]; go_simp)); (first | (refine hK _ ?_; clear hK K) | (apply Exists.intro; refine ⟨fun _ => ?_, hK _ ?_⟩; (first | fail); clear hK K)))
              (refine mix_step (by kernel_rfl) (by kernel_rfl) (fun K hK => ?_); go_simp; (try (simp only [↓IntWalk.iteOmega]; go_simp)); (first | (refine hK _ ?_; clear hK K) | (apply Exists.intro; refine ⟨fun _ => ?_, hK _ ?_⟩; (first | fail); clear hK K)))
              (refine mix_step (by kernel_rfl) (by kernel_rfl) (fun K hK => ?_); go_simp; (try (simp only [↓IntWalk.iteOmega]; go_simp)); (first | (refine hK _ ?_; clear hK K) | (apply Exists.intro; refine ⟨fun _ => ?_, hK _ ?_⟩; (first | fail); clear hK K)))
              (refine mix_step (by kernel_rfl) (by kernel_rfl) (fun K hK => ?_); go_simp; (try (simp only [↓IntWalk.iteOmega]; go_simp)); (first | (refine hK _ ?_; clear hK K) | (apply Exists.intro; refine ⟨fun _ => ?_, hK _ ?_⟩; (first | fail); clear hK K)))
              (refine mix_step (by kernel_rfl) (by kernel_rfl) (fun K hK => ?_); go_simp; (try (simp only [↓IntWalk.iteOmega]; go_simp)); (first | (refine hK _ ?_; clear hK K) | (apply Exists.intro; refine ⟨fun _ => ?_, hK _ ?_⟩; (first | fail); clear hK K)))
              refine mix_nil ?_
              rintro ⟨dr, osr⟩
              have hb8 := below_regrown wr dr osr
              refine (show wpList _ _ _ _ _ _ from ?_)
              simp only [List.drop, Act.put, List.setIfInBounds_toArray, List.set]
              go_wp2_with fail
              go_meet
              exact ⟨rfl, hb8⟩
        case rest =>
          obtain ⟨rfl, hb8⟩ := hcut
          generalize wc = w2 at *
          have hb2 := hbR.trans (hb8.mono hbR.size)
          clear c0 c1 c9 HRm HCT hb8 hbl
          cases ct
          · have n1 : ((l.take (i + 1)).filter (cntR q v m)).length = n := HNX.out
            clear HNX HC
            go_wp2_with fail
            refine ⟨⟨i + 1, by omega, by go_num, by rw [n1], hb2⟩, by simp [intOf]; omega⟩
          · have n1 : ((l.take (i + 1)).filter (cntR q v m)).length = n + 1 := HNX.out
            have hc := HC.out
            clear HNX HC
            go_wp2_with fail
            refine ⟨⟨i + 1, by omega, by go_num, by rw [n1]; (first | (congr 1; done) | (congr 1; (try unfold wrap64); omega)), hb2⟩, by simp [intOf]; omega⟩
      · obtain rfl : i = l.length := by omega
        rw [List.take_length]
        have HF := Lib.hid (reffind_any ao l cap v m wr (HA.out.later hbr) hl)
        have HCN := Lib.hid (fun h => cnt_on (l := l) (q := q) (v := v) (m := m) h)
        have HC := Lib.hid (show (l.filter (cntR q v m)).length ≤ 1000 from Nat.le_trans (List.length_filter_le _ _) hl)
        generalize (l.filter (cntR q v m)).length = n at *
        clear hlt hbR hbW1
        go_wp2_with ((with_reducible refine at_load 22 (.tmp 8) ?_); refine wpList_load_own rfl 22 (.tmp 8) rfl _ rfl _ _ _ HBr.out Try.underlying22 rfl (by kernel_rfl) ?_)
        refine HF.out.mono ?_
        rintro e w3 ⟨hr, hb3⟩
        have hbW3 := hbr.trans (hb3.mono hbr.size)
        have HB3 := Lib.hid (HBr.out.kept hb3)
        have HA3 := Lib.hid (HA.out.later hbW3)
        have HP := Lib.hid (put_any ao l cap ⟨v, m, q, 0, false⟩ w3 HA3.out hl)
        have HL0 : Hid (∀ c : Int, learnN zs l v m q = c → c ≠ 0 → learnL zs l v m q = l) := fun c h1 h2 => by
          unfold learnL
          rw [h1, if_neg h2]
        have HL1 : Hid (learnN zs l v m q = 0 → learnL zs l v m q = putL l ⟨v, m, q, 0, false⟩) := fun h1 => by
          unfold learnL
          rw [h1, if_pos rfl]
        obtain ⟨b0, off0, ha0, hz0⟩ : ∃ b0 off0, a0 = some ⟨b0, off0, none⟩ ∧ w3.cell? ⟨b0, off0 + q, none⟩ = some (.int .i64 (zs.getD q 0)) := by
          rcases HZ.out.after hbW3 with h | ⟨b0, off0, h1, h2⟩
          · rw [h] at hq
            exact absurd hq (Nat.not_lt_zero _)
          · exact ⟨b0, off0, h1, h2 q hq⟩
        subst ha0
        generalize zs.getD q 0 = z at *
        clear hb3 HF HBr hbr HZ
        rcases hr with ⟨i, hi, rfl, his⟩ | ⟨rfl, hno⟩
        · have HANY := any_at HN.out hi his (fun e => decide (e.port = (q : Int)))
          obtain ⟨b, off, hao, hbl, hcell⟩ := HA3.out.range hi
          subst hao
          have c1 : w3.cell? ⟨b, off + i * 10 + 1, none⟩ = some (.int .i64 l[i].port) := hcell 1 _ rfl
          clear hcell his
          generalize l[i].port = p at *
          by_cases hp : p = (q : Int)
          · have hp2 : (p != (q : Int)) = false := by rw [hp]; simp
            have h0 : learnN zs l v m q = 0 := by rw [HLN.out, HANY, decide_eq_true hp]; rfl
            have H0 := Lib.hid (And.intro h0 (HL1.out h0))
            clear HANY hp HCN HLN HL0 HL1 h0
            go_wp2_with ((with_reducible refine at_load 22 (.tmp 8) ?_); refine wpList_load_own rfl 22 (.tmp 8) rfl _ rfl _ _ _ HB3.out Try.underlying22 rfl (by kernel_rfl) ?_)
            refine HP.out.mono ?_
            rintro r w4 ⟨ao', cap', rfl, hM, hb4⟩
            have HM4 := Lib.hid hM
            have hbW4 := hbW3.trans (hb4.mono hbW3.size)
            clear hM hb4 HP c1 hz0
            go_wp2_with fail
            go_ret2
            rw [H0.out.1, H0.out.2]
            exact ⟨ao', cap', rfl, HM4.out, hbW4⟩
          · have hp2 : (p != (q : Int)) = true := bne_iff_ne.2 hp
            rw [decide_eq_false hp] at HANY
            have hn : n = onN q l := HCN.out HANY
            rw [HANY] at HLN
            by_cases hz : z ≤ (n : Int)
            · have hz1 : ((n : Int) ≥ z) = True := eq_true hz
              have hz2 : decide (z ≤ (n : Int)) = true := decide_eq_true hz
              have h0 : learnN zs l v m q = 8 := by rw [HLN.out, ← hn, if_pos hz]; rfl
              have H0 := Lib.hid (And.intro h0 (HL0.out 8 h0 (by decide)))
              clear HANY hp HCN HLN HL0 HL1 h0 hn HP
              go_wp2_with fail
              go_ret2
              rw [H0.out.1, H0.out.2]
              exact ⟨_, cap, rfl, HA3.out, hbW3⟩
            · have hz1 : ((n : Int) ≥ z) = False := eq_false hz
              have hz2 : decide (z ≤ (n : Int)) = false := decide_eq_false hz
              have h0 : learnN zs l v m q = 0 := by rw [HLN.out, ← hn, if_neg hz]; rfl
              have H0 := Lib.hid (And.intro h0 (HL1.out h0))
              clear HANY hp HCN HLN HL0 HL1 h0 hn
              go_wp2_with ((with_reducible refine at_load 22 (.tmp 8) ?_); refine wpList_load_own rfl 22 (.tmp 8) rfl _ rfl _ _ _ HB3.out Try.underlying22 rfl (by kernel_rfl) ?_)
              refine HP.out.mono ?_
              rintro r w4 ⟨ao', cap', rfl, hM, hb4⟩
              have HM4 := Lib.hid hM
              have hbW4 := hbW3.trans (hb4.mono hbW3.size)
              clear hM hb4 HP c1 hz0
              go_wp2_with fail
              go_ret2
              rw [H0.out.1, H0.out.2]
              exact ⟨ao', cap', rfl, HM4.out, hbW4⟩
        · have HANY := any_none hno (fun e => decide (e.port = (q : Int)))
          have hn : n = onN q l := HCN.out HANY
          rw [HANY] at HLN
          by_cases hz : z ≤ (n : Int)
          · have hz1 : ((n : Int) ≥ z) = True := eq_true hz
            have hz2 : decide (z ≤ (n : Int)) = true := decide_eq_true hz
            have h0 : learnN zs l v m q = 8 := by rw [HLN.out, ← hn, if_pos hz]; rfl
            have H0 := Lib.hid (And.intro h0 (HL0.out 8 h0 (by decide)))
            clear HANY HCN HLN HL0 HL1 h0 hn HP hno
            go_wp2_with fail
            go_ret2
            rw [H0.out.1, H0.out.2]
            exact ⟨_, cap, rfl, HA3.out, hbW3⟩
          · have hz1 : ((n : Int) ≥ z) = False := eq_false hz
            have hz2 : decide (z ≤ (n : Int)) = false := decide_eq_false hz
            have h0 : learnN zs l v m q = 0 := by rw [HLN.out, ← hn, if_neg hz]; rfl
            have H0 := Lib.hid (And.intro h0 (HL1.out h0))
            clear HANY HCN HLN HL0 HL1 h0 hn hno
            go_wp2_with ((with_reducible refine at_load 22 (.tmp 8) ?_); refine wpList_load_own rfl 22 (.tmp 8) rfl _ rfl _ _ _ HB3.out Try.underlying22 rfl (by kernel_rfl) ?_)
            refine HP.out.mono ?_
            rintro r w4 ⟨ao', cap', rfl, hM, hb4⟩
            have HM4 := Lib.hid hM
            have hbW4 := hbW3.trans (hb4.mono hbW3.size)
            clear hM hb4 HP hz0
            go_wp2_with fail
            go_ret2
            rw [H0.out.1, H0.out.2]
            exact ⟨ao', cap', rfl, HM4.out, hbW4⟩
  · have hle : learnN zs l v m port = mayN zs l v m port := by unfold learnN; rw [if_pos hm]
    have hll : learnL zs l v m port = l := by unfold learnL; rw [hle, if_neg hm]
    have HLE := Lib.hid (And.intro hle hll)
    have HA1 := Lib.hid (HA.out.later hbW1)
    clear hle hll
    generalize mayN zs l v m port = c at *
    have hc : (c != 0) = true := bne_iff_ne.2 hm
    go_wp2_with fail
    go_ret2
    rw [HLE.out.1, HLE.out.2]
    exact ⟨ao, cap, rfl, HA1.out, hbW1⟩
end Go.Proofs.Ytcdklbhfcfamnaa
