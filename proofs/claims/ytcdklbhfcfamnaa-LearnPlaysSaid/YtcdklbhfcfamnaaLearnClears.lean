/- Which stay when a table is cleared; the walk of LearnClears. By an AI agent. -/
import Derived.Test.YtcdklbhfcfamnaaLearnAny
namespace Go.Proofs.Ytcdklbhfcfamnaa
open Go.RowKit Go.MapKept Go.Maps Go.WideShapes Go.Sort Grow

theorem ManyAt.later {α : Type} {w w' : World} {ao : Option Addr} {encA : α → List Value} {k : Nat} {vs : List α} (h : ManyAt w ao encA k vs) (hb : Below w.heap.size w w') : ManyAt w' ao encA k vs := by
  rcases h with h | ⟨b, off, e, hl, hc⟩
  · exact .inl h
  · exact .inr ⟨b, off, e, Nat.lt_of_lt_of_le hl hb.size, fun i h j v hj => (hb.cell (p := ⟨b, off + i * k + j, none⟩) hl).trans (hc i h j v hj)⟩

theorem ManyAt.range {α : Type} {w : World} {ao : Option Addr} {encA : α → List Value} {k : Nat} {vs : List α} (h : ManyAt w ao encA k vs) {i : Nat} (hi : i < vs.length) :
    ∃ b off, ao = some ⟨b, off, none⟩ ∧ b < w.heap.size ∧ ∀ j v, (encA vs[i])[j]? = some v → w.cell? ⟨b, off + i * k + j, none⟩ = some v := by
  rcases h with h | ⟨b, off, e, hl, hc⟩
  · rw [h] at hi; exact absurd hi (Nat.not_lt_zero _)
  · exact ⟨b, off, e, hl, hc i hi⟩

/-- what All answers lies there -/
theorem many_of_holds {w w' : World} {ao : Option Addr} {ds : List Ent} (h : ds = [] ∨ ∃ b, ao = some ⟨b, 0, none⟩ ∧ w.heap.size ≤ b ∧ b < w'.heap.size ∧ HoldsK encE 10 w' b 0 ds.toArray) : ManyAt w' ao encE 10 ds := by
  rcases h with h | ⟨b, e, _, hl, hh⟩
  · exact .inl h
  · refine .inr ⟨b, 0, e, hl, fun i hi j v hj => ?_⟩
    have hj10 : j < 10 := (List.getElem?_eq_some_iff.1 hj).1
    have h1 := (hh.cell (i := i) (c := j) (by simpa using hi) hj10).1
    refine h1.trans ?_
    rw [← hj, getElem!_pos ds.toArray i (by simpa using hi)]
    simp only [List.getElem_toArray]
    rw [List.getElem!_eq_getElem?_getD, hj]
    rfl

theorem ManyAt.apart {α : Type} {w w' : World} {ao : Option Addr} {encA : α → List Value} {k M : Nat} {vs : List α} (h : ManyAt w ao encA k vs) (hg : w.grownBy w' (some M)) (hne : vs = [] ∨ ∃ b, ao = some ⟨b, 0, none⟩ ∧ b ≠ M) : ManyAt w' ao encA k vs := by
  rcases hne with h0 | ⟨b, rfl, hb⟩
  · exact .inl h0
  rcases h with h | ⟨b', off, e, hl, hc⟩
  · exact .inl h
  · cases e
    refine .inr ⟨b, 0, rfl, Nat.lt_of_lt_of_le hl hg.size, fun i h j v hj => ?_⟩
    have e1 : w'.heap[b]? = w.heap[b]? := hg.block b hl (fun e => hb (by cases e; rfl))
    rw [show w'.cell? ⟨b, 0 + i * k + j, none⟩ = w.cell? ⟨b, 0 + i * k + j, none⟩ from World.cell?_of_block (w := w) e1]
    exact hc i h j v hj

/-! ### the plain law -/
/-- nothing is fixed, nothing is older than k -/
def Sane (k : Nat) (L : List Ent) : Prop := ∀ e ∈ L, e.fixed = false ∧ 0 ≤ e.age ∧ e.age ≤ k
theorem sane_learn {lims : List Int} {L L' : List Ent} {v : Int} {m : Mac6} {port : Int} {k : Nat} (h : LearnStep lims L v m port L') (hs : Sane k L) : Sane (k + 1) L' ∧ L'.length ≤ L.length + 1 := by
  have up : ∀ e ∈ L, e.fixed = false ∧ 0 ≤ e.age ∧ e.age ≤ ((k + 1 : Nat) : Int) := fun e he => ⟨(hs e he).1, (hs e he).2.1, by have := (hs e he).2.2; omega⟩
  rcases h with rfl | ⟨q, _, _, L0, rfl, h⟩
  · exact ⟨up, by omega⟩
  · rcases h with ⟨rfl, _, _⟩ | ⟨e0, hp, _, _, _, _⟩
    · refine ⟨fun e he => ?_, by simp⟩
      rcases List.mem_cons.1 he with rfl | he
      · exact ⟨rfl, by simp, by simp; omega⟩
      · exact up e he
    · refine ⟨fun e he => ?_, by rw [hp.length_eq]; simp⟩
      rcases List.mem_cons.1 he with rfl | he
      · exact ⟨rfl, by simp, by simp; omega⟩
      · exact up e (hp.mem_iff.2 (List.mem_cons_of_mem _ he))
theorem sane_tick {L : List Ent} {a : Int} {k : Nat} (hs : Sane k L) : Sane (k + 1) (tickL a L) ∧ (tickL a L).length ≤ L.length := by
  refine ⟨fun e he => ?_, ?_⟩
  · obtain ⟨e0, he0, rfl⟩ := List.mem_map.1 (List.mem_filter.1 he).1
    obtain ⟨a1, a2, a3⟩ := hs e0 he0
    exact ⟨a1, by show 0 ≤ e0.age + 1; omega, by show e0.age + 1 ≤ _; omega⟩
  · refine Nat.le_trans (List.length_filter_le _ _) ?_
    simp
theorem sane_told {L : List Ent} {k : Nat} (hs : Sane k L) : L.map Ent.told = L := by
  refine (List.map_congr_left fun e he => ?_).trans (List.map_id _)
  obtain ⟨v, m, p, a, f⟩ := e
  have : f = false := (hs _ he).1
  subst this
  rfl

def young (age : Int) (e : Ent) : Bool := !decide (age < e.age)
theorem stays_young {L : List Ent} {k : Nat} {age : Int} (hs : Sane k L) : L.filter (Ent.stays fun e => decide (age < e.age)) = L.filter (young age) ∧ L.filter (Ent.goes fun e => decide (age < e.age)) = L.filter (fun e => !young age e) := by
  refine ⟨List.filter_congr fun e he => ?_, List.filter_congr fun e he => ?_⟩
  · unfold Ent.stays Ent.goes young
    rw [(hs e he).1]
    simp
  · unfold Ent.goes young
    rw [(hs e he).1]
    simp

theorem keep_at {α : Type} (f : α → Bool) (ds : List α) (i : Nat) (hi : i < ds.length) (hf : f ds[i] = true) : (ds.filter f)[((ds.take i).filter f).length]? = some ds[i] := by
  have e : ds = ds.take i ++ ds[i] :: ds.drop (i + 1) := by rw [List.getElem_cons_drop, List.take_append_drop]
  conv => lhs; rw [e]
  rw [List.filter_append, List.filter_cons_of_pos hf]
  have : ((ds.take i ++ ds[i] :: ds.drop (i + 1)).take i) = ds.take i := by rw [← e]
  rw [this, List.getElem?_append_right (Nat.le_refl _)]
  simp
theorem take_next {α : Type} (f : α → Bool) (ds : List α) (i : Nat) (hi : i < ds.length) : ((ds.take (i + 1)).filter f).length = ((ds.take i).filter f).length + (if f ds[i] then 1 else 0) := by
  rw [List.take_add_one, List.getElem?_eq_getElem hi, List.filter_append]
  simp [List.filter_cons]
  split <;> simp

set_option maxRecDepth 20000 in
set_option maxHeartbeats 8000000 in
theorem learnClears_go (a0 : Option Addr) (zs : List Int) (cap0 : Nat) (a1 : Option Addr) (acts : List ActD) (cap1 : Nat) (age : Int) (w : World) (hz : zs.length ≤ 32) (hbad : anyBad zs = false) (ha : acts.length ≤ 80) (hA0 : IntsAt w a0 zs) (hA1 : ManyAt w a1 ActD.cells 10 acts) :
    Calls Try.prog 4 #[.slice a0 zs.length cap0, .slice a1 acts.length cap1, .int .i64 age] w fun e w' => e = .returned (.bool true) ∧ Below w.heap.size w w' := by
  have HA := Lib.hid hA1
  have g1 : ((acts.length : Int) > 80) = False := by simp; omega
  have g2 : ((zs.length : Int) > 100) = False := by simp; omega
  go_enter Try.func4, Try.ntmps4
  go_wp2_with fail
  refine (awake_any _).mono ?_
  rintro e w1 ⟨rfl, hbW⟩
  have HN := Lib.hid (new_ok 50 (by omega) a0 zs cap0 w1 (hA0.after hbW) hz hbad)
  clear hA0 hA1
  go_wp2_with fail
  refine HN.out.mono ?_
  rintro e w2 ⟨T, M, rfl, hT, hb2⟩
  have hB1 := hbW.size
  have hbW := hbW.trans (hb2.mono hB1)
  clear hb2 HN
  generalize w1.heap.size = BB at *
  have hBM := hT.baseM
  have hMw : w.heap.size ≤ M := Nat.le_trans hB1 hBM
  have HT0 := Lib.hid hT
  clear hT g1 g2
  go_upto_region 6 with fail
  go_wp2_with fail
  go_loopw [9] (fun s9 wr => ∃ (i : Nat) (L : List Ent), i ≤ acts.length ∧ s9 = .int .i64 i ∧ L.length ≤ i ∧ Hid (TabIs BB T M wr 50 zs L) ∧ Hid (Sane i L) ∧ Below w.heap.size w wr) (fun s9 _ => acts.length - (intOf s9).toNat)
  case atStart => exact ⟨0, [], Nat.zero_le _, rfl, Nat.zero_le _, HT0, (fun e he => by cases he), hbW⟩
  case round =>
    clear hbW HT0
    rename_i wr
    obtain ⟨i, L, hi, rfl, hLi, HT, HS, hbW⟩ := hrel
    by_cases hlt : i < acts.length
    · obtain ⟨b, off, hao, hbl, hcell⟩ := (HA.out.later hbW).range hlt
      generalize acts[i] = x at hcell
      subst hao
      have hblr : b < wr.heap.size := Nat.lt_of_lt_of_le hbl (Nat.le_refl _)
      have c0 : wr.cell? ⟨b, off + i * 10, none⟩ = some (.int .u8 (x.x.toNat : Int)) := hcell 0 _ rfl
      have c1 : wr.cell? ⟨b, off + i * 10 + 1, none⟩ = some (.int .i64 x.v) := hcell 1 _ rfl
      have c2 : wr.cell? ⟨b, off + i * 10 + 2, none⟩ = some (.int .i64 x.port) := hcell 2 _ rfl
      have HR := Lib.hid (show wr.rangeAt b (off + i * 10 + 4) (macCells x.m) from fun j v hj => by
        have := (List.getElem?_eq_some_iff.1 hj).1
        have h := hcell (4 + j) v (by rw [← hj]; exact (List.getElem?_drop (xs := x.cells) (i := 4) (j := j)).symm)
        rw [← Nat.add_assoc] at h
        exact h)
      clear hcell
      by_cases h3 : (x.x.toNat : Int) % 4 = 3
      · have HTK := Lib.hid (tick_any BB T M 50 zs L wr HT.out (by omega) (fun e he => ⟨(HS.out e he).2.1, by have := (HS.out e he).2.2; omega⟩))
        have HS1 : Hid (Sane (i + 1) (tickL 50 L)) := (sane_tick HS.out).1
        have hl1 := (sane_tick (a := 50) HS.out).2
        clear HR c1 c2
        go_wp2_with fail
        refine HTK.out.mono ?_
        rintro r w3 ⟨⟨v, rfl⟩, hT3, hg3⟩
        have hbW := hbW.grown hg3 hbW.size (fun k e => by
          cases e
          exact hMw)
        have HT3 := Lib.hid hT3
        clear hT3 hg3 HTK HT HS
        go_wp2_with fail
        refine ⟨⟨i + 1, _, by omega, by go_num, by omega, HT3, HS1, hbW⟩, by simp [intOf]; omega⟩
      · go_upto_region 11 with fail
        have k1 := cell_regrown c1
        have k2 := cell_regrown c2
        clear c0 c1 c2
        refine wp_region_mix 16 (by kernel_rfl) (by kernel_rfl) (by kernel_rfl) ?_
        (refine mix_step (by kernel_rfl) (by kernel_rfl) (fun K hK => ?_); go_simp; (try (simp only [↓IntWalk.iteOmega]; go_simp)); (first | (refine hK _ ?_; clear hK K) | (apply Exists.intro; refine ⟨fun _ => ?_, hK _ ?_⟩; (first | fail); clear hK K)))
        (refine mix_step (by kernel_rfl) (by kernel_rfl) (fun K hK => ?_); go_simp; (try (simp only [↓IntWalk.iteOmega]; go_simp)); (first | (refine hK _ ?_; clear hK K) | (apply Exists.intro; refine ⟨fun _ => ?_, hK _ ?_⟩; (first | fail); clear hK K)))
        (refine mix_step (by kernel_rfl) (by kernel_rfl) (fun K hK => ?_); go_simp; (try (simp only [↓IntWalk.iteOmega]; go_simp)); (first | (refine hK _ ?_; clear hK K) | (apply Exists.intro; refine ⟨fun _ => ?_, hK _ ?_⟩; (first | fail); clear hK K)))
        (refine mix_step (by kernel_rfl) (by kernel_rfl) (fun K hK => ?_); go_simp; (try (simp only [↓IntWalk.iteOmega]; go_simp)); (first | (refine hK _ ?_; clear hK K) | (apply Exists.intro; refine ⟨fun _ => ?_, hK _ ?_⟩; (first | fail); clear hK K)))
        (refine mix_step (by kernel_rfl) (by kernel_rfl) (fun K hK => ?_); go_simp; (try (simp only [↓IntWalk.iteOmega]; go_simp)); (first | (refine hK _ ?_; clear hK K) | (apply Exists.intro; refine ⟨fun _ => ?_, hK _ ?_⟩; (first | fail); clear hK K)))
        (refine mix_step (by kernel_rfl) (by kernel_rfl) (fun K hK => ?_); go_simp; (try (simp only [↓IntWalk.iteOmega]; go_simp)); (first | (refine hK _ ?_; clear hK K) | (apply Exists.intro; refine ⟨fun _ => ?_, hK _ ?_⟩; (first | fail); clear hK K)))
        (refine mix_step (by kernel_rfl) (by kernel_rfl) (fun K hK => ?_); go_simp; (try (simp only [↓IntWalk.iteOmega]; go_simp)); (first | (refine hK _ ?_; clear hK K) | (apply Exists.intro; refine ⟨fun _ => ?_, hK _ ?_⟩; (first | fail); clear hK K)))
        (refine mix_step (by kernel_rfl) (by kernel_rfl) (fun K hK => ?_); go_simp; (try (simp only [↓IntWalk.iteOmega]; go_simp)); (first | (refine hK _ ?_; clear hK K) | (apply Exists.intro; refine ⟨fun _ => ?_, hK _ ?_⟩; (first | fail); clear hK K)))
        (refine mix_step (by kernel_rfl) (by kernel_rfl) (fun K hK => ?_); go_simp; (try (simp only [↓IntWalk.iteOmega]; go_simp)); (first | (refine hK _ ?_; clear hK K) | (apply Exists.intro; refine ⟨fun _ => ?_, hK _ ?_⟩; (first | fail); clear hK K)))
        (refine mix_step (by kernel_rfl) (by kernel_rfl) (fun K hK => ?_); go_simp; (try (simp only [↓IntWalk.iteOmega]; go_simp)); (first | (refine hK _ ?_; clear hK K) | (apply Exists.intro; refine ⟨fun _ => ?_, hK _ ?_⟩; (first | fail); clear hK K)))
        refine mix_exact (.agg #[.int .u8 (x.m.a.toNat : Int), .int .u8 (x.m.b.toNat : Int), .int .u8 (x.m.c.toNat : Int), .int .u8 (x.m.d.toNat : Int), .int .u8 (x.m.e.toNat : Int), .int .u8 (x.m.f.toNat : Int)]) rfl (exact_load_range (off := off + i * 10 + 4) (sub := macCells x.m) rfl rfl (by simp) HR.out hblr Try.underlying23 rfl (by kernel_rfl)) ?_
        (refine mix_step (by kernel_rfl) (by kernel_rfl) (fun K hK => ?_); go_simp; (try (simp only [↓IntWalk.iteOmega]; go_simp)); (first | (refine hK _ ?_; clear hK K) | (apply Exists.intro; refine ⟨fun _ => ?_, hK _ ?_⟩; (first | fail); clear hK K)))
        (refine mix_step (by kernel_rfl) (by kernel_rfl) (fun K hK => ?_); go_simp; (try (simp only [↓IntWalk.iteOmega]; go_simp)); (first | (refine hK _ ?_; clear hK K) | (apply Exists.intro; refine ⟨fun _ => ?_, hK _ ?_⟩; (first | fail); clear hK K)))
        (refine mix_step (by kernel_rfl) (by kernel_rfl) (fun K hK => ?_); go_simp; (try (simp only [↓IntWalk.iteOmega]; go_simp)); (first | (refine hK _ ?_; clear hK K) | (apply Exists.intro; refine ⟨fun _ => ?_, hK _ ?_⟩; (first | fail); clear hK K)))
        (refine mix_step (by kernel_rfl) (by kernel_rfl) (fun K hK => ?_); go_simp; (try (simp only [↓IntWalk.iteOmega]; go_simp)); (first | (refine hK _ ?_; clear hK K) | (apply Exists.intro; refine ⟨fun _ => ?_, hK _ ?_⟩; (first | fail); clear hK K)))
        (refine mix_step (by kernel_rfl) (by kernel_rfl) (fun K hK => ?_); go_simp; (try (simp only [↓IntWalk.iteOmega]; go_simp)); (first | (refine hK _ ?_; clear hK K) | (apply Exists.intro; refine ⟨fun _ => ?_, hK _ ?_⟩; (first | fail); clear hK K)))
        refine mix_nil ?_
        rintro ⟨dr, osr⟩
        have hb8 := below_regrown wr dr osr
        have HT1 := Lib.hid (HT.out.later hb8)
        have hbW := hbW.trans (hb8.mono hbW.size)
        clear k1 k2 HR HT hb8
        generalize grow (redrawn wr dr) osr = W5 at *
        refine (show wpList _ _ _ _ _ _ from ?_)
        simp only [List.drop, Act.put, List.setIfInBounds_toArray, List.set]
        have HL := Lib.hid (learn_any BB T M 50 zs L x.v x.m x.port W5 HT1.out (by omega) (by omega))
        go_wp2_with fail
        refine HL.out.mono ?_
        rintro r w3 ⟨⟨v, rfl⟩, L', hT3, hg3, hst⟩
        have hbW := hbW.grown hg3 hbW.size (fun k e => by
          cases e
          exact hMw)
        have HT3 := Lib.hid hT3
        obtain ⟨hs1, hl1⟩ := sane_learn hst HS.out
        have HS1 := Lib.hid hs1
        clear hT3 hg3 HT1 HS HL hst hs1
        go_wp2_with fail
        refine ⟨⟨i + 1, _, by omega, by go_num, by omega, HT3, HS1, hbW⟩, by simp [intOf]; omega⟩
    · have hLl : L.length ≤ 80 := by omega
      have HS1 := Lib.hid (show Sane i L from HS.out)
      clear HA
      have H := Lib.hid (all_any BB T M 50 zs L wr HT.out (by omega))
      go_wp2_with fail
      refine H.out.mono ?_
      rintro r w3 ⟨ao3, ds, cap3, rfl, hp3, hs3, hh3, hb3⟩
      have hbW := hbW.trans (hb3.mono hbW.size)
      have HD := Lib.hid (many_of_holds hh3)
      have HT1 := Lib.hid (HT.out.later hb3)
      rw [sane_told HS.out] at hp3
      have hne3 : ds = [] ∨ ∃ b, ao3 = some ⟨b, 0, none⟩ ∧ b ≠ M := by
        rcases hh3 with h | ⟨b, e, h1, _⟩
        · exact .inl h
        · refine .inr ⟨b, e, ?_⟩
          have : M < wr.heap.size := by
            obtain ⟨_, _, _, _, _, _, h6, _⟩ := HT.out
            exact h6.lt
          omega
      clear hh3 hb3 HT H hlt
      have H := Lib.hid (clear_tab BB T M 50 zs L age w3 HT1.out (by omega))
      rw [(stays_young HS.out).1, (stays_young HS.out).2] at H
      go_wp2_with fail
      refine H.out.mono ?_
      rintro r w4 ⟨rfl, hT4, hg4⟩
      have HD4 : Hid (ManyAt w4 ao3 encE 10 ds) := HD.out.apart hg4 hne3
      have hbW := hbW.grown hg4 hbW.size (fun k e => by
        cases e
        exact hMw)
      have HT4 := Lib.hid hT4
      clear hT4 hg4 H HT1 HD
      have H := Lib.hid (all_any BB T M 50 zs (L.filter (young age)) w4 HT4.out (Nat.le_trans (List.length_filter_le _ _) (by omega)))
      go_wp2_with fail
      refine H.out.mono ?_
      rintro r w5 ⟨ao5, es, cap5, rfl, hp5, hs5, hh5, hb5⟩
      have hbW := hbW.trans (hb5.mono hbW.size)
      have HE := Lib.hid (many_of_holds hh5)
      have HD5 := Lib.hid (HD4.out.later hb5)
      have hes : es = ds.filter (young age) := by
        rw [sane_told (fun e he => HS.out e (List.mem_filter.1 he).1)] at hp5
        refine one_order (L := L.filter (young age)) (fun a ha b hb hab => ?_) hp5 (hp3.filter _) hs5 (hs3.filter _)
        obtain ⟨k1, k2⟩ := key_inj hab
        exact key_once HT4.out ha hb k1 k2
      have hgn : (L.filter fun e => !young age e).length = (ds.filter fun e => !young age e).length := ((hp3.filter _).length_eq).symm
      have hdl : ds.length ≤ 80 := by rw [hp3.length_eq]; exact hLl
      rw [hgn]
      subst hes
      clear hgn hp5 hs5 hh5 hb5 HT4 H hp3 hs3 hne3 HS HS1 hBM hMw hLi hi
      go_upto_region 15 with fail
      go_wp2_with fail
      generalize hKE : ds.filter (young age) = es at *
      have HKE := Lib.hid hKE
      clear hKE
      go_loopw [11, 13, 14] (fun s11 s13 s14 wr => ∃ i : Nat, i ≤ ds.length ∧ s14 = .int .i64 i ∧ s13 = .int .i64 (((ds.take i).filter (young age)).length : Nat) ∧ s11 = .int .i64 ((((ds.filter fun e => !young age e).length : Nat) : Int) - ((((ds.take i).filter fun e => !young age e).length : Nat) : Int)) ∧ (Below w5.heap.size w5 wr)) (fun _ _ s14 _ => ds.length - (intOf s14).toNat)
      case atStart => exact ⟨0, Nat.zero_le _, rfl, rfl, by simp, Below.refl _ _⟩
      case round =>
        rename World => w6
        obtain ⟨i, hi, rfl, rfl, rfl, hbw⟩ := hrel
        have HD5 := Lib.hid (HD5.out.later hbw)
        have HE := Lib.hid (HE.out.later hbw)
        have hbW := hbW.trans (hbw.mono hbW.size)
        by_cases hlt : i < ds.length
        · have HC := Lib.hid (show ((ds.take i).filter (young age)).length ≤ 80 from Nat.le_trans (List.length_filter_le _ _) (by rw [List.length_take]; omega))
          have HC2 := Lib.hid (show ((ds.take i).filter fun e => !young age e).length ≤ 80 from Nat.le_trans (List.length_filter_le _ _) (by rw [List.length_take]; omega))
          have HG2 := Lib.hid (show (ds.filter fun e => !young age e).length ≤ 80 from Nat.le_trans (List.length_filter_le _ _) hdl)
          have N1 := Lib.hid (take_next (young age) ds i hlt)
          have N2 := Lib.hid (take_next (fun e => !young age e) ds i hlt)
          have KA := Lib.hid (keep_at (young age) ds i hlt)
          rw [HKE.out] at KA
          obtain ⟨b, off, hao, hbl, hcell⟩ := HD5.out.range hlt
          have HR := Lib.hid (show w6.rangeAt b (off + i * 10) (encE ds[i]) from hcell)
          have c2 : w6.cell? ⟨b, off + i * 10 + 2, none⟩ = some (.int .i64 ds[i].age) := hcell 2 _ rfl
          subst hao
          clear hcell
          generalize ds[i] = d at *
          generalize ((ds.take i).filter (young age)).length = k1 at *
          generalize ((ds.take i).filter fun e => !young age e).length = k2 at *
          generalize hkg : (ds.filter fun e => !young age e).length = kg at *
          have HKG := Lib.hid hkg
          clear hkg
          by_cases hk : d.age > age
          · have hy : young age d = false := by unfold young; simpa using hk
            clear KA
            rw [hy] at N1 N2
            go_wp2_with fail
            have n1 : ((ds.take (i + 1)).filter (young age)).length = k1 := N1.out
            have n2 : ((ds.take (i + 1)).filter fun e => !young age e).length = k2 + 1 := N2.out
            have h2 := HC2.out
            have h3 := HG2.out
            clear HC HC2 HG2 N1 N2
            refine ⟨⟨i + 1, by omega, by go_num, by rw [n1], by rw [n2]; congr 1; unfold wrap64; omega, hbw⟩, by simp [intOf]; omega⟩
          · have hy : young age d = true := by unfold young; simpa using hk
            rw [hy] at N1 N2
            have hka := KA.out hy
            have hk1 : k1 < es.length := (List.getElem?_eq_some_iff.1 hka).1
            obtain ⟨b', off', hao', hbl', hcell'⟩ := HE.out.range hk1
            rw [(List.getElem?_eq_some_iff.1 hka).2] at hcell'
            have HR' := Lib.hid (show w6.rangeAt b' (off' + k1 * 10) (encE d) from hcell')
            subst hao'
            have m1 := run_equalIn_mac 9997 d.m.a d.m.b d.m.c d.m.d d.m.e d.m.f d.m.a d.m.b d.m.c d.m.d d.m.e d.m.f
            rw [eqB_true.2 rfl] at m1
            have g : decide ((es.length : Int) ≤ (k1 : Int)) = false := decide_eq_false (by omega)
            have g' : ((k1 : Int) ≥ (es.length : Int)) = False := by simp; omega
            clear hcell' hka KA HD5 HE
            go_upto_region 21 with fail
            clear c2
            refine wp_region_mix 15 (by kernel_rfl) (by kernel_rfl) (by kernel_rfl) ?_
            (refine mix_step (by kernel_rfl) (by kernel_rfl) (fun K hK => ?_); go_simp; (try (simp only [↓IntWalk.iteOmega]; go_simp)); (first | (refine hK _ ?_; clear hK K) | (apply Exists.intro; refine ⟨fun _ => ?_, hK _ ?_⟩; (first | fail); clear hK K)))
            (refine mix_step (by kernel_rfl) (by kernel_rfl) (fun K hK => ?_); go_simp; (try (simp only [↓IntWalk.iteOmega]; go_simp)); (first | (refine hK _ ?_; clear hK K) | (apply Exists.intro; refine ⟨fun _ => ?_, hK _ ?_⟩; (first | fail); clear hK K)))
            (refine mix_step (by kernel_rfl) (by kernel_rfl) (fun K hK => ?_); go_simp; (try (simp only [↓IntWalk.iteOmega]; go_simp)); (first | (refine hK _ ?_; clear hK K) | (apply Exists.intro; refine ⟨fun _ => ?_, hK _ ?_⟩; (first | fail); clear hK K)))
            (refine mix_step (by kernel_rfl) (by kernel_rfl) (fun K hK => ?_); go_simp; (try (simp only [↓IntWalk.iteOmega]; go_simp)); (first | (refine hK _ ?_; clear hK K) | (apply Exists.intro; refine ⟨fun _ => ?_, hK _ ?_⟩; (first | fail); clear hK K)))
            (refine mix_step (by kernel_rfl) (by kernel_rfl) (fun K hK => ?_); go_simp; (try (simp only [↓IntWalk.iteOmega]; go_simp)); (first | (refine hK _ ?_; clear hK K) | (apply Exists.intro; refine ⟨fun _ => ?_, hK _ ?_⟩; (first | fail); clear hK K)))
            (refine mix_step (by kernel_rfl) (by kernel_rfl) (fun K hK => ?_); go_simp; (try (simp only [↓IntWalk.iteOmega]; go_simp)); (first | (refine hK _ ?_; clear hK K) | (apply Exists.intro; refine ⟨fun _ => ?_, hK _ ?_⟩; (first | fail); clear hK K)))
            (refine mix_step (by kernel_rfl) (by kernel_rfl) (fun K hK => ?_); go_simp; (try (simp only [↓IntWalk.iteOmega]; go_simp)); (first | (refine hK _ ?_; clear hK K) | (apply Exists.intro; refine ⟨fun _ => ?_, hK _ ?_⟩; (first | fail); clear hK K)))
            (refine mix_step (by kernel_rfl) (by kernel_rfl) (fun K hK => ?_); go_simp; (try (simp only [↓IntWalk.iteOmega]; go_simp)); (first | (refine hK _ ?_; clear hK K) | (apply Exists.intro; refine ⟨fun _ => ?_, hK _ ?_⟩; (first | fail); clear hK K)))
            refine mix_exact (.agg #[.int .i64 d.v, .int .i64 d.port, .int .i64 d.age, .int .u8 (d.m.a.toNat : Int), .int .u8 (d.m.b.toNat : Int), .int .u8 (d.m.c.toNat : Int), .int .u8 (d.m.d.toNat : Int), .int .u8 (d.m.e.toNat : Int), .int .u8 (d.m.f.toNat : Int), .bool d.fixed]) rfl (exact_load_range (off := off' + k1 * 10) (sub := encE d) rfl rfl (by simp) HR'.out hbl' Try.underlying42 rfl (by kernel_rfl)) ?_
            (refine mix_step (by kernel_rfl) (by kernel_rfl) (fun K hK => ?_); go_simp; (try (simp only [↓IntWalk.iteOmega]; go_simp)); (first | (refine hK _ ?_; clear hK K) | (apply Exists.intro; refine ⟨fun _ => ?_, hK _ ?_⟩; (first | fail); clear hK K)))
            (refine mix_step (by kernel_rfl) (by kernel_rfl) (fun K hK => ?_); go_simp; (try (simp only [↓IntWalk.iteOmega]; go_simp)); (first | (refine hK _ ?_; clear hK K) | (apply Exists.intro; refine ⟨fun _ => ?_, hK _ ?_⟩; (first | fail); clear hK K)))
            (refine mix_step (by kernel_rfl) (by kernel_rfl) (fun K hK => ?_); go_simp; (try (simp only [↓IntWalk.iteOmega]; go_simp)); (first | (refine hK _ ?_; clear hK K) | (apply Exists.intro; refine ⟨fun _ => ?_, hK _ ?_⟩; (first | fail); clear hK K)))
            refine mix_exact (.agg #[.int .i64 d.v, .int .i64 d.port, .int .i64 d.age, .int .u8 (d.m.a.toNat : Int), .int .u8 (d.m.b.toNat : Int), .int .u8 (d.m.c.toNat : Int), .int .u8 (d.m.d.toNat : Int), .int .u8 (d.m.e.toNat : Int), .int .u8 (d.m.f.toNat : Int), .bool d.fixed]) rfl (exact_load_range (off := off + i * 10) (sub := encE d) rfl rfl (by simp) HR.out hbl Try.underlying42 rfl (by kernel_rfl)) ?_
            (refine mix_step (by kernel_rfl) (by kernel_rfl) (fun K hK => ?_); go_simp; (try (simp only [↓IntWalk.iteOmega]; go_simp)); (first | (refine hK _ ?_; clear hK K) | (apply Exists.intro; refine ⟨fun _ => ?_, hK _ ?_⟩; (first | fail); clear hK K)))
            (refine mix_step (by kernel_rfl) (by kernel_rfl) (fun K hK => ?_); go_simp; (try (simp only [↓IntWalk.iteOmega]; go_simp)); (first | (refine hK _ ?_; clear hK K) | (apply Exists.intro; refine ⟨fun _ => ?_, hK _ ?_⟩; (first | fail); clear hK K)))
            refine mix_nil ?_
            rintro ⟨dr, osr⟩
            have hb8 := below_regrown w6 dr osr
            have hbw := hbw.trans (hb8.mono hbw.size)
            clear hb8 HR HR' m1
            generalize grow (redrawn w6 dr) osr = W7 at *
            refine (show wpList _ _ _ _ _ _ from ?_)
            simp only [List.drop, Act.put, List.setIfInBounds_toArray, List.set]
            go_wp2_with fail
            have n1 : ((ds.take (i + 1)).filter (young age)).length = k1 + 1 := N1.out
            have n2 : ((ds.take (i + 1)).filter fun e => !young age e).length = k2 := N2.out
            have h1 := HC.out
            clear HC HC2 HG2 N1 N2
            refine ⟨⟨i + 1, by omega, by go_num, by rw [n1]; congr 1; (try unfold wrap64); omega, by rw [n2], hbw⟩, by simp [intOf]; omega⟩
        · obtain rfl : i = ds.length := by omega
          simp only [List.take_length, Int.sub_self, HKE.out]
          go_wp2_with fail
          go_ret
          exact ⟨rfl, hbW⟩
set_option maxHeartbeats 2000000 in
theorem learnClears_big (a0 : Option Addr) (zs : List Int) (cap0 : Nat) (a1 : Option Addr) (acts : List ActD) (cap1 : Nat) (age : Int) (w : World) (h : 80 < acts.length ∨ 100 < zs.length) :
    Calls Try.prog 4 #[.slice a0 zs.length cap0, .slice a1 acts.length cap1, .int .i64 age] w fun e w' => e = .returned (.bool true) ∧ Below w.heap.size w w' := by
  by_cases ha : 80 < acts.length
  · have g1 : ((acts.length : Int) > 80) = True := by simp; omega
    have g2 : decide ((80 : Int) < (acts.length : Int)) = true := decide_eq_true (by omega)
    go_enter Try.func4, Try.ntmps4
    go_wp2_with fail
    refine (awake_any _).mono ?_
    rintro e w1 ⟨rfl, hb⟩
    go_wp2_with fail
    refine (awake_any _).mono ?_
    rintro e w2 ⟨rfl, hb2⟩
    have hbW := hb.trans (hb2.mono hb.size)
    clear hb hb2
    go_wp2_with fail
    go_ret
    exact ⟨rfl, hbW⟩
  · have hz : 100 < zs.length := h.resolve_left ha
    have g1 : ((acts.length : Int) > 80) = False := by simp; omega
    have g2 : decide ((80 : Int) < (acts.length : Int)) = false := decide_eq_false (by omega)
    have g3 : ((zs.length : Int) > 100) = True := by simp; omega
    have g4 : decide ((100 : Int) < (zs.length : Int)) = true := decide_eq_true (by omega)
    go_enter Try.func4, Try.ntmps4
    go_wp2_with fail
    refine (awake_any _).mono ?_
    rintro e w1 ⟨rfl, hb⟩
    go_wp2_with fail
    refine (awake_any _).mono ?_
    rintro e w2 ⟨rfl, hb2⟩
    have hbW := hb.trans (hb2.mono hb.size)
    clear hb hb2
    go_wp2_with fail
    go_ret
    exact ⟨rfl, hbW⟩

set_option maxHeartbeats 2000000 in
theorem learnClears_bad (a0 : Option Addr) (zs : List Int) (cap0 : Nat) (a1 : Option Addr) (acts : List ActD) (cap1 : Nat) (age : Int) (w : World) (ha : acts.length ≤ 80) (hz : zs.length ≤ 100) (hA0 : IntsAt w a0 zs) (h : 32 < zs.length ∨ anyBad zs = true) :
    Calls Try.prog 4 #[.slice a0 zs.length cap0, .slice a1 acts.length cap1, .int .i64 age] w fun e w' => e = .returned (.bool true) ∧ Below w.heap.size w w' := by
  have g1 : ((acts.length : Int) > 80) = False := by simp; omega
  have g2 : ((zs.length : Int) > 100) = False := by simp; omega
  go_enter Try.func4, Try.ntmps4
  go_wp2_with fail
  refine (awake_any _).mono ?_
  rintro e w1 ⟨rfl, hbW⟩
  have HN := Lib.hid (new_bad 50 a0 zs cap0 w1 (hA0.after hbW) (by omega) (.inr (.inr h)))
  clear hA0 h
  go_wp2_with fail
  refine HN.out.mono ?_
  rintro e w2 ⟨rfl, rfl⟩
  go_wp2_with fail
  go_ret
  exact ⟨rfl, hbW⟩

theorem learnClears_walk (a0 : Option Addr) (zs : List Int) (cap0 : Nat) (a1 : Option Addr) (acts : List ActD) (cap1 : Nat) (age : Int) (_ : (Lit.int .i64 age).wf = true) (w : World) (hA0 : IntsAt w a0 zs) (_ : zs.length ≤ 9223372036854775807) (hA1 : ManyAt w a1 ActD.cells 10 acts) (_ : acts.length ≤ 9223372036854775807) (_ : ∀ a ∈ acts, a.ok) :
    Calls Try.prog 4 #[.slice a0 zs.length cap0, .slice a1 acts.length cap1, .int .i64 age] w fun e w' => e = .returned (.bool true) ∧ Below w.heap.size w w' := by
  by_cases h1 : 80 < acts.length ∨ 100 < zs.length
  · exact learnClears_big a0 zs cap0 a1 acts cap1 age w h1
  · by_cases h2 : 32 < zs.length ∨ anyBad zs = true
    · exact learnClears_bad a0 zs cap0 a1 acts cap1 age w (by omega) (by omega) hA0 h2
    · exact learnClears_go a0 zs cap0 a1 acts cap1 age w (by omega) (by
        cases hb : anyBad zs
        · rfl
        · exact absurd (.inr hb) h2) (by omega) hA0 hA1
end Go.Proofs.Ytcdklbhfcfamnaa
