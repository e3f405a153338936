/- The walk of VecPlays. By an AI agent. -/
import Derived.Test.YthadlpiioabajaaRefVec
import Derived.Test.YthadlpiioabajaaCostRates
import Derived.Deep.DeepCutAuto
namespace Go.Proofs.Ythadlpiioabajaa
open Go.RowKit Go.Sort Grow

theorem Vec.part_of {w : World} {base : Nat} {g n cap : Nat} {l : List Vec.D} (h : w.ownsRow base 32 18 (.slice (some ⟨g, 0, none⟩) n cap) n (Vec.all l)) (hn : n = l.length) :
    g < w.heap.size ∧ ∀ i (hi : i < l.length), w.rangeAt g (i * 18) l[i].cells := by
  subst hn
  rcases h.2 with ⟨hv, _⟩ | ⟨g', cap', cur, hv, hg, hc, hle, hm, hs, ht⟩
  · cases hv
  · simp only [Value.slice.injEq, Option.some.injEq, Addr.mk.injEq, and_true] at hv
    obtain ⟨rfl, _, rfl⟩ := hv
    refine ⟨(Array.getElem?_eq_some_iff.1 hc).1, fun i hi j u hj => ?_⟩
    have hj18 : j < 18 := by
      have := (List.getElem?_eq_some_iff.1 hj).1
      rwa [Vec.cells_length] at this
    rw [cell_of_row w g _ cur _ (0, 0) hc, ← Array.getElem?_toList]
    have e := Vec.all_get l i hi j hj18
    rw [← ht, List.getElem?_take_of_lt (by omega), hj] at e
    exact e

/-- what the law reckons of a rate -/
theorem rate_want (rate : Nat) (h : rate ≤ 65535) : (rate = 0 ∧ Fl.cost (floatOfInt .f64 (rate : Int)) = 65535) ∨
    (0 < rate ∧ ∃ q : Nat, ((40000 : Int) + rate) / (2 * rate) = (q : Int) ∧ q ≤ 20000 ∧ Fl.cost (floatOfInt .f64 (rate : Int)) = (max q 1 : Nat)) := by
  rcases Nat.eq_zero_or_pos rate with rfl | h0
  · exact .inl ⟨rfl, by decide +kernel⟩
  · refine .inr ⟨h0, (40000 + rate) / (2 * rate), by rw [Int.natCast_ediv]; rfl, ?_, ?_⟩
    · have h1 : (40000 + rate) / (2 * rate) ≤ (40000 + 1) / (2 * 1) := by
        have := Fl.want_anti (show 0 < 1 by decide) h0
        unfold Fl.wantP at this
        have h2 : (40000 + rate) / (2 * rate) < 65536 := by
          rw [Nat.div_lt_iff_lt_mul (by omega)]
          omega
        have h3 : (40000 + 1) / (2 * 1) = 20000 := by decide
        omega
      have h3 : (40000 + 1) / (2 * 1) = 20000 := by decide
      omega
    · have := Fl.cost_rate rate h0 h
      unfold Fl.flo at this
      rw [this]
      unfold Fl.wantP
      have h2 : (40000 + rate) / (2 * rate) < 20001 := by
        rw [Nat.div_lt_iff_lt_mul (by omega)]
        omega
      congr 1
      omega

theorem range_below {w w' : World} {B g off : Nat} {sub : List Value} (h : w.rangeAt g off sub) (hb : Below B w w') (hg : g < B) : w'.rangeAt g off sub := fun j v hv => by
  rw [← h j v hv]
  simp only [World.cell?, hb.block g hg]

theorem vecPlays_long (ao : Option Addr) (vs : List Vec.D) (cap : Nat) (cost port : Int) (br : Nat → UInt8) (rate : Nat) (w : World) (h : 100 < vs.length) :
    Calls Try.prog 8 #[.slice ao vs.length cap, .int .i64 cost, .agg #[.int .u8 ((br 0).toNat : Int), .int .u8 ((br 1).toNat : Int), .int .u8 ((br 2).toNat : Int), .int .u8 ((br 3).toNat : Int), .int .u8 ((br 4).toNat : Int), .int .u8 ((br 5).toNat : Int), .int .u8 ((br 6).toNat : Int), .int .u8 ((br 7).toNat : Int)], .int .i64 port, .int .u16 (rate : Nat)] w fun e w' => e = .returned (.bool true) ∧ Below w.heap.size w w' := by
  go_enter Try.func8, Try.ntmps8
  go_wp2_with fail
  refine (awake_any _).mono ?_
  rintro e w1 ⟨rfl, rfl⟩
  go_wp2_with fail
  refine (awake_any _).mono ?_
  rintro e w1 ⟨rfl, rfl⟩
  go_wp2_with fail
  go_ret
  exact ⟨rfl, (Below.refl _ _).alloc (Nat.le_refl _) _⟩

set_option maxHeartbeats 8000000 in
set_option maxRecDepth 20000 in
theorem vecPlays_main (ao : Option Addr) (vs : List Vec.D) (cap : Nat) (cost port : Int) (br : Nat → UInt8) (rate : Nat) (hr : rate ≤ 65535) (w : World) (hA : Vec.At w ao vs) (hl : vs.length ≤ 100) :
    Calls Try.prog 8 #[.slice ao vs.length cap, .int .i64 cost, .agg #[.int .u8 ((br 0).toNat : Int), .int .u8 ((br 1).toNat : Int), .int .u8 ((br 2).toNat : Int), .int .u8 ((br 3).toNat : Int), .int .u8 ((br 4).toNat : Int), .int .u8 ((br 5).toNat : Int), .int .u8 ((br 6).toNat : Int), .int .u8 ((br 7).toNat : Int)], .int .i64 port, .int .u16 (rate : Nat)] w fun e w' => e = .returned (.bool true) ∧ Below w.heap.size w w' := by
  have HA := Lib.hid hA
  clear hA
  have hrw := Lib.hid (rate_want rate hr)
  have HCO := Lib.hid fun (a : Nat) ha w => cost_any a ha w
  obtain ⟨ti, tz, hi, hz, hz1, hz2, hz3⟩ := info_pvec
  have hi := Lib.hid hi
  have hz := Lib.hid hz
  have hz1 := Lib.hid hz1
  have hz2 := Lib.hid hz2
  have hz3 := Lib.hid hz3
  go_enter Try.func8, Try.ntmps8
  go_wp2_with fail
  generalize hW : w.alloc _ = W
  have hbA : Below w.heap.size w W := by rw [← hW]; exact (Below.refl _ _).alloc (Nat.le_refl _) _
  have RB : Hid (RowIs W w.heap.size 30 #[.int .u8 ((br 0).toNat : Int), .int .u8 ((br 1).toNat : Int), .int .u8 ((br 2).toNat : Int), .int .u8 ((br 3).toNat : Int), .int .u8 ((br 4).toNat : Int), .int .u8 ((br 5).toNat : Int), .int .u8 ((br 6).toNat : Int), .int .u8 ((br 7).toNat : Int)]) := by show RowIs W w.heap.size 30 #[.int .u8 ((br 0).toNat : Int), .int .u8 ((br 1).toNat : Int), .int .u8 ((br 2).toNat : Int), .int .u8 ((br 3).toNat : Int), .int .u8 ((br 4).toNat : Int), .int .u8 ((br 5).toNat : Int), .int .u8 ((br 6).toNat : Int), .int .u8 ((br 7).toNat : Int)]; rw [← hW]; exact rowIs_new w _ _
  have hWs : w.heap.size < W.heap.size := RB.out.lt
  have HA : Hid (Vec.At W ao vs) := by
    have := HA.out.later (w' := W) hbA
    exact this
  clear hW
  refine (awake_any _).mono ?_
  rintro e w1 ⟨rfl, rfl⟩
  go_wp2_with fail
  go_loopw [11, 12, 13] (fun v be i wr => ∃ k : Nat, k ≤ vs.length ∧ i = .int .i64 k ∧ be = .int .i64 (Vec.best vs k) ∧ Hid (wr.ownsRow W.heap.size 32 18 v k (Vec.all (vs.take k))) ∧ Below W.heap.size W wr) (fun _ _ i _ => vs.length - (intOf i).toNat)
  case atStart => exact ⟨0, Nat.zero_le _, rfl, rfl, ⟨rfl, .inl ⟨rfl, rfl⟩⟩, Below.refl _ _⟩
  case round =>
    rename_i mv _ _ wr
    obtain ⟨k, hk, rfl, rfl, hown, hbW⟩ := hrel
    by_cases hkl : k < vs.length
    · obtain ⟨b, off, rfl, hlt, hc⟩ := HA.out.some_of (by omega)
      have hck := range_later (hc k hkl) hlt hbW
      have hc0 := range_later (hc 0 (by omega)) hlt hbW
      have htk : Vec.all (vs.take (k + 1)) = Vec.all (vs.take k) ++ vs[k].cells := by rw [List.take_succ_eq_append_getElem hkl, Vec.all_snoc]
      have hbd := Vec.best_bounds vs k
      have hnext : Vec.best vs (k + 1) = if Vec.best vs k < 0 then (k : Int) else if (vs.getD k .zero).better (vs.getD (Vec.best vs k).toNat .zero) then (k : Int) else Vec.best vs k := rfl
      have hgk : vs.getD k .zero = vs[k] := by rw [List.getD, List.getElem?_eq_getElem hkl]; rfl
      rw [hgk] at hnext
      have hcase : Hid ((Vec.best vs k < 0 ∧ Vec.best vs (k + 1) = (k : Int)) ∨ ∃ (j : Nat) (hj : j < vs.length), Vec.best vs k = (j : Int) ∧ ((vs[k].better vs[j] = true ∧ Vec.best vs (k + 1) = (k : Int)) ∨ (vs[k].better vs[j] = false ∧ Vec.best vs (k + 1) = (j : Int)))) := by
        by_cases hm : Vec.best vs k < 0
        · exact .inl ⟨hm, by rw [hnext, if_pos hm]⟩
        · obtain ⟨j, hj⟩ : ∃ j : Nat, Vec.best vs k = j := ⟨(Vec.best vs k).toNat, by omega⟩
          have hjl : j < vs.length := by omega
          have hgj : vs.getD (Vec.best vs k).toNat .zero = vs[j] := by rw [show (Vec.best vs k).toNat = j by omega, List.getD, List.getElem?_eq_getElem hjl]; rfl
          rw [hgj, if_neg hm] at hnext
          refine .inr ⟨j, hjl, hj, ?_⟩
          cases hb : vs[k].better vs[j]
          · rw [hb] at hnext
            exact .inr ⟨rfl, by rw [hnext, hj]; rfl⟩
          · rw [hb] at hnext
            exact .inl ⟨rfl, by rw [hnext]; rfl⟩
      have HCJ : Hid (∀ (j : Nat) (hj : j < vs.length), wr.rangeAt b (off + j * 18) vs[j].cells) := fun j hj => range_later (hc j hj) hlt hbW
      have hltr := Nat.lt_of_lt_of_le hlt hbW.size
      have HT2 : Hid ((vs.take (k + 1)).length = k + 1) := by show _ = _; rw [List.length_take]; omega
      have HTG : Hid (∀ i (hi : i < (vs.take (k + 1)).length), ∃ hi' : i < vs.length, (vs.take (k + 1))[i] = vs[i]) := fun i hi => ⟨by rw [List.length_take] at hi; omega, by rw [List.getElem_take]⟩
      have HT := Lib.hid htk
      have HK := Lib.hid hck
      clear htk hgk hnext hbd hc hck
      go_wp2_with ((with_reducible refine at_load 29 (.tmp 34) ?_); refine wpList_load_mid rfl 29 (.tmp 34) rfl b (off + k * 18) rfl vs[k].cells _ HK.out Try.underlying29 rfl (by kernel_rfl) ?_)
      refine (vofD_any vs[k] _).mono ?_
      rintro e w1 ⟨rfl, hb1⟩
      have hown := Lib.hid (owns_later hown.out hb1)
      have hbW := hbW.trans (hb1.mono hbW.size)
      have hc0 := range_later hc0 hltr hb1
      have HK := Lib.hid (range_later HK.out hltr hb1)
      have HCJ : Hid (∀ (j : Nat) (hj : j < vs.length), w1.rangeAt b (off + j * 18) vs[j].cells) := fun j hj => range_later (HCJ.out j hj) hltr hb1
      have hlt1 := Nat.lt_of_lt_of_le hltr hb1.size
      clear hb1
      go_wp2_with (at_builtin; refine wpList_append_lies _ rfl (.tmp 31) (.tmp 37) 40 rfl W.heap.size 32 ti tz 18 32 Try.underlying40 hi.out hz.out hz1.out hz2.out hz3.out (by decide) _ k _ rfl (hown.out.alloc _) ⟨w1.heap.size, 0, none⟩ 1 1 vs[k].cells rfl rfl (World.news_of_block (heap_alloc_new _ _)) (by intro u hu; simp [Vec.D.cells] at hu; rcases hu with rfl | rfl | rfl | rfl | rfl | rfl | rfl | rfl | rfl | rfl | rfl | rfl | rfl | rfl | rfl | rfl | rfl | rfl <;> rfl) (by decide) (by unfold maxLen; omega) (by omega) (Nat.le_trans hbW.size (by simp)) _ rfl ?_)
      intro g cap' w3 hown3 hgrow _ _
      have hb3 : Below W.heap.size w1 w3 := (Below.alloc (Below.refl _ _) hbW.size _).trans (below_of_grown hgrow (Nat.le_trans hbW.size (by simp)) (fun q hq => (hown.out.lt q hq).1))
      have hbW := hbW.trans hb3
      rw [← HT.out] at hown3
      obtain ⟨hm9, hpart⟩ := Vec.part_of hown3 (by rw [HT2.out])
      have HO := Lib.hid hown3
      have H0 : Hid (w3.rangeAt b off vs[0].cells) := by
        have := range_below hc0 hb3 hlt
        rw [Nat.zero_mul, Nat.add_zero] at this
        exact this
      have HK := Lib.hid (range_below HK.out hb3 hlt)
      have HCJ : Hid (∀ (j : Nat) (hj : j < vs.length), w3.rangeAt b (off + j * 18) vs[j].cells) := fun j hj => range_below (HCJ.out j hj) hb3 hlt
      have M1 : Hid (w3.rangeAt g (k * 18) vs[k].cells) := by
        have := hpart k (by rw [HT2.out]; omega)
        rw [List.getElem_take] at this
        exact this
      have M0 : Hid (w3.rangeAt g 0 vs[0].cells) := by
        have := hpart 0 (by rw [HT2.out]; omega)
        rw [List.getElem_take, Nat.zero_mul] at this
        exact this
      have hg9 := Nat.lt_of_lt_of_le hlt hbW.size
      clear hc0 hb3 hpart hgrow hown3
      have hBZ := fun w => betterD_any vs[k] (vs[0]'(by omega)) w
      have rBZ := fun w => refBetter_any vs[k] (vs[0]'(by omega)) w
      generalize (vs[k].better (vs[0]'(by omega))) = bz at hBZ rBZ
      have HBZ := Lib.hid hBZ
      have RBZ := Lib.hid rBZ
      clear hBZ rBZ
      rcases hcase.out with ⟨hneg, hN⟩ | ⟨j, hj, hbj, hN⟩
      · have HN := Lib.hid hN
        clear hN hcase HCJ
        generalize vs[k] = v at *
        generalize vs[0]'(by omega) = z at *
        generalize Vec.best vs k = x at *
        go_upto_region 9 with fail
        refine wp_region_mix 13 (by kernel_rfl) (by kernel_rfl) (by kernel_rfl) ?_
        (refine mix_step (by kernel_rfl) (by kernel_rfl) (fun K hK => ?_); go_simp; (try (simp only [↓IntWalk.iteOmega]; go_simp)); (first | (refine hK _ ?_; clear hK K) | (apply Exists.intro; refine ⟨fun _ => ?_, hK _ ?_⟩; (first | fail); clear hK K)))
        (refine mix_step (by kernel_rfl) (by kernel_rfl) (fun K hK => ?_); go_simp; (try (simp only [↓IntWalk.iteOmega]; go_simp)); (first | (refine hK _ ?_; clear hK K) | (apply Exists.intro; refine ⟨fun _ => ?_, hK _ ?_⟩; (first | fail); clear hK K)))
        (refine mix_step (by kernel_rfl) (by kernel_rfl) (fun K hK => ?_); go_simp; (try (simp only [↓IntWalk.iteOmega]; go_simp)); (first | (refine hK _ ?_; clear hK K) | (apply Exists.intro; refine ⟨fun _ => ?_, hK _ ?_⟩; (first | fail); clear hK K)))
        (refine mix_step (by kernel_rfl) (by kernel_rfl) (fun K hK => ?_); go_simp; (try (simp only [↓IntWalk.iteOmega]; go_simp)); (first | (refine hK _ ?_; clear hK K) | (apply Exists.intro; refine ⟨fun _ => ?_, hK _ ?_⟩; (first | fail); clear hK K)))
        (refine mix_step (by kernel_rfl) (by kernel_rfl) (fun K hK => ?_); go_simp; (try (simp only [↓IntWalk.iteOmega]; go_simp)); (first | (refine hK _ ?_; clear hK K) | (apply Exists.intro; refine ⟨fun _ => ?_, hK _ ?_⟩; (first | fail); clear hK K)))
        (refine mix_step (by kernel_rfl) (by kernel_rfl) (fun K hK => ?_); go_simp; (try (simp only [↓IntWalk.iteOmega]; go_simp)); (first | (refine hK _ ?_; clear hK K) | (apply Exists.intro; refine ⟨fun _ => ?_, hK _ ?_⟩; (first | fail); clear hK K)))
        (refine mix_step (by kernel_rfl) (by kernel_rfl) (fun K hK => ?_); go_simp; (try (simp only [↓IntWalk.iteOmega]; go_simp)); (first | (refine hK _ ?_; clear hK K) | (apply Exists.intro; refine ⟨fun _ => ?_, hK _ ?_⟩; (first | fail); clear hK K)))
        (refine mix_step (by kernel_rfl) (by kernel_rfl) (fun K hK => ?_); go_simp; (try (simp only [↓IntWalk.iteOmega]; go_simp)); (first | (refine hK _ ?_; clear hK K) | (apply Exists.intro; refine ⟨fun _ => ?_, hK _ ?_⟩; (first | fail); clear hK K)))
        (refine mix_step (by kernel_rfl) (by kernel_rfl) (fun K hK => ?_); go_simp; (try (simp only [↓IntWalk.iteOmega]; go_simp)); (first | (refine hK _ ?_; clear hK K) | (apply Exists.intro; refine ⟨fun _ => ?_, hK _ ?_⟩; (first | fail); clear hK K)))
        (refine mix_step (by kernel_rfl) (by kernel_rfl) (fun K hK => ?_); go_simp; (try (simp only [↓IntWalk.iteOmega]; go_simp)); (first | (refine hK _ ?_; clear hK K) | (apply Exists.intro; refine ⟨fun _ => ?_, hK _ ?_⟩; (first | fail); clear hK K)))
        (refine mix_step (by kernel_rfl) (by kernel_rfl) (fun K hK => ?_); go_simp; (try (simp only [↓IntWalk.iteOmega]; go_simp)); (first | (refine hK _ ?_; clear hK K) | (apply Exists.intro; refine ⟨fun _ => ?_, hK _ ?_⟩; (first | fail); clear hK K)))
        (refine mix_step (by kernel_rfl) (by kernel_rfl) (fun K hK => ?_); go_simp; (try (simp only [↓IntWalk.iteOmega]; go_simp)); (first | (refine hK _ ?_; clear hK K) | (apply Exists.intro; refine ⟨fun _ => ?_, hK _ ?_⟩; (first | fail); clear hK K)))
        (refine mix_step (by kernel_rfl) (by kernel_rfl) (fun K hK => ?_); go_simp; (try (simp only [↓IntWalk.iteOmega]; go_simp)); (first | (refine hK _ ?_; clear hK K) | (apply Exists.intro; refine ⟨fun _ => ?_, hK _ ?_⟩; (first | fail); clear hK K)))
        refine mix_nil ?_
        rintro ⟨dq, osq⟩
        have hbq := below_regrown w3 dq osq
        have hbW := hbW.trans (hbq.mono hbW.size)
        generalize grow (redrawn w3 dq) osq = W9 at *
        refine (show wpList _ _ _ _ _ _ from ?_)
        simp only [List.drop, Act.put, List.setIfInBounds_toArray, List.set]
        have H0 := Lib.hid (range_later H0.out hg9 hbq)
        have HK := Lib.hid (range_later HK.out hg9 hbq)
        have M1 := Lib.hid (range_later M1.out hm9 hbq)
        have M0 := Lib.hid (range_later M0.out hm9 hbq)
        have HO := Lib.hid (owns_later HO.out hbq)
        have hg9 := Nat.lt_of_lt_of_le hg9 hbq.size
        have hm9 := Nat.lt_of_lt_of_le hm9 hbq.size
        clear hbq
        go_upto_region 11 with fail
        refine wp_region_mix 17 (by kernel_rfl) (by kernel_rfl) (by kernel_rfl) ?_
        (refine mix_step (by kernel_rfl) (by kernel_rfl) (fun K hK => ?_); go_simp; (try (simp only [↓IntWalk.iteOmega]; go_simp)); (first | (refine hK _ ?_; clear hK K) | (apply Exists.intro; refine ⟨fun _ => ?_, hK _ ?_⟩; (first | fail); clear hK K)))
        (refine mix_step (by kernel_rfl) (by kernel_rfl) (fun K hK => ?_); go_simp; (try (simp only [↓IntWalk.iteOmega]; go_simp)); (first | (refine hK _ ?_; clear hK K) | (apply Exists.intro; refine ⟨fun _ => ?_, hK _ ?_⟩; (first | fail); clear hK K)))
        (refine mix_step (by kernel_rfl) (by kernel_rfl) (fun K hK => ?_); go_simp; (try (simp only [↓IntWalk.iteOmega]; go_simp)); (first | (refine hK _ ?_; clear hK K) | (apply Exists.intro; refine ⟨fun _ => ?_, hK _ ?_⟩; (first | fail); clear hK K)))
        refine mix_exact (.agg v.cells.toArray) rfl (exact_load_range rfl rfl (by simp) M1.out hm9 Try.underlying32 rfl (by kernel_rfl)) ?_
        (refine mix_step (by kernel_rfl) (by kernel_rfl) (fun K hK => ?_); go_simp; (try (simp only [↓IntWalk.iteOmega]; go_simp)); (first | (refine hK _ ?_; clear hK K) | (apply Exists.intro; refine ⟨fun _ => ?_, hK _ ?_⟩; (first | fail); clear hK K)))
        (refine mix_step (by kernel_rfl) (by kernel_rfl) (fun K hK => ?_); go_simp; (try (simp only [↓IntWalk.iteOmega]; go_simp)); (first | (refine hK _ ?_; clear hK K) | (apply Exists.intro; refine ⟨fun _ => ?_, hK _ ?_⟩; (first | fail); clear hK K)))
        refine mix_exact (.agg z.cells.toArray) rfl (exact_load_range rfl rfl (by simp) M0.out hm9 Try.underlying32 rfl (by kernel_rfl)) ?_
        (refine mix_step (by kernel_rfl) (by kernel_rfl) (fun K hK => ?_); go_simp; (try (simp only [↓IntWalk.iteOmega]; go_simp)); (first | (refine hK _ ?_; clear hK K) | (apply Exists.intro; refine ⟨fun _ => ?_, hK _ ?_⟩; (first | exact HBZ.out _); clear hK K)))
        (refine mix_step (by kernel_rfl) (by kernel_rfl) (fun K hK => ?_); go_simp; (try (simp only [↓IntWalk.iteOmega]; go_simp)); (first | (refine hK _ ?_; clear hK K) | (apply Exists.intro; refine ⟨fun _ => ?_, hK _ ?_⟩; (first | fail); clear hK K)))
        (refine mix_step (by kernel_rfl) (by kernel_rfl) (fun K hK => ?_); go_simp; (try (simp only [↓IntWalk.iteOmega]; go_simp)); (first | (refine hK _ ?_; clear hK K) | (apply Exists.intro; refine ⟨fun _ => ?_, hK _ ?_⟩; (first | fail); clear hK K)))
        (refine mix_step (by kernel_rfl) (by kernel_rfl) (fun K hK => ?_); go_simp; (try (simp only [↓IntWalk.iteOmega]; go_simp)); (first | (refine hK _ ?_; clear hK K) | (apply Exists.intro; refine ⟨fun _ => ?_, hK _ ?_⟩; (first | fail); clear hK K)))
        refine mix_exact (.agg v.cells.toArray) rfl (exact_load_range rfl rfl (by simp) HK.out hg9 Try.underlying29 rfl (by kernel_rfl)) ?_
        (refine mix_step (by kernel_rfl) (by kernel_rfl) (fun K hK => ?_); go_simp; (try (simp only [↓IntWalk.iteOmega]; go_simp)); (first | (refine hK _ ?_; clear hK K) | (apply Exists.intro; refine ⟨fun _ => ?_, hK _ ?_⟩; (first | fail); clear hK K)))
        (refine mix_step (by kernel_rfl) (by kernel_rfl) (fun K hK => ?_); go_simp; (try (simp only [↓IntWalk.iteOmega]; go_simp)); (first | (refine hK _ ?_; clear hK K) | (apply Exists.intro; refine ⟨fun _ => ?_, hK _ ?_⟩; (first | fail); clear hK K)))
        refine mix_exact (.agg z.cells.toArray) rfl (exact_load_range rfl rfl (by simp) H0.out hg9 Try.underlying29 rfl (by kernel_rfl)) ?_
        (refine mix_step (by kernel_rfl) (by kernel_rfl) (fun K hK => ?_); go_simp; (try (simp only [↓IntWalk.iteOmega]; go_simp)); (first | (refine hK _ ?_; clear hK K) | (apply Exists.intro; refine ⟨fun _ => ?_, hK _ ?_⟩; (first | exact RBZ.out _); clear hK K)))
        (refine mix_step (by kernel_rfl) (by kernel_rfl) (fun K hK => ?_); go_simp; (try (simp only [↓IntWalk.iteOmega]; go_simp)); (first | (refine hK _ ?_; clear hK K) | (apply Exists.intro; refine ⟨fun _ => ?_, hK _ ?_⟩; (first | fail); clear hK K)))
        refine mix_nil ?_
        rintro ⟨dq, osq⟩
        have hbq := below_regrown W9 dq osq
        have hbW := hbW.trans (hbq.mono hbW.size)
        generalize grow (redrawn W9 dq) osq = W8 at *
        refine (show wpList _ _ _ _ _ _ from ?_)
        simp only [List.drop, Act.put, List.setIfInBounds_toArray, List.set]
        have HO := Lib.hid (owns_later HO.out hbq)
        go_wp2_with fail
        exact ⟨⟨k + 1, by omega, by go_num, by rw [HN.out], HO.out, hbW⟩, by simp [intOf]; omega⟩
      · have HJ := Lib.hid (HCJ.out j hj)
        have hB := fun w => refBetter_any vs[k] vs[j] w
        generalize vs[k].better vs[j] = bt at hB hN
        have HB := Lib.hid hB
        clear hB hcase HCJ
        generalize vs[k] = v at *
        generalize vs[0]'(by omega) = z at *
        generalize vs[j] = u at *
        rw [hbj]
        clear hbj
        rcases hN with ⟨rfl, hN⟩ | ⟨rfl, hN⟩
        all_goals
          have HN := Lib.hid hN
          clear hN
          go_upto_region 9 with fail
          refine wp_region_mix 13 (by kernel_rfl) (by kernel_rfl) (by kernel_rfl) ?_
          (refine mix_step (by kernel_rfl) (by kernel_rfl) (fun K hK => ?_); go_simp; (try (simp only [↓IntWalk.iteOmega]; go_simp)); (first | (refine hK _ ?_; clear hK K) | (apply Exists.intro; refine ⟨fun _ => ?_, hK _ ?_⟩; (first | fail); clear hK K)))
          (refine mix_step (by kernel_rfl) (by kernel_rfl) (fun K hK => ?_); go_simp; (try (simp only [↓IntWalk.iteOmega]; go_simp)); (first | (refine hK _ ?_; clear hK K) | (apply Exists.intro; refine ⟨fun _ => ?_, hK _ ?_⟩; (first | fail); clear hK K)))
          (refine mix_step (by kernel_rfl) (by kernel_rfl) (fun K hK => ?_); go_simp; (try (simp only [↓IntWalk.iteOmega]; go_simp)); (first | (refine hK _ ?_; clear hK K) | (apply Exists.intro; refine ⟨fun _ => ?_, hK _ ?_⟩; (first | fail); clear hK K)))
          (refine mix_step (by kernel_rfl) (by kernel_rfl) (fun K hK => ?_); go_simp; (try (simp only [↓IntWalk.iteOmega]; go_simp)); (first | (refine hK _ ?_; clear hK K) | (apply Exists.intro; refine ⟨fun _ => ?_, hK _ ?_⟩; (first | fail); clear hK K)))
          (refine mix_step (by kernel_rfl) (by kernel_rfl) (fun K hK => ?_); go_simp; (try (simp only [↓IntWalk.iteOmega]; go_simp)); (first | (refine hK _ ?_; clear hK K) | (apply Exists.intro; refine ⟨fun _ => ?_, hK _ ?_⟩; (first | fail); clear hK K)))
          (refine mix_step (by kernel_rfl) (by kernel_rfl) (fun K hK => ?_); go_simp; (try (simp only [↓IntWalk.iteOmega]; go_simp)); (first | (refine hK _ ?_; clear hK K) | (apply Exists.intro; refine ⟨fun _ => ?_, hK _ ?_⟩; (first | fail); clear hK K)))
          refine mix_exact (.agg v.cells.toArray) rfl (exact_load_range rfl rfl (by simp) HK.out hg9 Try.underlying29 rfl (by kernel_rfl)) ?_
          (refine mix_step (by kernel_rfl) (by kernel_rfl) (fun K hK => ?_); go_simp; (try (simp only [↓IntWalk.iteOmega]; go_simp)); (first | (refine hK _ ?_; clear hK K) | (apply Exists.intro; refine ⟨fun _ => ?_, hK _ ?_⟩; (first | fail); clear hK K)))
          (refine mix_step (by kernel_rfl) (by kernel_rfl) (fun K hK => ?_); go_simp; (try (simp only [↓IntWalk.iteOmega]; go_simp)); (first | (refine hK _ ?_; clear hK K) | (apply Exists.intro; refine ⟨fun _ => ?_, hK _ ?_⟩; (first | fail); clear hK K)))
          (refine mix_step (by kernel_rfl) (by kernel_rfl) (fun K hK => ?_); go_simp; (try (simp only [↓IntWalk.iteOmega]; go_simp)); (first | (refine hK _ ?_; clear hK K) | (apply Exists.intro; refine ⟨fun _ => ?_, hK _ ?_⟩; (first | fail); clear hK K)))
          refine mix_exact (.agg u.cells.toArray) rfl (exact_load_range rfl rfl (by simp) HJ.out hg9 Try.underlying29 rfl (by kernel_rfl)) ?_
          (refine mix_step (by kernel_rfl) (by kernel_rfl) (fun K hK => ?_); go_simp; (try (simp only [↓IntWalk.iteOmega]; go_simp)); (first | (refine hK _ ?_; clear hK K) | (apply Exists.intro; refine ⟨fun _ => ?_, hK _ ?_⟩; (first | exact HB.out _); clear hK K)))
          (refine mix_step (by kernel_rfl) (by kernel_rfl) (fun K hK => ?_); go_simp; (try (simp only [↓IntWalk.iteOmega]; go_simp)); (first | (refine hK _ ?_; clear hK K) | (apply Exists.intro; refine ⟨fun _ => ?_, hK _ ?_⟩; (first | fail); clear hK K)))
          refine mix_nil ?_
          rintro ⟨dq, osq⟩
          have hbq := below_regrown w3 dq osq
          have hbW := hbW.trans (hbq.mono hbW.size)
          generalize grow (redrawn w3 dq) osq = W9 at *
          refine (show wpList _ _ _ _ _ _ from ?_)
          simp only [List.drop, Act.put, List.setIfInBounds_toArray, List.set]
          have H0 := Lib.hid (range_later H0.out hg9 hbq)
          have HK := Lib.hid (range_later HK.out hg9 hbq)
          have M1 := Lib.hid (range_later M1.out hm9 hbq)
          have M0 := Lib.hid (range_later M0.out hm9 hbq)
          have HO := Lib.hid (owns_later HO.out hbq)
          have hg9 := Nat.lt_of_lt_of_le hg9 hbq.size
          have hm9 := Nat.lt_of_lt_of_le hm9 hbq.size
          clear hbq
          go_upto_region 11 with fail
          refine wp_region_mix 17 (by kernel_rfl) (by kernel_rfl) (by kernel_rfl) ?_
          (refine mix_step (by kernel_rfl) (by kernel_rfl) (fun K hK => ?_); go_simp; (try (simp only [↓IntWalk.iteOmega]; go_simp)); (first | (refine hK _ ?_; clear hK K) | (apply Exists.intro; refine ⟨fun _ => ?_, hK _ ?_⟩; (first | fail); clear hK K)))
          (refine mix_step (by kernel_rfl) (by kernel_rfl) (fun K hK => ?_); go_simp; (try (simp only [↓IntWalk.iteOmega]; go_simp)); (first | (refine hK _ ?_; clear hK K) | (apply Exists.intro; refine ⟨fun _ => ?_, hK _ ?_⟩; (first | fail); clear hK K)))
          (refine mix_step (by kernel_rfl) (by kernel_rfl) (fun K hK => ?_); go_simp; (try (simp only [↓IntWalk.iteOmega]; go_simp)); (first | (refine hK _ ?_; clear hK K) | (apply Exists.intro; refine ⟨fun _ => ?_, hK _ ?_⟩; (first | fail); clear hK K)))
          refine mix_exact (.agg v.cells.toArray) rfl (exact_load_range rfl rfl (by simp) M1.out hm9 Try.underlying32 rfl (by kernel_rfl)) ?_
          (refine mix_step (by kernel_rfl) (by kernel_rfl) (fun K hK => ?_); go_simp; (try (simp only [↓IntWalk.iteOmega]; go_simp)); (first | (refine hK _ ?_; clear hK K) | (apply Exists.intro; refine ⟨fun _ => ?_, hK _ ?_⟩; (first | fail); clear hK K)))
          (refine mix_step (by kernel_rfl) (by kernel_rfl) (fun K hK => ?_); go_simp; (try (simp only [↓IntWalk.iteOmega]; go_simp)); (first | (refine hK _ ?_; clear hK K) | (apply Exists.intro; refine ⟨fun _ => ?_, hK _ ?_⟩; (first | fail); clear hK K)))
          refine mix_exact (.agg z.cells.toArray) rfl (exact_load_range rfl rfl (by simp) M0.out hm9 Try.underlying32 rfl (by kernel_rfl)) ?_
          (refine mix_step (by kernel_rfl) (by kernel_rfl) (fun K hK => ?_); go_simp; (try (simp only [↓IntWalk.iteOmega]; go_simp)); (first | (refine hK _ ?_; clear hK K) | (apply Exists.intro; refine ⟨fun _ => ?_, hK _ ?_⟩; (first | exact HBZ.out _); clear hK K)))
          (refine mix_step (by kernel_rfl) (by kernel_rfl) (fun K hK => ?_); go_simp; (try (simp only [↓IntWalk.iteOmega]; go_simp)); (first | (refine hK _ ?_; clear hK K) | (apply Exists.intro; refine ⟨fun _ => ?_, hK _ ?_⟩; (first | fail); clear hK K)))
          (refine mix_step (by kernel_rfl) (by kernel_rfl) (fun K hK => ?_); go_simp; (try (simp only [↓IntWalk.iteOmega]; go_simp)); (first | (refine hK _ ?_; clear hK K) | (apply Exists.intro; refine ⟨fun _ => ?_, hK _ ?_⟩; (first | fail); clear hK K)))
          (refine mix_step (by kernel_rfl) (by kernel_rfl) (fun K hK => ?_); go_simp; (try (simp only [↓IntWalk.iteOmega]; go_simp)); (first | (refine hK _ ?_; clear hK K) | (apply Exists.intro; refine ⟨fun _ => ?_, hK _ ?_⟩; (first | fail); clear hK K)))
          refine mix_exact (.agg v.cells.toArray) rfl (exact_load_range rfl rfl (by simp) HK.out hg9 Try.underlying29 rfl (by kernel_rfl)) ?_
          (refine mix_step (by kernel_rfl) (by kernel_rfl) (fun K hK => ?_); go_simp; (try (simp only [↓IntWalk.iteOmega]; go_simp)); (first | (refine hK _ ?_; clear hK K) | (apply Exists.intro; refine ⟨fun _ => ?_, hK _ ?_⟩; (first | fail); clear hK K)))
          (refine mix_step (by kernel_rfl) (by kernel_rfl) (fun K hK => ?_); go_simp; (try (simp only [↓IntWalk.iteOmega]; go_simp)); (first | (refine hK _ ?_; clear hK K) | (apply Exists.intro; refine ⟨fun _ => ?_, hK _ ?_⟩; (first | fail); clear hK K)))
          refine mix_exact (.agg z.cells.toArray) rfl (exact_load_range rfl rfl (by simp) H0.out hg9 Try.underlying29 rfl (by kernel_rfl)) ?_
          (refine mix_step (by kernel_rfl) (by kernel_rfl) (fun K hK => ?_); go_simp; (try (simp only [↓IntWalk.iteOmega]; go_simp)); (first | (refine hK _ ?_; clear hK K) | (apply Exists.intro; refine ⟨fun _ => ?_, hK _ ?_⟩; (first | exact RBZ.out _); clear hK K)))
          (refine mix_step (by kernel_rfl) (by kernel_rfl) (fun K hK => ?_); go_simp; (try (simp only [↓IntWalk.iteOmega]; go_simp)); (first | (refine hK _ ?_; clear hK K) | (apply Exists.intro; refine ⟨fun _ => ?_, hK _ ?_⟩; (first | fail); clear hK K)))
          refine mix_nil ?_
          rintro ⟨dq, osq⟩
          have hbq := below_regrown W9 dq osq
          have hbW := hbW.trans (hbq.mono hbW.size)
          generalize grow (redrawn W9 dq) osq = W8 at *
          refine (show wpList _ _ _ _ _ _ from ?_)
          simp only [List.drop, Act.put, List.setIfInBounds_toArray, List.set]
          have HO := Lib.hid (owns_later HO.out hbq)
          go_wp2_with fail
          exact ⟨⟨k + 1, by omega, by go_num, by rw [HN.out], HO.out, hbW⟩, by simp [intOf]; omega⟩
    · obtain rfl : k = vs.length := by omega
      have hown := hown.out
      rw [List.take_length] at hown
      obtain ⟨mo, cap', rfl, hle, hmax, hAm⟩ := Vec.at_of_owns hown
      clear hown
      have HB := Lib.hid (best_any _ vs cap' wr hAm (by omega))
      have hAm := Lib.hid hAm
      generalize Vec.best vs vs.length = x at *
      go_wp2_with fail
      refine HB.out.mono ?_
      rintro e w4 ⟨rfl, hb4⟩
      have HAm : Hid (Vec.At w4 mo vs) := hAm.out.later hb4
      have hbW := hbW.trans (hb4.mono hbW.size)
      have HA : Hid (Vec.At w4 ao vs) := HA.out.later hbW
      have RB : Hid (RowIs w4 w.heap.size 30 #[.int .u8 ((br 0).toNat : Int), .int .u8 ((br 1).toNat : Int), .int .u8 ((br 2).toNat : Int), .int .u8 ((br 3).toNat : Int), .int .u8 ((br 4).toNat : Int), .int .u8 ((br 5).toNat : Int), .int .u8 ((br 6).toNat : Int), .int .u8 ((br 7).toNat : Int)]) := RB.out.kept hbW
      clear hb4 hAm HB
      have hfl : (floatOfInt .f64 (rate : Int)) < 18446744073709551616 := by
        rcases Nat.eq_zero_or_pos rate with h | h
        · subst h; decide +kernel
        · exact (Fl.flo_bd rate h hr).2.2
      have CO := fun w => HCO.out _ hfl w
      clear hfl
      have hend : ∃ ct : Int, Fl.cost (floatOfInt .f64 (rate : Int)) = ct ∧ Hid ((rate = 0 ∧ ct = 65535) ∨ (0 < rate ∧ ∃ q : Nat, ((40000 : Int) + rate) / (2 * rate) = (q : Int) ∧ q ≤ 20000 ∧ ct = (max q 1 : Nat))) := ⟨_, rfl, hrw.out⟩
      obtain ⟨ct, hct, HCT⟩ := hend
      rw [hct] at CO
      have CO := Lib.hid CO
      clear hct hrw HCO
      go_upto_if 77 with fail
      go_cut [14] (fun a wx => a = .int .i64 ct ∧ w4 = wx)
      case first =>
        rcases HCT.out with ⟨rfl, rfl⟩ | ⟨h0, q, hq, hq2, rfl⟩
        · go_wp2_with fail
          go_meet
          exact ⟨rfl, rfl⟩
        · rcases Nat.eq_zero_or_pos q with rfl | hq1
          · go_wp2_with fail
            go_meet
            exact ⟨rfl, rfl⟩
          · have hmx := Lib.hid (Nat.max_eq_left (show 1 ≤ q from hq1))
            go_wp2_with fail
            go_meet
            exact ⟨by rw [hmx.out], rfl⟩
      case rest =>
      obtain ⟨rfl, rfl⟩ := hcut
      go_wp2_with fail
      refine (CO.out _).mono ?_
      rintro e w5 ⟨rfl, rfl⟩
      rcases Nat.eq_zero_or_pos vs.length with hz | hp
      · go_wp2_with fail
        go_ret
        exact ⟨rfl, hbA.trans (hbW.mono hbA.size)⟩
      · obtain ⟨g, o1, rfl, hg, hcm⟩ := HAm.out.some_of hp
        obtain ⟨b, off, rfl, hlt, hcl⟩ := HA.out.some_of hp
        have M0 : Hid (w4.rangeAt g o1 (vs[0]'hp).cells) := by
          have := hcm 0 hp
          rw [Nat.zero_mul, Nat.add_zero] at this
          exact this
        have L0 : Hid (w4.rangeAt b off (vs[0]'hp).cells) := by
          have := hcl 0 hp
          rw [Nat.zero_mul, Nat.add_zero] at this
          exact this
        clear hcm hcl
        generalize vs[0]'hp = z at M0 L0
        have OV := Lib.hid fun w => over_any z.r z.b br z.c z.p cost port w
        have EQ := fun w => run_equalIn_pvec 9997 z.r br z.r br (Vec.held z.c + Vec.held cost) port (Vec.held z.c + Vec.held cost) port w
        rw [show Vec.eqV [z.r 0, z.r 1, z.r 2, z.r 3, z.r 4, z.r 5, z.r 6, z.r 7] (Vec.held z.c + Vec.held cost) [br 0, br 1, br 2, br 3, br 4, br 5, br 6, br 7] port [z.r 0, z.r 1, z.r 2, z.r 3, z.r 4, z.r 5, z.r 6, z.r 7] (Vec.held z.c + Vec.held cost) [br 0, br 1, br 2, br 3, br 4, br 5, br 6, br 7] port = true from (Vec.eqV_iff ..).2 ⟨rfl, rfl, rfl, rfl⟩] at EQ
        have EQ := Lib.hid EQ
        have hh1 : 0 ≤ Vec.held z.c ∧ Vec.held z.c ≤ 1099511627776 := by unfold Vec.held; omega
        have hh2 : 0 ≤ Vec.held cost ∧ Vec.held cost ≤ 1099511627776 := by unfold Vec.held; omega
        have hws : w.heap.size < w4.heap.size := RB.out.lt
        go_upto_region 23 with fail
        have hwr : IntKind.i64.wrap (Vec.held z.c + Vec.held cost) = Vec.held z.c + Vec.held cost := by rw [IntKind.wrap_i64]; omega
        refine wp_region_mix 8 (by kernel_rfl) (by kernel_rfl) (by kernel_rfl) ?_
        (refine mix_step (by kernel_rfl) (by kernel_rfl) (fun K hK => ?_); go_simp; (try (simp only [↓IntWalk.iteOmega]; go_simp)); (first | (refine hK _ ?_; clear hK K) | (apply Exists.intro; refine ⟨fun _ => ?_, hK _ ?_⟩; (first | fail); clear hK K)))
        (refine mix_step (by kernel_rfl) (by kernel_rfl) (fun K hK => ?_); go_simp; (try (simp only [↓IntWalk.iteOmega]; go_simp)); (first | (refine hK _ ?_; clear hK K) | (apply Exists.intro; refine ⟨fun _ => ?_, hK _ ?_⟩; (first | fail); clear hK K)))
        refine mix_exact (.agg z.cells.toArray) rfl (exact_load_range rfl rfl (by simp) M0.out hg Try.underlying32 rfl (by kernel_rfl)) ?_
        (refine mix_step (by kernel_rfl) (by kernel_rfl) (fun K hK => ?_); go_simp; (try (simp only [↓IntWalk.iteOmega]; go_simp)); (first | (refine hK _ ?_; clear hK K) | (apply Exists.intro; refine ⟨fun _ => ?_, hK _ ?_⟩; (first | fail); clear hK K)))
        refine mix_exact (.agg #[.int .u8 ((br 0).toNat : Int), .int .u8 ((br 1).toNat : Int), .int .u8 ((br 2).toNat : Int), .int .u8 ((br 3).toNat : Int), .int .u8 ((br 4).toNat : Int), .int .u8 ((br 5).toNat : Int), .int .u8 ((br 6).toNat : Int), .int .u8 ((br 7).toNat : Int)]) rfl (exact_load_row rfl rfl (by simp) RB.out Try.underlying30 rfl (by kernel_rfl)) ?_
        (refine mix_step (by kernel_rfl) (by kernel_rfl) (fun K hK => ?_); go_simp; (try (simp only [↓IntWalk.iteOmega]; go_simp)); (first | (refine hK _ ?_; clear hK K) | (apply Exists.intro; refine ⟨fun _ => ?_, hK _ ?_⟩; (first | fail); clear hK K)))
        (refine mix_step (by kernel_rfl) (by kernel_rfl) (fun K hK => ?_); go_simp; (try (simp only [↓IntWalk.iteOmega]; go_simp)); (first | (refine hK _ ?_; clear hK K) | (apply Exists.intro; refine ⟨fun _ => ?_, hK _ ?_⟩; (first | exact OV.out _); clear hK K)))
        refine mix_special (NewAt w4.heap.size 32 #[.int .u8 0, .int .u8 0, .int .u8 0, .int .u8 0, .int .u8 0, .int .u8 0, .int .u8 0, .int .u8 0, .int .i64 0, .int .u8 0, .int .u8 0, .int .u8 0, .int .u8 0, .int .u8 0, .int .u8 0, .int .u8 0, .int .u8 0, .int .i64 0]) 16 rfl rfl (stable_new _ _ _) (owes_alloc rfl (by kernel_rfl)) ?_
        refine mix_nil ?_
        rintro ⟨dq, osq⟩ u16 ⟨b16, rfl, hB16, hR16⟩
        have hbq := below_regrown w4 dq osq
        have HR16 := Lib.hid hR16
        clear hR16
        generalize grow (redrawn w4 dq) osq = W9 at *
        refine (show wpList _ _ _ _ _ _ from ?_)
        simp only [List.drop, Act.put, List.setIfInBounds_toArray, List.set]
        refine wpList_store_own rfl 32 (.tmp 16) (.tmp 99) rfl b16 _ rfl rfl _ _ HR16.out (by kernel_rfl) rfl (by kernel_rfl) w4.heap.size hB16 ?_
        intro w6 r6 _ hs6 hb6
        have R6 := Lib.hid r6
        have hb46 := hbq.trans hb6
        have RB := Lib.hid (RB.out.kept hb46)
        have L0' := range_later L0.out hlt hb46
        have hlt6 := Nat.lt_of_lt_of_le hlt hb46.size
        have LR : Hid (w6.rangeAt b off [.int .u8 ((z.r 0).toNat : Int), .int .u8 ((z.r 1).toNat : Int), .int .u8 ((z.r 2).toNat : Int), .int .u8 ((z.r 3).toNat : Int), .int .u8 ((z.r 4).toNat : Int), .int .u8 ((z.r 5).toNat : Int), .int .u8 ((z.r 6).toNat : Int), .int .u8 ((z.r 7).toNat : Int)]) := fun j v hj => L0' j v (by
          have hj8 : j < 8 := (List.getElem?_eq_some_iff.1 hj).1
          rw [← hj]
          exact List.getElem?_append_left (l₁ := ([.int .u8 ((z.r 0).toNat : Int), .int .u8 ((z.r 1).toNat : Int), .int .u8 ((z.r 2).toNat : Int), .int .u8 ((z.r 3).toNat : Int), .int .u8 ((z.r 4).toNat : Int), .int .u8 ((z.r 5).toNat : Int), .int .u8 ((z.r 6).toNat : Int), .int .u8 ((z.r 7).toNat : Int)] : List Value)) (l₂ := ([.int .i64 z.c, .int .u8 ((z.b 0).toNat : Int), .int .u8 ((z.b 1).toNat : Int), .int .u8 ((z.b 2).toNat : Int), .int .u8 ((z.b 3).toNat : Int), .int .u8 ((z.b 4).toNat : Int), .int .u8 ((z.b 5).toNat : Int), .int .u8 ((z.b 6).toNat : Int), .int .u8 ((z.b 7).toNat : Int), .int .i64 z.p] : List Value)) hj8)
        have LC : w6.cell? ⟨b, off + 8, none⟩ = some (.int .i64 z.c) := L0' 8 _ rfl
        have kC := cell_regrown LC
        have HL1 := Lib.hid fun w => below_same (refHeld_any z.c w)
        have HL2 := Lib.hid fun w => below_same (refHeld_any cost w)
        have hbW := hbW.trans (hb46.mono hbW.size)
        clear r6 hs6 hb6 hbq L0' LC hb46
        go_upto_region 24 with fail
        have EQ := EQ.out
        refine wp_region_mix 17 (by kernel_rfl) (by kernel_rfl) (by kernel_rfl) ?_
        refine mix_exact (.agg #[.int .u8 ((z.r 0).toNat : Int), .int .u8 ((z.r 1).toNat : Int), .int .u8 ((z.r 2).toNat : Int), .int .u8 ((z.r 3).toNat : Int), .int .u8 ((z.r 4).toNat : Int), .int .u8 ((z.r 5).toNat : Int), .int .u8 ((z.r 6).toNat : Int), .int .u8 ((z.r 7).toNat : Int), .int .i64 (Vec.held z.c + Vec.held cost), .int .u8 ((br 0).toNat : Int), .int .u8 ((br 1).toNat : Int), .int .u8 ((br 2).toNat : Int), .int .u8 ((br 3).toNat : Int), .int .u8 ((br 4).toNat : Int), .int .u8 ((br 5).toNat : Int), .int .u8 ((br 6).toNat : Int), .int .u8 ((br 7).toNat : Int), .int .i64 port]) rfl (exact_load_row rfl rfl (by simp) R6.out Try.underlying32 rfl (by kernel_rfl)) ?_
        (refine mix_step (by kernel_rfl) (by kernel_rfl) (fun K hK => ?_); go_simp; (try (simp only [↓IntWalk.iteOmega]; go_simp)); (first | (refine hK _ ?_; clear hK K) | (apply Exists.intro; refine ⟨fun _ => ?_, hK _ ?_⟩; (first | fail); clear hK K)))
        (refine mix_step (by kernel_rfl) (by kernel_rfl) (fun K hK => ?_); go_simp; (try (simp only [↓IntWalk.iteOmega]; go_simp)); (first | (refine hK _ ?_; clear hK K) | (apply Exists.intro; refine ⟨fun _ => ?_, hK _ ?_⟩; (first | fail); clear hK K)))
        (refine mix_step (by kernel_rfl) (by kernel_rfl) (fun K hK => ?_); go_simp; (try (simp only [↓IntWalk.iteOmega]; go_simp)); (first | (refine hK _ ?_; clear hK K) | (apply Exists.intro; refine ⟨fun _ => ?_, hK _ ?_⟩; (first | fail); clear hK K)))
        refine mix_exact (.agg #[.int .u8 ((z.r 0).toNat : Int), .int .u8 ((z.r 1).toNat : Int), .int .u8 ((z.r 2).toNat : Int), .int .u8 ((z.r 3).toNat : Int), .int .u8 ((z.r 4).toNat : Int), .int .u8 ((z.r 5).toNat : Int), .int .u8 ((z.r 6).toNat : Int), .int .u8 ((z.r 7).toNat : Int)]) rfl (exact_load_range rfl rfl (by simp) LR.out hlt6 Try.underlying27 rfl (by kernel_rfl)) ?_
        (refine mix_step (by kernel_rfl) (by kernel_rfl) (fun K hK => ?_); go_simp; (try (simp only [↓IntWalk.iteOmega]; go_simp)); (first | (refine hK _ ?_; clear hK K) | (apply Exists.intro; refine ⟨fun _ => ?_, hK _ ?_⟩; (first | fail); clear hK K)))
        (refine mix_step (by kernel_rfl) (by kernel_rfl) (fun K hK => ?_); go_simp; (try (simp only [↓IntWalk.iteOmega]; go_simp)); (first | (refine hK _ ?_; clear hK K) | (apply Exists.intro; refine ⟨fun _ => ?_, hK _ ?_⟩; (first | fail); clear hK K)))
        (refine mix_step (by kernel_rfl) (by kernel_rfl) (fun K hK => ?_); go_simp; (try (simp only [↓IntWalk.iteOmega]; go_simp)); (first | (refine hK _ ?_; clear hK K) | (apply Exists.intro; refine ⟨fun _ => ?_, hK _ ?_⟩; (first | fail); clear hK K)))
        (refine mix_step (by kernel_rfl) (by kernel_rfl) (fun K hK => ?_); go_simp; (try (simp only [↓IntWalk.iteOmega]; go_simp)); (first | (refine hK _ ?_; clear hK K) | (apply Exists.intro; refine ⟨fun _ => ?_, hK _ ?_⟩; (first | fail); clear hK K)))
        (refine mix_step (by kernel_rfl) (by kernel_rfl) (fun K hK => ?_); go_simp; (try (simp only [↓IntWalk.iteOmega]; go_simp)); (first | (refine hK _ ?_; clear hK K) | (apply Exists.intro; refine ⟨fun _ => ?_, hK _ ?_⟩; (first | exact HL1.out _); clear hK K)))
        (refine mix_step (by kernel_rfl) (by kernel_rfl) (fun K hK => ?_); go_simp; (try (simp only [↓IntWalk.iteOmega]; go_simp)); (first | (refine hK _ ?_; clear hK K) | (apply Exists.intro; refine ⟨fun _ => ?_, hK _ ?_⟩; (first | fail); clear hK K)))
        (refine mix_step (by kernel_rfl) (by kernel_rfl) (fun K hK => ?_); go_simp; (try (simp only [↓IntWalk.iteOmega]; go_simp)); (first | (refine hK _ ?_; clear hK K) | (apply Exists.intro; refine ⟨fun _ => ?_, hK _ ?_⟩; (first | exact HL2.out _); clear hK K)))
        (refine mix_step (by kernel_rfl) (by kernel_rfl) (fun K hK => ?_); go_simp; (try (simp only [↓IntWalk.iteOmega]; go_simp)); (first | (refine hK _ ?_; clear hK K) | (apply Exists.intro; refine ⟨fun _ => ?_, hK _ ?_⟩; (first | fail); clear hK K)))
        refine mix_exact (.agg #[.int .u8 ((br 0).toNat : Int), .int .u8 ((br 1).toNat : Int), .int .u8 ((br 2).toNat : Int), .int .u8 ((br 3).toNat : Int), .int .u8 ((br 4).toNat : Int), .int .u8 ((br 5).toNat : Int), .int .u8 ((br 6).toNat : Int), .int .u8 ((br 7).toNat : Int)]) rfl (exact_load_row rfl rfl (by simp) RB.out Try.underlying30 rfl (by kernel_rfl)) ?_
        (refine mix_step (by kernel_rfl) (by kernel_rfl) (fun K hK => ?_); go_simp; (try (simp only [↓IntWalk.iteOmega]; go_simp)); (first | (refine hK _ ?_; clear hK K) | (apply Exists.intro; refine ⟨fun _ => ?_, hK _ ?_⟩; (first | fail); clear hK K)))
        (refine mix_step (by kernel_rfl) (by kernel_rfl) (fun K hK => ?_); go_simp; (try (simp only [↓IntWalk.iteOmega]; go_simp)); (first | (refine hK _ ?_; clear hK K) | (apply Exists.intro; refine ⟨fun _ => ?_, hK _ ?_⟩; (first | fail); clear hK K)))
        (refine mix_step (by kernel_rfl) (by kernel_rfl) (fun K hK => ?_); go_simp; (try (simp only [↓IntWalk.iteOmega]; go_simp)); (first | (refine hK _ ?_; clear hK K) | (apply Exists.intro; refine ⟨fun _ => ?_, hK _ ?_⟩; (first | fail); clear hK K)))
        refine mix_nil ?_
        rintro ⟨dq, osq⟩
        have hbq := below_regrown w6 dq osq
        have hbW := hbW.trans (hbq.mono hbW.size)
        generalize grow (redrawn w6 dq) osq = W7 at *
        refine (show wpList _ _ _ _ _ _ from ?_)
        simp only [List.drop, Act.put, List.setIfInBounds_toArray, List.set]
        go_wp2_with fail
        go_ret
        exact ⟨rfl, hbA.trans (hbW.mono hbA.size)⟩

theorem vecPlays_walk (ao : Option Addr) (vs : List Vec.D) (cap : Nat) (cost : Int) (hcost : (Lit.int .i64 cost).wf = true) (br : Nat → UInt8) (port : Int) (hport : (Lit.int .i64 port).wf = true) (rate : Int) (hrate : (Lit.int .u16 rate).wf = true) (w : World) (hA : Vec.At w ao vs) (hB : ∀ u ∈ vs, (-9223372036854775808 ≤ u.c ∧ u.c ≤ 9223372036854775807) ∧ (-9223372036854775808 ≤ u.p ∧ u.p ≤ 9223372036854775807)) :
    Calls Try.prog 8 #[.slice ao vs.length cap, .int .i64 cost, .agg #[.int .u8 ((br 0).toNat : Int), .int .u8 ((br 1).toNat : Int), .int .u8 ((br 2).toNat : Int), .int .u8 ((br 3).toNat : Int), .int .u8 ((br 4).toNat : Int), .int .u8 ((br 5).toNat : Int), .int .u8 ((br 6).toNat : Int), .int .u8 ((br 7).toNat : Int)], .int .i64 port, .int .u16 rate] w fun e w' => e = .returned (.bool true) ∧ Below w.heap.size w w' := by
  simp only [Lit.wf, Bool.and_eq_true, decide_eq_true_eq] at hrate
  have hrate : 0 ≤ rate ∧ rate ≤ 65535 := hrate
  obtain ⟨rate, rfl⟩ := Int.eq_ofNat_of_zero_le hrate.1
  rcases Nat.lt_or_ge 100 vs.length with h | h
  · exact vecPlays_long ao vs cap cost port br rate w h
  · exact vecPlays_main ao vs cap cost port br rate (by omega) w hA h
end Go.Proofs.Ythadlpiioabajaa
