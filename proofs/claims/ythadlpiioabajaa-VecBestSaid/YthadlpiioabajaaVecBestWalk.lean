/- The walk of VecBest. By an AI agent. -/
import Derived.Test.YthadlpiioabajaaBestRun
namespace Go.Proofs.Ythadlpiioabajaa
open Go.RowKit Go.Sort Grow

theorem vecBest_long (ao : Option Addr) (n cap : Nat) (cut : Int) (w : World) (h : 100 < n) :
    Calls Try.prog 7 #[.slice ao n cap, .int .u8 cut] w fun e w' => e = .returned (.bool true) ∧ Below w.heap.size w w' := by
  go_enter Try.func7, Try.ntmps7
  go_wp2_with fail
  refine (awake_any _).mono ?_
  rintro e w' ⟨rfl, rfl⟩
  go_wp2_with fail
  refine (awake_any _).mono ?_
  rintro e w' ⟨rfl, rfl⟩
  go_wp2_with fail
  go_ret
  exact ⟨rfl, Below.refl _ _⟩

set_option maxHeartbeats 1000000 in
theorem vecBest_empty (ao : Option Addr) (cap : Nat) (cut : Int) (w : World) :
    Calls Try.prog 7 #[.slice ao 0 cap, .int .u8 cut] w fun e w' => e = .returned (.bool true) ∧ Below w.heap.size w w' := by
  have B := fun w => best_any none [] 0 w (.inl rfl) (by decide)
  have B := Lib.hid B
  go_enter Try.func7, Try.ntmps7
  go_wp2_with fail
  refine (awake_any _).mono ?_
  rintro e w' ⟨rfl, rfl⟩
  go_wp2_with fail
  refine wp_loop_rounds 1 ?_
  rw [rounds_succ]
  go_wp2_with fail
  refine (B.out _).mono ?_
  rintro e w1 ⟨rfl, hb⟩
  go_wp2_with fail
  go_ret
  exact ⟨rfl, hb⟩

set_option maxHeartbeats 4000000 in
set_option maxRecDepth 20000 in
theorem vecBest_main (ao : Option Addr) (vs : List Vec.D) (cap : Nat) (cut : Nat) (hcut : cut ≤ 255) (w : World) (hA : Vec.At w ao vs) (hl : vs.length ≤ 100) (hp : 0 < vs.length) :
    Calls Try.prog 7 #[.slice ao vs.length cap, .int .u8 cut] w fun e w' => e = .returned (.bool true) ∧ Below w.heap.size w w' := by
  obtain ⟨b, off, rfl, hlt, hc⟩ := hA.some_of hp
  have HC := Lib.hid hc
  clear hc
  obtain ⟨ti, tz, hi, hz, hz1, hz2, hz3⟩ := info_pvec
  have hi := Lib.hid hi
  have hz := Lib.hid hz
  have hz1 := Lib.hid hz1
  have hz2 := Lib.hid hz2
  have hz3 := Lib.hid hz3
  go_enter Try.func7, Try.ntmps7
  go_wp2_with fail
  refine (awake_any _).mono ?_
  rintro e w' ⟨rfl, rfl⟩
  go_wp2_with fail
  go_loopw [5, 6] (fun v i wr => ∃ k : Nat, k ≤ vs.length ∧ i = .int .i64 k ∧ Hid (wr.ownsRow w.heap.size 32 18 v k (Vec.all (vs.take k))) ∧ Below w.heap.size w wr) (fun _ i _ => vs.length - (intOf i).toNat)
  case atStart => exact ⟨0, Nat.zero_le _, rfl, ⟨rfl, .inl ⟨rfl, rfl⟩⟩, Below.refl _ _⟩
  case round =>
    rename_i mv _ wr
    obtain ⟨k, hk, rfl, hown, hbW⟩ := hrel
    by_cases hkl : k < vs.length
    · have hck := range_later (HC.out k hkl) hlt hbW
      have htk : Vec.all (vs.take (k + 1)) = Vec.all (vs.take k) ++ vs[k].cells := by rw [List.take_succ_eq_append_getElem hkl, Vec.all_snoc]
      generalize vs[k] = v at hck htk
      have HK := Lib.hid hck
      have HT := Lib.hid htk
      clear hck htk
      go_wp2_with ((with_reducible refine at_load 29 (.tmp 29) ?_); refine wpList_load_mid rfl 29 (.tmp 29) rfl b (off + k * 18) rfl v.cells _ HK.out Try.underlying29 rfl (by kernel_rfl) ?_)
      refine (vofD_any v _).mono ?_
      rintro e w1 ⟨rfl, hb1⟩
      have hown := Lib.hid (owns_later hown.out hb1)
      have hbW := hbW.trans (hb1.mono hbW.size)
      clear hb1
      go_wp2_with (at_builtin; refine wpList_append_lies _ rfl (.tmp 26) (.tmp 32) 40 rfl w.heap.size 32 ti tz 18 32 Try.underlying40 hi.out hz.out hz1.out hz2.out hz3.out (by decide) _ k _ rfl (hown.out.alloc _) ⟨w1.heap.size, 0, none⟩ 1 1 v.cells rfl rfl (World.news_of_block (heap_alloc_new _ _)) (by intro u hu; simp [Vec.D.cells] at hu; rcases hu with rfl | rfl | rfl | rfl | rfl | rfl | rfl | rfl | rfl | rfl | rfl | rfl | rfl | rfl | rfl | rfl | rfl | rfl <;> rfl) (by decide) (by unfold maxLen; omega) (by omega) (Nat.le_trans hbW.size (by simp)) _ rfl ?_)
      intro g cap' w3 hown3 hgrow _ _
      have hbW := hbW.trans ((Below.alloc (Below.refl _ _) hbW.size _).trans (below_of_grown hgrow (Nat.le_trans hbW.size (by simp)) (fun q hq => (hown.out.lt q hq).1)))
      have HO := Lib.hid hown3
      clear hown3 hgrow
      go_wp2_with fail
      exact ⟨⟨k + 1, by omega, by go_num, by rw [HT.out]; exact HO.out, hbW⟩, by simp [intOf]; omega⟩
    · obtain rfl : k = vs.length := by omega
      have hown := hown.out
      rw [List.take_length] at hown
      obtain ⟨ao', cap', rfl, hle, hmax, hA⟩ := Vec.at_of_owns hown
      clear hown
      obtain ⟨g, o', rfl, hg, hc⟩ := hA.some_of hp
      obtain ⟨j, hj, hF⟩ := Vec.best_is vs hp
      have hbest := best_any _ vs cap' wr hA (by omega)
      rw [hj] at hbest
      have HB := Lib.hid hbest
      clear hbest hj hA
      go_wp2_with fail
      refine HB.out.mono ?_
      rintro e w4 ⟨rfl, hb4⟩
      have HM : Hid (∀ i (h : i < vs.length), w4.rangeAt g (o' + i * 18) vs[i].cells) := fun i h => range_later (hc i h) hg hb4
      have hbW := hbW.trans (hb4.mono hbW.size)
      have hg4 := Nat.lt_of_lt_of_le hg hb4.size
      clear hc hb4
      have hjn := hF.1
      have HF := Lib.hid hF
      clear hF HB
      have d1 : decide ((j : Int) < 0) = false := decide_eq_false (by omega)
      have d3 : ((vs.length : Int) == 0) = false := beq_eq_false_iff_ne.2 (by omega)
      have d4 : decide ((100 : Int) < (vs.length : Int)) = false := decide_eq_false (by omega)
      have d2 : decide (vs.length ≤ j) = false := decide_eq_false (by omega)
      go_wp2_with fail
      go_loopw [8] (fun i w5 => ∃ k : Nat, k ≤ vs.length ∧ i = .int .i64 k ∧ Below w4.heap.size w4 w5) (fun i _ => vs.length - (intOf i).toNat)
      case atStart => exact ⟨0, Nat.zero_le _, rfl, Below.refl _ _⟩
      case round =>

        obtain ⟨k, hk, rfl, hb5⟩ := hrel
        by_cases hkl : k < vs.length
        · have hv := range_later (HM.out k hkl) hg4 hb5
          have hu := range_later (HM.out j hjn) hg4 hb5
          have f1 : k < j → (vs[j]).better vs[k] = true := fun h => by
            have := HF.out.2.1 k h
            rwa [List.getD, List.getD, List.getElem?_eq_getElem hjn, List.getElem?_eq_getElem hkl] at this
          have f2 : j ≤ k → (vs[k]).better vs[j] = false := fun h => by
            have := HF.out.2.2 k h hkl
            rwa [List.getD, List.getD, List.getElem?_eq_getElem hjn, List.getElem?_eq_getElem hkl] at this
          generalize vs[k] = v at hv f1 f2
          generalize vs[j] = u at hu f1 f2
          have hg5 := Nat.lt_of_lt_of_le hg4 hb5.size
          have key : (v.eqB u = true ∧ j ≤ k) ∨ (v.eqB u = false ∧ u.better v = true) := by
            cases he : v.eqB u
            · refine .inr ⟨rfl, ?_⟩
              rcases Nat.lt_or_ge k j with h | h
              · exact f1 h
              · cases hb : u.better v
                · have := (Vec.D.eqB_iff v u).2 (Vec.D.same_of (f2 h) hb)
                  rw [he] at this
                  cases this
                · rfl
            · refine .inl ⟨rfl, ?_⟩
              rcases Nat.lt_or_ge k j with h | h
              · have := f1 h
                rw [(Vec.D.same_not ((Vec.D.eqB_iff v u).1 he)).2] at this
                cases this
              · exact h
          have EQ := fun w => eqD_run v u w
          have BU := fun w => betterD_any u v w
          generalize v.eqB u = e at key EQ
          generalize u.better v = bt at key BU
          have HV := Lib.hid hv
          have HU := Lib.hid hu
          have BU := Lib.hid BU
          clear f1 f2 hv hu
          rcases key with ⟨rfl, hjk⟩ | ⟨rfl, rfl⟩
          · have EQ := Lib.hid EQ
            go_upto_region 16 with fail
            have EQ := EQ.out
            have hd := decide_eq_false (show ¬ ((k : Int) < (j : Int)) by omega)
            refine wp_region_mix 37 (by kernel_rfl) (by kernel_rfl) (by kernel_rfl) ?_
            (refine mix_step (by kernel_rfl) (by kernel_rfl) (fun K hK => ?_); go_simp; (try (simp only [↓IntWalk.iteOmega]; go_simp)); (first | (refine hK _ ?_; clear hK K) | (apply Exists.intro; refine ⟨fun _ => ?_, hK _ ?_⟩; (first | fail); clear hK K)))
            (refine mix_step (by kernel_rfl) (by kernel_rfl) (fun K hK => ?_); go_simp; (try (simp only [↓IntWalk.iteOmega]; go_simp)); (first | (refine hK _ ?_; clear hK K) | (apply Exists.intro; refine ⟨fun _ => ?_, hK _ ?_⟩; (first | fail); clear hK K)))
            (refine mix_step (by kernel_rfl) (by kernel_rfl) (fun K hK => ?_); go_simp; (try (simp only [↓IntWalk.iteOmega]; go_simp)); (first | (refine hK _ ?_; clear hK K) | (apply Exists.intro; refine ⟨fun _ => ?_, hK _ ?_⟩; (first | fail); clear hK K)))
            refine mix_exact (.agg v.cells.toArray) rfl (exact_load_range rfl rfl (by simp) HV.out hg5 Try.underlying32 rfl (by kernel_rfl)) ?_
            (refine mix_step (by kernel_rfl) (by kernel_rfl) (fun K hK => ?_); go_simp; (try (simp only [↓IntWalk.iteOmega]; go_simp)); (first | (refine hK _ ?_; clear hK K) | (apply Exists.intro; refine ⟨fun _ => ?_, hK _ ?_⟩; (first | fail); clear hK K)))
            (refine mix_step (by kernel_rfl) (by kernel_rfl) (fun K hK => ?_); go_simp; (try (simp only [↓IntWalk.iteOmega]; go_simp)); (first | (refine hK _ ?_; clear hK K) | (apply Exists.intro; refine ⟨fun _ => ?_, hK _ ?_⟩; (first | fail); clear hK K)))
            (refine mix_step (by kernel_rfl) (by kernel_rfl) (fun K hK => ?_); go_simp; (try (simp only [↓IntWalk.iteOmega]; go_simp)); (first | (refine hK _ ?_; clear hK K) | (apply Exists.intro; refine ⟨fun _ => ?_, hK _ ?_⟩; (first | fail); clear hK K)))
            refine mix_exact (.agg u.cells.toArray) rfl (exact_load_range rfl rfl (by simp) HU.out hg5 Try.underlying32 rfl (by kernel_rfl)) ?_
            (refine mix_step (by kernel_rfl) (by kernel_rfl) (fun K hK => ?_); go_simp; (try (simp only [↓IntWalk.iteOmega]; go_simp)); (first | (refine hK _ ?_; clear hK K) | (apply Exists.intro; refine ⟨fun _ => ?_, hK _ ?_⟩; (first | fail); clear hK K)))
            (refine mix_step (by kernel_rfl) (by kernel_rfl) (fun K hK => ?_); go_simp; (try (simp only [↓IntWalk.iteOmega]; go_simp)); (first | (refine hK _ ?_; clear hK K) | (apply Exists.intro; refine ⟨fun _ => ?_, hK _ ?_⟩; (first | fail); clear hK K)))
            (refine mix_step (by kernel_rfl) (by kernel_rfl) (fun K hK => ?_); go_simp; (try (simp only [↓IntWalk.iteOmega]; go_simp)); (first | (refine hK _ ?_; clear hK K) | (apply Exists.intro; refine ⟨fun _ => ?_, hK _ ?_⟩; (first | fail); clear hK K)))
            (refine mix_step (by kernel_rfl) (by kernel_rfl) (fun K hK => ?_); go_simp; (try (simp only [↓IntWalk.iteOmega]; go_simp)); (first | (refine hK _ ?_; clear hK K) | (apply Exists.intro; refine ⟨fun _ => ?_, hK _ ?_⟩; (first | fail); clear hK K)))
            (refine mix_step (by kernel_rfl) (by kernel_rfl) (fun K hK => ?_); go_simp; (try (simp only [↓IntWalk.iteOmega]; go_simp)); (first | (refine hK _ ?_; clear hK K) | (apply Exists.intro; refine ⟨fun _ => ?_, hK _ ?_⟩; (first | fail); clear hK K)))
            (refine mix_step (by kernel_rfl) (by kernel_rfl) (fun K hK => ?_); go_simp; (try (simp only [↓IntWalk.iteOmega]; go_simp)); (first | (refine hK _ ?_; clear hK K) | (apply Exists.intro; refine ⟨fun _ => ?_, hK _ ?_⟩; (first | fail); clear hK K)))
            (refine mix_step (by kernel_rfl) (by kernel_rfl) (fun K hK => ?_); go_simp; (try (simp only [↓IntWalk.iteOmega]; go_simp)); (first | (refine hK _ ?_; clear hK K) | (apply Exists.intro; refine ⟨fun _ => ?_, hK _ ?_⟩; (first | fail); clear hK K)))
            (refine mix_step (by kernel_rfl) (by kernel_rfl) (fun K hK => ?_); go_simp; (try (simp only [↓IntWalk.iteOmega]; go_simp)); (first | (refine hK _ ?_; clear hK K) | (apply Exists.intro; refine ⟨fun _ => ?_, hK _ ?_⟩; (first | fail); clear hK K)))
            (refine mix_step (by kernel_rfl) (by kernel_rfl) (fun K hK => ?_); go_simp; (try (simp only [↓IntWalk.iteOmega]; go_simp)); (first | (refine hK _ ?_; clear hK K) | (apply Exists.intro; refine ⟨fun _ => ?_, hK _ ?_⟩; (first | fail); clear hK K)))
            (refine mix_step (by kernel_rfl) (by kernel_rfl) (fun K hK => ?_); go_simp; (try (simp only [↓IntWalk.iteOmega]; go_simp)); (first | (refine hK _ ?_; clear hK K) | (apply Exists.intro; refine ⟨fun _ => ?_, hK _ ?_⟩; (first | fail); clear hK K)))
            (refine mix_step (by kernel_rfl) (by kernel_rfl) (fun K hK => ?_); go_simp; (try (simp only [↓IntWalk.iteOmega]; go_simp)); (first | (refine hK _ ?_; clear hK K) | (apply Exists.intro; refine ⟨fun _ => ?_, hK _ ?_⟩; (first | fail); clear hK K)))
            (refine mix_step (by kernel_rfl) (by kernel_rfl) (fun K hK => ?_); go_simp; (try (simp only [↓IntWalk.iteOmega]; go_simp)); (first | (refine hK _ ?_; clear hK K) | (apply Exists.intro; refine ⟨fun _ => ?_, hK _ ?_⟩; (first | fail); clear hK K)))
            (refine mix_step (by kernel_rfl) (by kernel_rfl) (fun K hK => ?_); go_simp; (try (simp only [↓IntWalk.iteOmega]; go_simp)); (first | (refine hK _ ?_; clear hK K) | (apply Exists.intro; refine ⟨fun _ => ?_, hK _ ?_⟩; (first | fail); clear hK K)))
            (refine mix_step (by kernel_rfl) (by kernel_rfl) (fun K hK => ?_); go_simp; (try (simp only [↓IntWalk.iteOmega]; go_simp)); (first | (refine hK _ ?_; clear hK K) | (apply Exists.intro; refine ⟨fun _ => ?_, hK _ ?_⟩; (first | fail); clear hK K)))
            (refine mix_step (by kernel_rfl) (by kernel_rfl) (fun K hK => ?_); go_simp; (try (simp only [↓IntWalk.iteOmega]; go_simp)); (first | (refine hK _ ?_; clear hK K) | (apply Exists.intro; refine ⟨fun _ => ?_, hK _ ?_⟩; (first | fail); clear hK K)))
            (refine mix_step (by kernel_rfl) (by kernel_rfl) (fun K hK => ?_); go_simp; (try (simp only [↓IntWalk.iteOmega]; go_simp)); (first | (refine hK _ ?_; clear hK K) | (apply Exists.intro; refine ⟨fun _ => ?_, hK _ ?_⟩; (first | fail); clear hK K)))
            (refine mix_step (by kernel_rfl) (by kernel_rfl) (fun K hK => ?_); go_simp; (try (simp only [↓IntWalk.iteOmega]; go_simp)); (first | (refine hK _ ?_; clear hK K) | (apply Exists.intro; refine ⟨fun _ => ?_, hK _ ?_⟩; (first | fail); clear hK K)))
            refine mix_exact (.agg v.cells.toArray) rfl (exact_load_range rfl rfl (by simp) HV.out hg5 Try.underlying32 rfl (by kernel_rfl)) ?_
            (refine mix_step (by kernel_rfl) (by kernel_rfl) (fun K hK => ?_); go_simp; (try (simp only [↓IntWalk.iteOmega]; go_simp)); (first | (refine hK _ ?_; clear hK K) | (apply Exists.intro; refine ⟨fun _ => ?_, hK _ ?_⟩; (first | fail); clear hK K)))
            (refine mix_step (by kernel_rfl) (by kernel_rfl) (fun K hK => ?_); go_simp; (try (simp only [↓IntWalk.iteOmega]; go_simp)); (first | (refine hK _ ?_; clear hK K) | (apply Exists.intro; refine ⟨fun _ => ?_, hK _ ?_⟩; (first | fail); clear hK K)))
            (refine mix_step (by kernel_rfl) (by kernel_rfl) (fun K hK => ?_); go_simp; (try (simp only [↓IntWalk.iteOmega]; go_simp)); (first | (refine hK _ ?_; clear hK K) | (apply Exists.intro; refine ⟨fun _ => ?_, hK _ ?_⟩; (first | fail); clear hK K)))
            refine mix_exact (.agg u.cells.toArray) rfl (exact_load_range rfl rfl (by simp) HU.out hg5 Try.underlying32 rfl (by kernel_rfl)) ?_
            (refine mix_step (by kernel_rfl) (by kernel_rfl) (fun K hK => ?_); go_simp; (try (simp only [↓IntWalk.iteOmega]; go_simp)); (first | (refine hK _ ?_; clear hK K) | (apply Exists.intro; refine ⟨fun _ => ?_, hK _ ?_⟩; (first | fail); clear hK K)))
            (refine mix_step (by kernel_rfl) (by kernel_rfl) (fun K hK => ?_); go_simp; (try (simp only [↓IntWalk.iteOmega]; go_simp)); (first | (refine hK _ ?_; clear hK K) | (apply Exists.intro; refine ⟨fun _ => ?_, hK _ ?_⟩; (first | fail); clear hK K)))
            (refine mix_step (by kernel_rfl) (by kernel_rfl) (fun K hK => ?_); go_simp; (try (simp only [↓IntWalk.iteOmega]; go_simp)); (first | (refine hK _ ?_; clear hK K) | (apply Exists.intro; refine ⟨fun _ => ?_, hK _ ?_⟩; (first | fail); clear hK K)))
            (refine mix_step (by kernel_rfl) (by kernel_rfl) (fun K hK => ?_); go_simp; (try (simp only [↓IntWalk.iteOmega]; go_simp)); (first | (refine hK _ ?_; clear hK K) | (apply Exists.intro; refine ⟨fun _ => ?_, hK _ ?_⟩; (first | fail); clear hK K)))
            (refine mix_step (by kernel_rfl) (by kernel_rfl) (fun K hK => ?_); go_simp; (try (simp only [↓IntWalk.iteOmega]; go_simp)); (first | (refine hK _ ?_; clear hK K) | (apply Exists.intro; refine ⟨fun _ => ?_, hK _ ?_⟩; (first | fail); clear hK K)))
            (refine mix_step (by kernel_rfl) (by kernel_rfl) (fun K hK => ?_); go_simp; (try (simp only [↓IntWalk.iteOmega]; go_simp)); (first | (refine hK _ ?_; clear hK K) | (apply Exists.intro; refine ⟨fun _ => ?_, hK _ ?_⟩; (first | fail); clear hK K)))
            (refine mix_step (by kernel_rfl) (by kernel_rfl) (fun K hK => ?_); go_simp; (try (simp only [↓IntWalk.iteOmega]; go_simp)); (first | (refine hK _ ?_; clear hK K) | (apply Exists.intro; refine ⟨fun _ => ?_, hK _ ?_⟩; (first | fail); clear hK K)))
            refine mix_nil ?_
            rintro ⟨dq, osq⟩
            have hb3 := below_regrown wr dq osq
            have hb5 := hb5.trans (hb3.mono hb5.size)
            generalize grow (redrawn wr dq) osq = W9 at *
            refine (show wpList _ _ _ _ _ _ from ?_)
            simp only [List.drop, Act.put, List.setIfInBounds_toArray, List.set]
            go_wp2_with fail
            go_roundw
            case rel => exact ⟨k + 1, by omega, by go_num, hb5⟩
            case measure => simp [intOf]; omega
          · have EQ := Lib.hid EQ
            go_upto_region 16 with fail
            have EQ := EQ.out
            refine wp_region_mix 37 (by kernel_rfl) (by kernel_rfl) (by kernel_rfl) ?_
            (refine mix_step (by kernel_rfl) (by kernel_rfl) (fun K hK => ?_); go_simp; (try (simp only [↓IntWalk.iteOmega]; go_simp)); (first | (refine hK _ ?_; clear hK K) | (apply Exists.intro; refine ⟨fun _ => ?_, hK _ ?_⟩; (first | fail); clear hK K)))
            (refine mix_step (by kernel_rfl) (by kernel_rfl) (fun K hK => ?_); go_simp; (try (simp only [↓IntWalk.iteOmega]; go_simp)); (first | (refine hK _ ?_; clear hK K) | (apply Exists.intro; refine ⟨fun _ => ?_, hK _ ?_⟩; (first | fail); clear hK K)))
            (refine mix_step (by kernel_rfl) (by kernel_rfl) (fun K hK => ?_); go_simp; (try (simp only [↓IntWalk.iteOmega]; go_simp)); (first | (refine hK _ ?_; clear hK K) | (apply Exists.intro; refine ⟨fun _ => ?_, hK _ ?_⟩; (first | fail); clear hK K)))
            refine mix_exact (.agg v.cells.toArray) rfl (exact_load_range rfl rfl (by simp) HV.out hg5 Try.underlying32 rfl (by kernel_rfl)) ?_
            (refine mix_step (by kernel_rfl) (by kernel_rfl) (fun K hK => ?_); go_simp; (try (simp only [↓IntWalk.iteOmega]; go_simp)); (first | (refine hK _ ?_; clear hK K) | (apply Exists.intro; refine ⟨fun _ => ?_, hK _ ?_⟩; (first | fail); clear hK K)))
            (refine mix_step (by kernel_rfl) (by kernel_rfl) (fun K hK => ?_); go_simp; (try (simp only [↓IntWalk.iteOmega]; go_simp)); (first | (refine hK _ ?_; clear hK K) | (apply Exists.intro; refine ⟨fun _ => ?_, hK _ ?_⟩; (first | fail); clear hK K)))
            (refine mix_step (by kernel_rfl) (by kernel_rfl) (fun K hK => ?_); go_simp; (try (simp only [↓IntWalk.iteOmega]; go_simp)); (first | (refine hK _ ?_; clear hK K) | (apply Exists.intro; refine ⟨fun _ => ?_, hK _ ?_⟩; (first | fail); clear hK K)))
            refine mix_exact (.agg u.cells.toArray) rfl (exact_load_range rfl rfl (by simp) HU.out hg5 Try.underlying32 rfl (by kernel_rfl)) ?_
            (refine mix_step (by kernel_rfl) (by kernel_rfl) (fun K hK => ?_); go_simp; (try (simp only [↓IntWalk.iteOmega]; go_simp)); (first | (refine hK _ ?_; clear hK K) | (apply Exists.intro; refine ⟨fun _ => ?_, hK _ ?_⟩; (first | fail); clear hK K)))
            (refine mix_step (by kernel_rfl) (by kernel_rfl) (fun K hK => ?_); go_simp; (try (simp only [↓IntWalk.iteOmega]; go_simp)); (first | (refine hK _ ?_; clear hK K) | (apply Exists.intro; refine ⟨fun _ => ?_, hK _ ?_⟩; (first | fail); clear hK K)))
            (refine mix_step (by kernel_rfl) (by kernel_rfl) (fun K hK => ?_); go_simp; (try (simp only [↓IntWalk.iteOmega]; go_simp)); (first | (refine hK _ ?_; clear hK K) | (apply Exists.intro; refine ⟨fun _ => ?_, hK _ ?_⟩; (first | fail); clear hK K)))
            (refine mix_step (by kernel_rfl) (by kernel_rfl) (fun K hK => ?_); go_simp; (try (simp only [↓IntWalk.iteOmega]; go_simp)); (first | (refine hK _ ?_; clear hK K) | (apply Exists.intro; refine ⟨fun _ => ?_, hK _ ?_⟩; (first | fail); clear hK K)))
            (refine mix_step (by kernel_rfl) (by kernel_rfl) (fun K hK => ?_); go_simp; (try (simp only [↓IntWalk.iteOmega]; go_simp)); (first | (refine hK _ ?_; clear hK K) | (apply Exists.intro; refine ⟨fun _ => ?_, hK _ ?_⟩; (first | fail); clear hK K)))
            refine mix_exact (.agg u.cells.toArray) rfl (exact_load_range rfl rfl (by simp) HU.out hg5 Try.underlying32 rfl (by kernel_rfl)) ?_
            (refine mix_step (by kernel_rfl) (by kernel_rfl) (fun K hK => ?_); go_simp; (try (simp only [↓IntWalk.iteOmega]; go_simp)); (first | (refine hK _ ?_; clear hK K) | (apply Exists.intro; refine ⟨fun _ => ?_, hK _ ?_⟩; (first | fail); clear hK K)))
            (refine mix_step (by kernel_rfl) (by kernel_rfl) (fun K hK => ?_); go_simp; (try (simp only [↓IntWalk.iteOmega]; go_simp)); (first | (refine hK _ ?_; clear hK K) | (apply Exists.intro; refine ⟨fun _ => ?_, hK _ ?_⟩; (first | fail); clear hK K)))
            (refine mix_step (by kernel_rfl) (by kernel_rfl) (fun K hK => ?_); go_simp; (try (simp only [↓IntWalk.iteOmega]; go_simp)); (first | (refine hK _ ?_; clear hK K) | (apply Exists.intro; refine ⟨fun _ => ?_, hK _ ?_⟩; (first | fail); clear hK K)))
            refine mix_exact (.agg v.cells.toArray) rfl (exact_load_range rfl rfl (by simp) HV.out hg5 Try.underlying32 rfl (by kernel_rfl)) ?_
            (refine mix_step (by kernel_rfl) (by kernel_rfl) (fun K hK => ?_); go_simp; (try (simp only [↓IntWalk.iteOmega]; go_simp)); (first | (refine hK _ ?_; clear hK K) | (apply Exists.intro; refine ⟨fun _ => ?_, hK _ ?_⟩; (first | exact BU.out _); clear hK K)))
            (refine mix_step (by kernel_rfl) (by kernel_rfl) (fun K hK => ?_); go_simp; (try (simp only [↓IntWalk.iteOmega]; go_simp)); (first | (refine hK _ ?_; clear hK K) | (apply Exists.intro; refine ⟨fun _ => ?_, hK _ ?_⟩; (first | fail); clear hK K)))
            (refine mix_step (by kernel_rfl) (by kernel_rfl) (fun K hK => ?_); go_simp; (try (simp only [↓IntWalk.iteOmega]; go_simp)); (first | (refine hK _ ?_; clear hK K) | (apply Exists.intro; refine ⟨fun _ => ?_, hK _ ?_⟩; (first | fail); clear hK K)))
            (refine mix_step (by kernel_rfl) (by kernel_rfl) (fun K hK => ?_); go_simp; (try (simp only [↓IntWalk.iteOmega]; go_simp)); (first | (refine hK _ ?_; clear hK K) | (apply Exists.intro; refine ⟨fun _ => ?_, hK _ ?_⟩; (first | fail); clear hK K)))
            (refine mix_step (by kernel_rfl) (by kernel_rfl) (fun K hK => ?_); go_simp; (try (simp only [↓IntWalk.iteOmega]; go_simp)); (first | (refine hK _ ?_; clear hK K) | (apply Exists.intro; refine ⟨fun _ => ?_, hK _ ?_⟩; (first | fail); clear hK K)))
            (refine mix_step (by kernel_rfl) (by kernel_rfl) (fun K hK => ?_); go_simp; (try (simp only [↓IntWalk.iteOmega]; go_simp)); (first | (refine hK _ ?_; clear hK K) | (apply Exists.intro; refine ⟨fun _ => ?_, hK _ ?_⟩; (first | fail); clear hK K)))
            (refine mix_step (by kernel_rfl) (by kernel_rfl) (fun K hK => ?_); go_simp; (try (simp only [↓IntWalk.iteOmega]; go_simp)); (first | (refine hK _ ?_; clear hK K) | (apply Exists.intro; refine ⟨fun _ => ?_, hK _ ?_⟩; (first | fail); clear hK K)))
            refine mix_exact (.agg v.cells.toArray) rfl (exact_load_range rfl rfl (by simp) HV.out hg5 Try.underlying32 rfl (by kernel_rfl)) ?_
            (refine mix_step (by kernel_rfl) (by kernel_rfl) (fun K hK => ?_); go_simp; (try (simp only [↓IntWalk.iteOmega]; go_simp)); (first | (refine hK _ ?_; clear hK K) | (apply Exists.intro; refine ⟨fun _ => ?_, hK _ ?_⟩; (first | fail); clear hK K)))
            (refine mix_step (by kernel_rfl) (by kernel_rfl) (fun K hK => ?_); go_simp; (try (simp only [↓IntWalk.iteOmega]; go_simp)); (first | (refine hK _ ?_; clear hK K) | (apply Exists.intro; refine ⟨fun _ => ?_, hK _ ?_⟩; (first | fail); clear hK K)))
            (refine mix_step (by kernel_rfl) (by kernel_rfl) (fun K hK => ?_); go_simp; (try (simp only [↓IntWalk.iteOmega]; go_simp)); (first | (refine hK _ ?_; clear hK K) | (apply Exists.intro; refine ⟨fun _ => ?_, hK _ ?_⟩; (first | fail); clear hK K)))
            refine mix_exact (.agg u.cells.toArray) rfl (exact_load_range rfl rfl (by simp) HU.out hg5 Try.underlying32 rfl (by kernel_rfl)) ?_
            (refine mix_step (by kernel_rfl) (by kernel_rfl) (fun K hK => ?_); go_simp; (try (simp only [↓IntWalk.iteOmega]; go_simp)); (first | (refine hK _ ?_; clear hK K) | (apply Exists.intro; refine ⟨fun _ => ?_, hK _ ?_⟩; (first | fail); clear hK K)))
            (refine mix_step (by kernel_rfl) (by kernel_rfl) (fun K hK => ?_); go_simp; (try (simp only [↓IntWalk.iteOmega]; go_simp)); (first | (refine hK _ ?_; clear hK K) | (apply Exists.intro; refine ⟨fun _ => ?_, hK _ ?_⟩; (first | fail); clear hK K)))
            (refine mix_step (by kernel_rfl) (by kernel_rfl) (fun K hK => ?_); go_simp; (try (simp only [↓IntWalk.iteOmega]; go_simp)); (first | (refine hK _ ?_; clear hK K) | (apply Exists.intro; refine ⟨fun _ => ?_, hK _ ?_⟩; (first | fail); clear hK K)))
            (refine mix_step (by kernel_rfl) (by kernel_rfl) (fun K hK => ?_); go_simp; (try (simp only [↓IntWalk.iteOmega]; go_simp)); (first | (refine hK _ ?_; clear hK K) | (apply Exists.intro; refine ⟨fun _ => ?_, hK _ ?_⟩; (first | fail); clear hK K)))
            (refine mix_step (by kernel_rfl) (by kernel_rfl) (fun K hK => ?_); go_simp; (try (simp only [↓IntWalk.iteOmega]; go_simp)); (first | (refine hK _ ?_; clear hK K) | (apply Exists.intro; refine ⟨fun _ => ?_, hK _ ?_⟩; (first | fail); clear hK K)))
            (refine mix_step (by kernel_rfl) (by kernel_rfl) (fun K hK => ?_); go_simp; (try (simp only [↓IntWalk.iteOmega]; go_simp)); (first | (refine hK _ ?_; clear hK K) | (apply Exists.intro; refine ⟨fun _ => ?_, hK _ ?_⟩; (first | fail); clear hK K)))
            (refine mix_step (by kernel_rfl) (by kernel_rfl) (fun K hK => ?_); go_simp; (try (simp only [↓IntWalk.iteOmega]; go_simp)); (first | (refine hK _ ?_; clear hK K) | (apply Exists.intro; refine ⟨fun _ => ?_, hK _ ?_⟩; (first | fail); clear hK K)))
            refine mix_nil ?_
            rintro ⟨dq, osq⟩
            have hb3 := below_regrown wr dq osq
            have hb5 := hb5.trans (hb3.mono hb5.size)
            generalize grow (redrawn wr dq) osq = W9 at *
            refine (show wpList _ _ _ _ _ _ from ?_)
            simp only [List.drop, Act.put, List.setIfInBounds_toArray, List.set]
            go_wp2_with fail
            go_roundw
            case rel => exact ⟨k + 1, by omega, by go_num, hb5⟩
            case measure => simp [intOf]; omega
        · obtain rfl : k = vs.length := by omega
          have hbW := hbW.trans (hb5.mono hbW.size)
          have HM : Hid (∀ i (h : i < vs.length), wr.rangeAt g (o' + i * 18) vs[i].cells) := fun i h => range_later (HM.out i h) hg4 hb5
          have hg5 := Nat.lt_of_lt_of_le hg4 hb5.size
          clear hb5
          obtain ⟨c, hc, hcl⟩ : ∃ c : Nat, (cut : Int) % ((vs.length : Int) + 1) = c ∧ c ≤ vs.length := ⟨cut % (vs.length + 1), by push_cast; rfl, by have := Nat.mod_lt cut (show 0 < vs.length + 1 by omega); omega⟩
          have hA : Vec.At wr (some ⟨g, o', none⟩) vs := .inr ⟨g, o', rfl, hg5, HM.out⟩
          have lt : (vs.take c).length = c := by rw [List.length_take]; omega
          have ld : (vs.drop c).length = vs.length - c := List.length_drop
          have B1 := fun (p : Regrown) => best_any _ (vs.take c) cap' (grow (redrawn wr p.d) p.os) ((hA.take c).later (below_regrown wr p.d p.os)) (by omega)
          have hA2 : Vec.At wr (if cap' = c then some ⟨g, o', none⟩ else some ⟨g, o' + c * 18, none⟩) (vs.drop c) := by
            split
            · exact .inl (List.drop_eq_nil_of_le (by omega))
            · exact hA.drop c
          have B2 := fun (p : Regrown) => best_any _ (vs.drop c) (cap' - c) (grow (redrawn wr p.d) p.os) (hA2.later (below_regrown wr p.d p.os)) (by omega)
          rw [lt] at B1
          rw [ld] at B2
          have key : (Vec.best (vs.take c) c = -1 ∧ Vec.best (vs.drop c) (vs.length - c) = (j : Int)) ∨ (Vec.best (vs.take c) c = (j : Int) ∧ Vec.best (vs.drop c) (vs.length - c) = -1) ∨
              ∃ x y : Nat, Vec.best (vs.take c) c = (x : Int) ∧ Vec.best (vs.drop c) (vs.length - c) = (y : Int) ∧ ∃ hx : x < vs.length, ∃ hy : c + y < vs.length, ((vs[c + y]).better vs[x] = false ∧ x = j ∨ (vs[c + y]).better vs[x] = true ∧ c + y = j) := by
            rcases Nat.eq_zero_or_pos c with h0 | h0
            · left
              subst h0
              refine ⟨rfl, ?_⟩
              obtain ⟨j', h1, h2⟩ := Vec.best_is vs hp
              rw [List.drop_zero, Nat.sub_zero, h1, HF.out.unique h2]
            · right
              rcases Nat.lt_or_ge c vs.length with h1 | h1
              · right
                obtain ⟨x, hx, fx⟩ := Vec.best_is (vs.take c) (by omega)
                obtain ⟨y, hy, fy⟩ := Vec.best_is (vs.drop c) (by omega)
                rw [lt] at hx
                rw [ld] at hy
                have x1 := fx.1
                have y1 := fy.1
                rw [lt] at x1
                rw [ld] at y1
                have hxl : x < vs.length := by omega
                have hyl : c + y < vs.length := by omega
                obtain ⟨k1, k2⟩ := Vec.best_cut vs c hcl x y fx fy
                have gx : vs.getD x .zero = vs[x] := by rw [List.getD, List.getElem?_eq_getElem hxl]; rfl
                have gy : vs.getD (c + y) .zero = vs[c + y] := by rw [List.getD, List.getElem?_eq_getElem hyl]; rfl
                rw [gx, gy] at k1 k2
                refine ⟨x, y, hx, hy, hxl, hyl, ?_⟩
                cases hb : (vs[c + y]).better vs[x]
                · exact .inl ⟨rfl, (HF.out.unique (k1 hb)).symm⟩
                · exact .inr ⟨rfl, (HF.out.unique (k2 hb)).symm⟩
              · left
                obtain rfl : c = vs.length := by omega
                obtain ⟨j', h1, h2⟩ := Vec.best_is vs hp
                rw [List.take_length, List.drop_length, Nat.sub_self, h1, HF.out.unique h2]
                exact ⟨rfl, rfl⟩
          clear hA hA2 lt ld
          generalize Vec.best (vs.take c) c = X at key B1
          generalize Vec.best (vs.drop c) (vs.length - c) = Y at key B2
          have B1 := Lib.hid B1
          have B2 := Lib.hid B2
          rcases key with ⟨rfl, rfl⟩ | ⟨rfl, rfl⟩ | ⟨x, y, rfl, rfl, hx, hy, key⟩
          · go_upto_region 19 with fail
            refine wp_region_mix 8 (by kernel_rfl) (by kernel_rfl) (by kernel_rfl) ?_
            (refine mix_step (by kernel_rfl) (by kernel_rfl) (fun K hK => ?_); go_simp; (try (simp only [↓IntWalk.iteOmega]; go_simp)); (first | (refine hK _ ?_; clear hK K) | (apply Exists.intro; refine ⟨fun _ => ?_, hK _ ?_⟩; (first | fail); clear hK K)))
            (refine mix_step (by kernel_rfl) (by kernel_rfl) (fun K hK => ?_); go_simp; (try (simp only [↓IntWalk.iteOmega]; go_simp)); (first | (refine hK _ ?_; clear hK K) | (apply Exists.intro; refine ⟨fun _ => ?_, hK _ ?_⟩; (first | fail); clear hK K)))
            (refine mix_step (by kernel_rfl) (by kernel_rfl) (fun K hK => ?_); go_simp; (try (simp only [↓IntWalk.iteOmega]; go_simp)); (first | (refine hK _ ?_; clear hK K) | (apply Exists.intro; refine ⟨fun _ => ?_, hK _ ?_⟩; (first | fail); clear hK K)))
            (refine mix_step (by kernel_rfl) (by kernel_rfl) (fun K hK => ?_); go_simp; (try (simp only [↓IntWalk.iteOmega]; go_simp)); (first | (refine hK _ ?_; clear hK K) | (apply Exists.intro; refine ⟨fun _ => ?_, hK _ ?_⟩; (first | exact B1.out _); clear hK K)))
            (refine mix_step (by kernel_rfl) (by kernel_rfl) (fun K hK => ?_); go_simp; (try (simp only [↓IntWalk.iteOmega]; go_simp)); (first | (refine hK _ ?_; clear hK K) | (apply Exists.intro; refine ⟨fun _ => ?_, hK _ ?_⟩; (first | fail); clear hK K)))
            (refine mix_step (by kernel_rfl) (by kernel_rfl) (fun K hK => ?_); go_simp; (try (simp only [↓IntWalk.iteOmega]; go_simp)); (first | (refine hK _ ?_; clear hK K) | (apply Exists.intro; refine ⟨fun _ => ?_, hK _ ?_⟩; (first | fail); clear hK K)))
            (refine mix_step (by kernel_rfl) (by kernel_rfl) (fun K hK => ?_); go_simp; (try (simp only [↓IntWalk.iteOmega]; go_simp)); (first | (refine hK _ ?_; clear hK K) | (apply Exists.intro; refine ⟨fun _ => ?_, hK _ ?_⟩; (first | fail); clear hK K)))
            (refine mix_step (by kernel_rfl) (by kernel_rfl) (fun K hK => ?_); go_simp; (try (simp only [↓IntWalk.iteOmega]; go_simp)); (first | (refine hK _ ?_; clear hK K) | (apply Exists.intro; refine ⟨fun _ => ?_, hK _ ?_⟩; (first | exact B2.out _); clear hK K)))
            refine mix_nil ?_
            rintro ⟨dq, osq⟩
            have hb3 := below_regrown wr dq osq
            have hbW := hbW.trans (hb3.mono hbW.size)
            generalize grow (redrawn wr dq) osq = W9 at *
            refine (show wpList _ _ _ _ _ _ from ?_)
            simp only [List.drop, Act.put, List.setIfInBounds_toArray, List.set]
            go_wp2_with fail
            all_goals
              go_ret
              exact ⟨rfl, hbW⟩
          · go_upto_region 19 with fail
            refine wp_region_mix 8 (by kernel_rfl) (by kernel_rfl) (by kernel_rfl) ?_
            (refine mix_step (by kernel_rfl) (by kernel_rfl) (fun K hK => ?_); go_simp; (try (simp only [↓IntWalk.iteOmega]; go_simp)); (first | (refine hK _ ?_; clear hK K) | (apply Exists.intro; refine ⟨fun _ => ?_, hK _ ?_⟩; (first | fail); clear hK K)))
            (refine mix_step (by kernel_rfl) (by kernel_rfl) (fun K hK => ?_); go_simp; (try (simp only [↓IntWalk.iteOmega]; go_simp)); (first | (refine hK _ ?_; clear hK K) | (apply Exists.intro; refine ⟨fun _ => ?_, hK _ ?_⟩; (first | fail); clear hK K)))
            (refine mix_step (by kernel_rfl) (by kernel_rfl) (fun K hK => ?_); go_simp; (try (simp only [↓IntWalk.iteOmega]; go_simp)); (first | (refine hK _ ?_; clear hK K) | (apply Exists.intro; refine ⟨fun _ => ?_, hK _ ?_⟩; (first | fail); clear hK K)))
            (refine mix_step (by kernel_rfl) (by kernel_rfl) (fun K hK => ?_); go_simp; (try (simp only [↓IntWalk.iteOmega]; go_simp)); (first | (refine hK _ ?_; clear hK K) | (apply Exists.intro; refine ⟨fun _ => ?_, hK _ ?_⟩; (first | exact B1.out _); clear hK K)))
            (refine mix_step (by kernel_rfl) (by kernel_rfl) (fun K hK => ?_); go_simp; (try (simp only [↓IntWalk.iteOmega]; go_simp)); (first | (refine hK _ ?_; clear hK K) | (apply Exists.intro; refine ⟨fun _ => ?_, hK _ ?_⟩; (first | fail); clear hK K)))
            (refine mix_step (by kernel_rfl) (by kernel_rfl) (fun K hK => ?_); go_simp; (try (simp only [↓IntWalk.iteOmega]; go_simp)); (first | (refine hK _ ?_; clear hK K) | (apply Exists.intro; refine ⟨fun _ => ?_, hK _ ?_⟩; (first | fail); clear hK K)))
            (refine mix_step (by kernel_rfl) (by kernel_rfl) (fun K hK => ?_); go_simp; (try (simp only [↓IntWalk.iteOmega]; go_simp)); (first | (refine hK _ ?_; clear hK K) | (apply Exists.intro; refine ⟨fun _ => ?_, hK _ ?_⟩; (first | fail); clear hK K)))
            (refine mix_step (by kernel_rfl) (by kernel_rfl) (fun K hK => ?_); go_simp; (try (simp only [↓IntWalk.iteOmega]; go_simp)); (first | (refine hK _ ?_; clear hK K) | (apply Exists.intro; refine ⟨fun _ => ?_, hK _ ?_⟩; (first | exact B2.out _); clear hK K)))
            refine mix_nil ?_
            rintro ⟨dq, osq⟩
            have hb3 := below_regrown wr dq osq
            have hbW := hbW.trans (hb3.mono hbW.size)
            generalize grow (redrawn wr dq) osq = W9 at *
            refine (show wpList _ _ _ _ _ _ from ?_)
            simp only [List.drop, Act.put, List.setIfInBounds_toArray, List.set]
            go_upto_region 22 with fail
            refine wp_region_mix 16 (by kernel_rfl) (by kernel_rfl) (by kernel_rfl) ?_
            (refine mix_step (by kernel_rfl) (by kernel_rfl) (fun K hK => ?_); go_simp; (try (simp only [↓IntWalk.iteOmega]; go_simp)); (first | (refine hK _ ?_; clear hK K) | (apply Exists.intro; refine ⟨fun _ => ?_, hK _ ?_⟩; (first | fail); clear hK K)))
            (refine mix_step (by kernel_rfl) (by kernel_rfl) (fun K hK => ?_); go_simp; (try (simp only [↓IntWalk.iteOmega]; go_simp)); (first | (refine hK _ ?_; clear hK K) | (apply Exists.intro; refine ⟨fun _ => ?_, hK _ ?_⟩; (first | fail); clear hK K)))
            (refine mix_step (by kernel_rfl) (by kernel_rfl) (fun K hK => ?_); go_simp; (try (simp only [↓IntWalk.iteOmega]; go_simp)); (first | (refine hK _ ?_; clear hK K) | (apply Exists.intro; refine ⟨fun _ => ?_, hK _ ?_⟩; (first | fail); clear hK K)))
            (refine mix_step (by kernel_rfl) (by kernel_rfl) (fun K hK => ?_); go_simp; (try (simp only [↓IntWalk.iteOmega]; go_simp)); (first | (refine hK _ ?_; clear hK K) | (apply Exists.intro; refine ⟨fun _ => ?_, hK _ ?_⟩; (first | fail); clear hK K)))
            (refine mix_step (by kernel_rfl) (by kernel_rfl) (fun K hK => ?_); go_simp; (try (simp only [↓IntWalk.iteOmega]; go_simp)); (first | (refine hK _ ?_; clear hK K) | (apply Exists.intro; refine ⟨fun _ => ?_, hK _ ?_⟩; (first | fail); clear hK K)))
            (refine mix_step (by kernel_rfl) (by kernel_rfl) (fun K hK => ?_); go_simp; (try (simp only [↓IntWalk.iteOmega]; go_simp)); (first | (refine hK _ ?_; clear hK K) | (apply Exists.intro; refine ⟨fun _ => ?_, hK _ ?_⟩; (first | fail); clear hK K)))
            (refine mix_step (by kernel_rfl) (by kernel_rfl) (fun K hK => ?_); go_simp; (try (simp only [↓IntWalk.iteOmega]; go_simp)); (first | (refine hK _ ?_; clear hK K) | (apply Exists.intro; refine ⟨fun _ => ?_, hK _ ?_⟩; (first | fail); clear hK K)))
            (refine mix_step (by kernel_rfl) (by kernel_rfl) (fun K hK => ?_); go_simp; (try (simp only [↓IntWalk.iteOmega]; go_simp)); (first | (refine hK _ ?_; clear hK K) | (apply Exists.intro; refine ⟨fun _ => ?_, hK _ ?_⟩; (first | fail); clear hK K)))
            (refine mix_step (by kernel_rfl) (by kernel_rfl) (fun K hK => ?_); go_simp; (try (simp only [↓IntWalk.iteOmega]; go_simp)); (first | (refine hK _ ?_; clear hK K) | (apply Exists.intro; refine ⟨fun _ => ?_, hK _ ?_⟩; (first | fail); clear hK K)))
            (refine mix_step (by kernel_rfl) (by kernel_rfl) (fun K hK => ?_); go_simp; (try (simp only [↓IntWalk.iteOmega]; go_simp)); (first | (refine hK _ ?_; clear hK K) | (apply Exists.intro; refine ⟨fun _ => ?_, hK _ ?_⟩; (first | fail); clear hK K)))
            (refine mix_step (by kernel_rfl) (by kernel_rfl) (fun K hK => ?_); go_simp; (try (simp only [↓IntWalk.iteOmega]; go_simp)); (first | (refine hK _ ?_; clear hK K) | (apply Exists.intro; refine ⟨fun _ => ?_, hK _ ?_⟩; (first | fail); clear hK K)))
            (refine mix_step (by kernel_rfl) (by kernel_rfl) (fun K hK => ?_); go_simp; (try (simp only [↓IntWalk.iteOmega]; go_simp)); (first | (refine hK _ ?_; clear hK K) | (apply Exists.intro; refine ⟨fun _ => ?_, hK _ ?_⟩; (first | fail); clear hK K)))
            (refine mix_step (by kernel_rfl) (by kernel_rfl) (fun K hK => ?_); go_simp; (try (simp only [↓IntWalk.iteOmega]; go_simp)); (first | (refine hK _ ?_; clear hK K) | (apply Exists.intro; refine ⟨fun _ => ?_, hK _ ?_⟩; (first | fail); clear hK K)))
            (refine mix_step (by kernel_rfl) (by kernel_rfl) (fun K hK => ?_); go_simp; (try (simp only [↓IntWalk.iteOmega]; go_simp)); (first | (refine hK _ ?_; clear hK K) | (apply Exists.intro; refine ⟨fun _ => ?_, hK _ ?_⟩; (first | fail); clear hK K)))
            (refine mix_step (by kernel_rfl) (by kernel_rfl) (fun K hK => ?_); go_simp; (try (simp only [↓IntWalk.iteOmega]; go_simp)); (first | (refine hK _ ?_; clear hK K) | (apply Exists.intro; refine ⟨fun _ => ?_, hK _ ?_⟩; (first | fail); clear hK K)))
            (refine mix_step (by kernel_rfl) (by kernel_rfl) (fun K hK => ?_); go_simp; (try (simp only [↓IntWalk.iteOmega]; go_simp)); (first | (refine hK _ ?_; clear hK K) | (apply Exists.intro; refine ⟨fun _ => ?_, hK _ ?_⟩; (first | fail); clear hK K)))
            refine mix_nil ?_
            rintro ⟨dq, osq⟩
            have hb4 := below_regrown W9 dq osq
            have hbW := hbW.trans (hb4.mono hbW.size)
            generalize grow (redrawn W9 dq) osq = W8 at *
            refine (show wpList _ _ _ _ _ _ from ?_)
            simp only [List.drop, Act.put, List.setIfInBounds_toArray, List.set]
            go_wp2_with fail
            all_goals
              go_ret
              exact ⟨rfl, hbW⟩
          · have hw : IntKind.i64.wrap ((c : Int) + (y : Int)) = ((c + y : Nat) : Int) := by rw [IntKind.wrap_i64]; omega
            have hv := HM.out (c + y) hy
            have hu := HM.out x hx
            have hcn : ¬ cap' = c := by omega
            generalize vs[c + y] = v at hv key
            generalize c + y = i at hw hv key hy
            generalize vs[x] = u at hu key
            have BU := fun w => betterD_any v u w
            generalize v.better u = bt at key BU
            have HV := Lib.hid hv
            have HU := Lib.hid hu
            have BU := Lib.hid BU
            clear hv hu
            have B2 := B2.out
            rw [if_neg hcn] at B2
            have B2 := Lib.hid B2
            go_upto_region 19 with fail
            refine wp_region_mix 8 (by kernel_rfl) (by kernel_rfl) (by kernel_rfl) ?_
            (refine mix_step (by kernel_rfl) (by kernel_rfl) (fun K hK => ?_); go_simp; (try (simp only [↓IntWalk.iteOmega]; go_simp)); (first | (refine hK _ ?_; clear hK K) | (apply Exists.intro; refine ⟨fun _ => ?_, hK _ ?_⟩; (first | fail); clear hK K)))
            (refine mix_step (by kernel_rfl) (by kernel_rfl) (fun K hK => ?_); go_simp; (try (simp only [↓IntWalk.iteOmega]; go_simp)); (first | (refine hK _ ?_; clear hK K) | (apply Exists.intro; refine ⟨fun _ => ?_, hK _ ?_⟩; (first | fail); clear hK K)))
            (refine mix_step (by kernel_rfl) (by kernel_rfl) (fun K hK => ?_); go_simp; (try (simp only [↓IntWalk.iteOmega]; go_simp)); (first | (refine hK _ ?_; clear hK K) | (apply Exists.intro; refine ⟨fun _ => ?_, hK _ ?_⟩; (first | fail); clear hK K)))
            (refine mix_step (by kernel_rfl) (by kernel_rfl) (fun K hK => ?_); go_simp; (try (simp only [↓IntWalk.iteOmega]; go_simp)); (first | (refine hK _ ?_; clear hK K) | (apply Exists.intro; refine ⟨fun _ => ?_, hK _ ?_⟩; (first | exact B1.out _); clear hK K)))
            (refine mix_step (by kernel_rfl) (by kernel_rfl) (fun K hK => ?_); go_simp; (try (simp only [↓IntWalk.iteOmega]; go_simp)); (first | (refine hK _ ?_; clear hK K) | (apply Exists.intro; refine ⟨fun _ => ?_, hK _ ?_⟩; (first | fail); clear hK K)))
            (refine mix_step (by kernel_rfl) (by kernel_rfl) (fun K hK => ?_); go_simp; (try (simp only [↓IntWalk.iteOmega]; go_simp)); (first | (refine hK _ ?_; clear hK K) | (apply Exists.intro; refine ⟨fun _ => ?_, hK _ ?_⟩; (first | fail); clear hK K)))
            (refine mix_step (by kernel_rfl) (by kernel_rfl) (fun K hK => ?_); go_simp; (try (simp only [↓IntWalk.iteOmega]; go_simp)); (first | (refine hK _ ?_; clear hK K) | (apply Exists.intro; refine ⟨fun _ => ?_, hK _ ?_⟩; (first | fail); clear hK K)))
            (refine mix_step (by kernel_rfl) (by kernel_rfl) (fun K hK => ?_); go_simp; (try (simp only [↓IntWalk.iteOmega]; go_simp)); (first | (refine hK _ ?_; clear hK K) | (apply Exists.intro; refine ⟨fun _ => ?_, hK _ ?_⟩; (first | exact B2.out _); clear hK K)))
            refine mix_nil ?_
            rintro ⟨dq, osq⟩
            have hb3 := below_regrown wr dq osq
            have hbW := hbW.trans (hb3.mono hbW.size)
            generalize grow (redrawn wr dq) osq = W9 at *
            refine (show wpList _ _ _ _ _ _ from ?_)
            simp only [List.drop, Act.put, List.setIfInBounds_toArray, List.set]
            have HV := Lib.hid (range_later HV.out hg5 hb3)
            have HU := Lib.hid (range_later HU.out hg5 hb3)
            have hg9 := Nat.lt_of_lt_of_le hg5 hb3.size
            go_upto_region 22 with fail
            rcases key with ⟨rfl, rfl⟩ | ⟨rfl, rfl⟩
            all_goals
              refine wp_region_mix 16 (by kernel_rfl) (by kernel_rfl) (by kernel_rfl) ?_
              (refine mix_step (by kernel_rfl) (by kernel_rfl) (fun K hK => ?_); go_simp; (try (simp only [↓IntWalk.iteOmega]; go_simp)); (first | (refine hK _ ?_; clear hK K) | (apply Exists.intro; refine ⟨fun _ => ?_, hK _ ?_⟩; (first | fail); clear hK K)))
              (refine mix_step (by kernel_rfl) (by kernel_rfl) (fun K hK => ?_); go_simp; (try (simp only [↓IntWalk.iteOmega]; go_simp)); (first | (refine hK _ ?_; clear hK K) | (apply Exists.intro; refine ⟨fun _ => ?_, hK _ ?_⟩; (first | fail); clear hK K)))
              (refine mix_step (by kernel_rfl) (by kernel_rfl) (fun K hK => ?_); go_simp; (try (simp only [↓IntWalk.iteOmega]; go_simp)); (first | (refine hK _ ?_; clear hK K) | (apply Exists.intro; refine ⟨fun _ => ?_, hK _ ?_⟩; (first | fail); clear hK K)))
              (refine mix_step (by kernel_rfl) (by kernel_rfl) (fun K hK => ?_); go_simp; (try (simp only [↓IntWalk.iteOmega]; go_simp)); (first | (refine hK _ ?_; clear hK K) | (apply Exists.intro; refine ⟨fun _ => ?_, hK _ ?_⟩; (first | fail); clear hK K)))
              (refine mix_step (by kernel_rfl) (by kernel_rfl) (fun K hK => ?_); go_simp; (try (simp only [↓IntWalk.iteOmega]; go_simp)); (first | (refine hK _ ?_; clear hK K) | (apply Exists.intro; refine ⟨fun _ => ?_, hK _ ?_⟩; (first | fail); clear hK K)))
              (refine mix_step (by kernel_rfl) (by kernel_rfl) (fun K hK => ?_); go_simp; (try (simp only [↓IntWalk.iteOmega]; go_simp)); (first | (refine hK _ ?_; clear hK K) | (apply Exists.intro; refine ⟨fun _ => ?_, hK _ ?_⟩; (first | fail); clear hK K)))
              (refine mix_step (by kernel_rfl) (by kernel_rfl) (fun K hK => ?_); go_simp; (try (simp only [↓IntWalk.iteOmega]; go_simp)); (first | (refine hK _ ?_; clear hK K) | (apply Exists.intro; refine ⟨fun _ => ?_, hK _ ?_⟩; (first | fail); clear hK K)))
              (refine mix_step (by kernel_rfl) (by kernel_rfl) (fun K hK => ?_); go_simp; (try (simp only [↓IntWalk.iteOmega]; go_simp)); (first | (refine hK _ ?_; clear hK K) | (apply Exists.intro; refine ⟨fun _ => ?_, hK _ ?_⟩; (first | fail); clear hK K)))
              refine mix_exact (.agg v.cells.toArray) rfl (exact_load_range rfl rfl (by simp) HV.out hg9 Try.underlying32 rfl (by kernel_rfl)) ?_
              (refine mix_step (by kernel_rfl) (by kernel_rfl) (fun K hK => ?_); go_simp; (try (simp only [↓IntWalk.iteOmega]; go_simp)); (first | (refine hK _ ?_; clear hK K) | (apply Exists.intro; refine ⟨fun _ => ?_, hK _ ?_⟩; (first | fail); clear hK K)))
              (refine mix_step (by kernel_rfl) (by kernel_rfl) (fun K hK => ?_); go_simp; (try (simp only [↓IntWalk.iteOmega]; go_simp)); (first | (refine hK _ ?_; clear hK K) | (apply Exists.intro; refine ⟨fun _ => ?_, hK _ ?_⟩; (first | fail); clear hK K)))
              (refine mix_step (by kernel_rfl) (by kernel_rfl) (fun K hK => ?_); go_simp; (try (simp only [↓IntWalk.iteOmega]; go_simp)); (first | (refine hK _ ?_; clear hK K) | (apply Exists.intro; refine ⟨fun _ => ?_, hK _ ?_⟩; (first | fail); clear hK K)))
              refine mix_exact (.agg u.cells.toArray) rfl (exact_load_range rfl rfl (by simp) HU.out hg9 Try.underlying32 rfl (by kernel_rfl)) ?_
              (refine mix_step (by kernel_rfl) (by kernel_rfl) (fun K hK => ?_); go_simp; (try (simp only [↓IntWalk.iteOmega]; go_simp)); (first | (refine hK _ ?_; clear hK K) | (apply Exists.intro; refine ⟨fun _ => ?_, hK _ ?_⟩; (first | exact BU.out _); clear hK K)))
              (refine mix_step (by kernel_rfl) (by kernel_rfl) (fun K hK => ?_); go_simp; (try (simp only [↓IntWalk.iteOmega]; go_simp)); (first | (refine hK _ ?_; clear hK K) | (apply Exists.intro; refine ⟨fun _ => ?_, hK _ ?_⟩; (first | fail); clear hK K)))
              (refine mix_step (by kernel_rfl) (by kernel_rfl) (fun K hK => ?_); go_simp; (try (simp only [↓IntWalk.iteOmega]; go_simp)); (first | (refine hK _ ?_; clear hK K) | (apply Exists.intro; refine ⟨fun _ => ?_, hK _ ?_⟩; (first | fail); clear hK K)))
              refine mix_nil ?_
              rintro ⟨dq, osq⟩
              have hb4 := below_regrown W9 dq osq
              have hbW := hbW.trans (hb4.mono hbW.size)
              generalize grow (redrawn W9 dq) osq = W8 at *
              refine (show wpList _ _ _ _ _ _ from ?_)
              simp only [List.drop, Act.put, List.setIfInBounds_toArray, List.set]
              go_wp2_with fail
              go_ret
              exact ⟨ret_bool (by simp), hbW⟩

theorem vecBest_walk (ao : Option Addr) (vs : List Vec.D) (cap : Nat) (cut : Int) (hc : (Lit.int .u8 cut).wf = true) (w : World) (hA : Vec.At w ao vs) :
    Calls Try.prog 7 #[.slice ao vs.length cap, .int .u8 cut] w fun e w' => e = .returned (.bool true) ∧ Below w.heap.size w w' := by
  simp only [Lit.wf, Bool.and_eq_true, decide_eq_true_eq] at hc
  have hc : 0 ≤ cut ∧ cut ≤ 255 := hc
  rcases Nat.lt_or_ge 100 vs.length with h | h
  · exact vecBest_long ao vs.length cap cut w h
  · rcases Nat.eq_zero_or_pos vs.length with h0 | h0
    · rw [h0]
      exact vecBest_empty ao cap cut w
    · obtain ⟨n, rfl⟩ := Int.eq_ofNat_of_zero_le hc.1
      exact vecBest_main ao vs cap n (by omega) w hA h h0
end Go.Proofs.Ythadlpiioabajaa
