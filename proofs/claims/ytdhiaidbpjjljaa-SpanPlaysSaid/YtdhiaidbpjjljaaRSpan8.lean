/- causeyref17: New. By an AI agent. -/
import Derived.Test.YtdhiaidbpjjljaaRSpan4
namespace Go.Proofs.Ytdhiaidbpjjljaa
open Go.RowKit Go.WideShapes Go.Sort Grow

/-- what is appended so far -/
def PFrom (w : World) (base : Nat) (v : Value) (zs : List Int) (i : Nat) : Prop := ∃ la lc, v = .slice la i lc ∧ w.ownsRow base 75 30 (.slice la i lc) i (((zs.map SP.fresh).take i).flatMap SP.rc)
theorem pfrom_nil (w : World) (base : Nat) (zs : List Int) : PFrom w base (.slice none 0 0) zs 0 := ⟨none, 0, rfl, World.ownsRow_nil _ _ _ _⟩
theorem PFrom.later {w w' : World} {base : Nat} {v : Value} {zs : List Int} {i : Nat} (h : PFrom w base v zs i) (hb : Below w.heap.size w w') : PFrom w' base v zs i := by
  obtain ⟨la, lc, e, h⟩ := h
  exact ⟨la, lc, e, ownsLater' h hb⟩
theorem PFrom.same {w w' : World} {base : Nat} {v : Value} {zs : List Int} {i : Nat} (h : PFrom w base v zs i) (ho : ∀ m, base ≤ m → w'.heap[m]? = w.heap[m]?) : PFrom w' base v zs i := by
  obtain ⟨la, lc, e, h1, h2⟩ := h
  refine ⟨la, lc, e, h1, ?_⟩
  rcases h2 with h2 | ⟨g', cap', cur, a1, a2, a3, a4⟩
  · exact .inl h2
  · exact .inr ⟨g', cap', cur, a1, a2, (ho _ a2).trans a3, a4⟩
theorem pfrom_app {w : World} {base : Nat} {v : Value} {zs : List Int} {i : Nat} (hi : i < zs.length) (h : w.ownsRow base 75 30 v (i + 1) (((zs.map SP.fresh).take i).flatMap SP.rc ++ (SP.fresh (zs.getD i 0)).rc)) : PFrom w base v zs (i + 1) := by
  obtain ⟨la, lc, rfl⟩ : ∃ la lc, v = .slice la (i + 1) lc := by
    rcases h.2 with ⟨_, e0⟩ | ⟨g', c', _, e', _⟩
    · omega
    · exact ⟨_, _, e'⟩
  refine ⟨la, lc, rfl, ?_⟩
  have e : ((zs.map SP.fresh).take (i + 1)).flatMap SP.rc = ((zs.map SP.fresh).take i).flatMap SP.rc ++ (SP.fresh (zs.getD i 0)).rc := by
    rw [List.take_succ_eq_append_getElem (by simpa using hi), List.flatMap_append]
    simp [List.getD, hi]
  rw [e]
  exact h
theorem PFrom.rat {w : World} {base : Nat} {v : Value} {zs : List Int} (h : PFrom w base v zs zs.length) (hz : 0 < zs.length) : ∃ g cap, v = .slice (some ⟨g, 0, none⟩) zs.length cap ∧ RAt base g cap w (zs.map SP.fresh) := by
  obtain ⟨la, lc, e, h1, h2⟩ := h
  rcases h2 with ⟨e2, e3⟩ | ⟨g', cap', cur, e2, q1, q2, q3, q4, q5, q6⟩
  · omega
  · rw [show (zs.map SP.fresh).take zs.length = zs.map SP.fresh from List.take_of_length_le (by simp)] at q6
    refine ⟨g', cap', e.trans e2, q1, cur, q2, q5, by simpa using q3, q4, ?_⟩
    rw [← q6]
    simp
theorem SS.fresh_fit {id : Id8} {zs : List Int} {ma he de : Int} (hb : anyBad zs = false) : (SS.fresh id zs ma he de).Fit := fun k => by
  by_cases hk : k < zs.length
  · have e : (SS.fresh id zs ma he de).port k = SP.fresh zs[k] := by
      unfold SS.port SS.fresh
      simp [List.getD, hk]
    rw [e]
    unfold anyBad at hb
    simp only [Bool.not_eq_false', List.all_eq_true] at hb
    have h1 := hb _ (List.getElem_mem hk)
    unfold okLim at h1
    simp only [decide_eq_true_eq] at h1
    exact ⟨⟨Int.le_refl _, (show (0 : Int) ≤ 1073741824 by decide)⟩, (show (0 : Int) ≤ zs[k] by omega), h1.2⟩
  · rw [SS.port_out _ _ (by simp [SS.fresh]; omega)]
    exact SP.zero_fit

set_option maxRecDepth 20000 in
set_option maxHeartbeats 16000000 in
theorem refNew_any (id : Id8) (a0 : Option Addr) (zs : List Int) (cap0 : Nat) (ma he de : Int) (w : World) (hA : IntsAt w a0 zs) (hb : newOk zs ma he de = true) :
    Calls Try.prog 17 #[.agg #[.int .u8 ((id.f 0).toNat : Int), .int .u8 ((id.f 1).toNat : Int), .int .u8 ((id.f 2).toNat : Int), .int .u8 ((id.f 3).toNat : Int), .int .u8 ((id.f 4).toNat : Int), .int .u8 ((id.f 5).toNat : Int), .int .u8 ((id.f 6).toNat : Int), .int .u8 ((id.f 7).toNat : Int)], .slice a0 zs.length cap0, .int .i64 ma, .int .i64 he, .int .i64 de] w fun e w' => ∃ g' cap', e = .returned (.agg #[.int .u8 (((SS.fresh id zs ma he de).found.1.id.f 0).toNat : Int), .int .u8 (((SS.fresh id zs ma he de).found.1.id.f 1).toNat : Int), .int .u8 (((SS.fresh id zs ma he de).found.1.id.f 2).toNat : Int), .int .u8 (((SS.fresh id zs ma he de).found.1.id.f 3).toNat : Int), .int .u8 (((SS.fresh id zs ma he de).found.1.id.f 4).toNat : Int), .int .u8 (((SS.fresh id zs ma he de).found.1.id.f 5).toNat : Int), .int .u8 (((SS.fresh id zs ma he de).found.1.id.f 6).toNat : Int), .int .u8 (((SS.fresh id zs ma he de).found.1.id.f 7).toNat : Int), .int .i64 (SS.fresh id zs ma he de).found.1.ma, .int .i64 (SS.fresh id zs ma he de).found.1.he, .int .i64 (SS.fresh id zs ma he de).found.1.de, .int .i64 (SS.fresh id zs ma he de).found.1.now, .int .i64 (SS.fresh id zs ma he de).found.1.chg, (.slice (some ⟨g', 0, none⟩) zs.length cap'), .int .u8 (((SS.fresh id zs ma he de).found.1.best.r.f 0).toNat : Int), .int .u8 (((SS.fresh id zs ma he de).found.1.best.r.f 1).toNat : Int), .int .u8 (((SS.fresh id zs ma he de).found.1.best.r.f 2).toNat : Int), .int .u8 (((SS.fresh id zs ma he de).found.1.best.r.f 3).toNat : Int), .int .u8 (((SS.fresh id zs ma he de).found.1.best.r.f 4).toNat : Int), .int .u8 (((SS.fresh id zs ma he de).found.1.best.r.f 5).toNat : Int), .int .u8 (((SS.fresh id zs ma he de).found.1.best.r.f 6).toNat : Int), .int .u8 (((SS.fresh id zs ma he de).found.1.best.r.f 7).toNat : Int), .int .i64 (SS.fresh id zs ma he de).found.1.best.c, .int .u8 (((SS.fresh id zs ma he de).found.1.best.b.f 0).toNat : Int), .int .u8 (((SS.fresh id zs ma he de).found.1.best.b.f 1).toNat : Int), .int .u8 (((SS.fresh id zs ma he de).found.1.best.b.f 2).toNat : Int), .int .u8 (((SS.fresh id zs ma he de).found.1.best.b.f 3).toNat : Int), .int .u8 (((SS.fresh id zs ma he de).found.1.best.b.f 4).toNat : Int), .int .u8 (((SS.fresh id zs ma he de).found.1.best.b.f 5).toNat : Int), .int .u8 (((SS.fresh id zs ma he de).found.1.best.b.f 6).toNat : Int), .int .u8 (((SS.fresh id zs ma he de).found.1.best.b.f 7).toNat : Int), .int .i64 (SS.fresh id zs ma he de).found.1.best.p, .int .i64 (SS.fresh id zs ma he de).found.1.root]) ∧ RAt w.heap.size g' cap' w' (SS.fresh id zs ma he de).found.1.ports ∧ Below w.heap.size w w' := by
  have HNB : Hid (newOk zs ma he de = true) := hb
  have hzl : 1 ≤ zs.length ∧ zs.length ≤ 32 ∧ anyBad zs = false := by
    unfold newOk at hb
    simp only [Bool.and_eq_true, decide_eq_true_eq, Bool.not_eq_true'] at hb
    exact ⟨hb.2.1, hb.2.2.1, hb.2.2.2⟩
  have HFIT : Hid (SS.fresh id zs ma he de).Fit := SS.fresh_fit hzl.2.2
  obtain ⟨ti, tz, hti, htz, hz1, hz2, hz3⟩ := info_rport
  have HI := Lib.hid hti
  have HZ := Lib.hid htz
  have HA := Lib.hid hA
  have hz1' := hzl.1
  have hz2' := hzl.2.1
  clear hti htz hA hb hzl
  go_enter Try.func17, Try.ntmps17
  go_upto_region 1 with fail
  generalize hW : (w.alloc _).alloc _ = W
  have hbW : Below w.heap.size w W := by rw [← hW]; exact ((Below.refl _ _).alloc (Nat.le_refl _) _).alloc (by simp) _
  have R1 : Hid (RowIs W w.heap.size 22 #[.int .u8 ((id.f 0).toNat : Int), .int .u8 ((id.f 1).toNat : Int), .int .u8 ((id.f 2).toNat : Int), .int .u8 ((id.f 3).toNat : Int), .int .u8 ((id.f 4).toNat : Int), .int .u8 ((id.f 5).toNat : Int), .int .u8 ((id.f 6).toNat : Int), .int .u8 ((id.f 7).toNat : Int)]) := by subst hW; exact (rowIs_new w _ _).alloc _
  have R2 : Hid (RowIs W (w.heap.size + 1) 59 #[.int .u8 0, .int .u8 0, .int .u8 0, .int .u8 0, .int .u8 0, .int .u8 0, .int .u8 0, .int .u8 0, .int .i64 0, .int .i64 0, .int .i64 0, .int .i64 0, .int .i64 0, .slice none 0 0, .int .u8 0, .int .u8 0, .int .u8 0, .int .u8 0, .int .u8 0, .int .u8 0, .int .u8 0, .int .u8 0, .int .i64 0, .int .u8 0, .int .u8 0, .int .u8 0, .int .u8 0, .int .u8 0, .int .u8 0, .int .u8 0, .int .u8 0, .int .i64 0, .int .i64 0]) := by subst hW; exact rowIs_new1 w _ _ _
  have HWS : Hid (W.heap.size = w.heap.size + 2) := by show _ = _; rw [← hW]; simp
  clear hW
  have hbX : Below W.heap.size W (W.alloc (.cells #[.int .u8 0, .int .u8 0, .int .u8 0, .int .u8 0, .int .u8 0, .int .u8 0, .int .u8 0, .int .u8 0, .int .i64 0, .int .i64 0, .int .i64 0, .int .i64 0, .int .i64 0, .slice none 0 0, .int .u8 0, .int .u8 0, .int .u8 0, .int .u8 0, .int .u8 0, .int .u8 0, .int .u8 0, .int .u8 0, .int .i64 0, .int .u8 0, .int .u8 0, .int .u8 0, .int .u8 0, .int .u8 0, .int .u8 0, .int .u8 0, .int .u8 0, .int .i64 0, .int .i64 0] 59)) := (Below.refl _ _).alloc (Nat.le_refl _) _
  go_wp2_with (first
    | ((with_reducible refine at_load 22 (.tmp 5) ?_); refine wpList_load_midW rfl 22 (.tmp 5) rfl (w.heap.size) (0) rfl [.int .u8 ((id.f 0).toNat : Int), .int .u8 ((id.f 1).toNat : Int), .int .u8 ((id.f 2).toNat : Int), .int .u8 ((id.f 3).toNat : Int), .int .u8 ((id.f 4).toNat : Int), .int .u8 ((id.f 5).toNat : Int), .int .u8 ((id.f 6).toNat : Int), .int .u8 ((id.f 7).toNat : Int)] _ (range_of_row R1.out rfl) Try.underlying22 rfl (by kernel_rfl) ?_)
    | ((with_reducible refine at_store 59 (.tmp 11) (.tmp 17) ?_); refine wpList_store_own rfl 59 (.tmp 11) (.tmp 17) rfl (W.heap.size) _ rfl rfl _ _ (rowIs_new W _ _) (by kernel_rfl) rfl (by simp [Value.oneCell']) (W.heap.size) (Nat.le_refl _) ?_))
  intro w1 hR1 ho1 hs1 hb1
  have hWs := HWS.out
  have hbX2 : Below W.heap.size W w1 := hbX.trans hb1
  have HF : Hid (RowIs w1 (w.heap.size + 2) 59 #[.int .u8 ((id.f 0).toNat : Int), .int .u8 ((id.f 1).toNat : Int), .int .u8 ((id.f 2).toNat : Int), .int .u8 ((id.f 3).toNat : Int), .int .u8 ((id.f 4).toNat : Int), .int .u8 ((id.f 5).toNat : Int), .int .u8 ((id.f 6).toNat : Int), .int .u8 ((id.f 7).toNat : Int), .int .i64 ma, .int .i64 he, .int .i64 de, .int .i64 0, .int .i64 0, .slice none 0 0, .int .u8 0, .int .u8 0, .int .u8 0, .int .u8 0, .int .u8 0, .int .u8 0, .int .u8 0, .int .u8 0, .int .i64 0, .int .u8 0, .int .u8 0, .int .u8 0, .int .u8 0, .int .u8 0, .int .u8 0, .int .u8 0, .int .u8 0, .int .i64 0, .int .i64 (-1)]) := by rw [← hWs]; exact hR1
  have HR2 : Hid (RowIs w1 (w.heap.size + 1) 59 #[.int .u8 0, .int .u8 0, .int .u8 0, .int .u8 0, .int .u8 0, .int .u8 0, .int .u8 0, .int .u8 0, .int .i64 0, .int .i64 0, .int .i64 0, .int .i64 0, .int .i64 0, .slice none 0 0, .int .u8 0, .int .u8 0, .int .u8 0, .int .u8 0, .int .u8 0, .int .u8 0, .int .u8 0, .int .u8 0, .int .i64 0, .int .u8 0, .int .u8 0, .int .u8 0, .int .u8 0, .int .u8 0, .int .u8 0, .int .u8 0, .int .u8 0, .int .i64 0, .int .i64 0]) := R2.out.kept hbX2
  have hbA := hbW.trans (hbX2.mono hbW.size)
  have hs : (w.heap.size + 3) ≤ w1.heap.size := HF.out.lt
  rw [hWs]
  clear hR1 ho1 hs1 hb1 hbX hbX2 R1 R2 hbW hWs HWS
  have HP0 : Hid (PFrom w1 (w.heap.size + 3) (.slice none 0 0) zs 0) := pfrom_nil _ _ _
  go_upto_region 3 with fail
  go_loopw [12] (fun v12 wr => ∃ i : Nat, i ≤ zs.length ∧ v12 = .int .i64 i ∧ Hid (∃ v, RowIs wr (w.heap.size + 2) 59 #[.int .u8 ((id.f 0).toNat : Int), .int .u8 ((id.f 1).toNat : Int), .int .u8 ((id.f 2).toNat : Int), .int .u8 ((id.f 3).toNat : Int), .int .u8 ((id.f 4).toNat : Int), .int .u8 ((id.f 5).toNat : Int), .int .u8 ((id.f 6).toNat : Int), .int .u8 ((id.f 7).toNat : Int), .int .i64 ma, .int .i64 he, .int .i64 de, .int .i64 0, .int .i64 0, v, .int .u8 0, .int .u8 0, .int .u8 0, .int .u8 0, .int .u8 0, .int .u8 0, .int .u8 0, .int .u8 0, .int .i64 0, .int .u8 0, .int .u8 0, .int .u8 0, .int .u8 0, .int .u8 0, .int .u8 0, .int .u8 0, .int .u8 0, .int .i64 0, .int .i64 (-1)] ∧ PFrom wr (w.heap.size + 3) v zs i) ∧ Hid (RowIs wr (w.heap.size + 1) 59 #[.int .u8 0, .int .u8 0, .int .u8 0, .int .u8 0, .int .u8 0, .int .u8 0, .int .u8 0, .int .u8 0, .int .i64 0, .int .i64 0, .int .i64 0, .int .i64 0, .int .i64 0, .slice none 0 0, .int .u8 0, .int .u8 0, .int .u8 0, .int .u8 0, .int .u8 0, .int .u8 0, .int .u8 0, .int .u8 0, .int .i64 0, .int .u8 0, .int .u8 0, .int .u8 0, .int .u8 0, .int .u8 0, .int .u8 0, .int .u8 0, .int .u8 0, .int .i64 0, .int .i64 0]) ∧ Below w.heap.size w wr) (fun v12 _ => zs.length - (intOf v12).toNat)
  case atStart => exact ⟨0, Nat.zero_le _, rfl, ⟨_, HF.out, HP0.out⟩, HR2, hbA⟩
  case round =>
    clear HP0 HF HR2 hbA hs
    rename World => wr
    obtain ⟨i, hi, rfl, HX, HR2, hbR⟩ := hrel
    obtain ⟨v, hF, hP⟩ := HX.out
    have HF := Lib.hid hF
    have HP := Lib.hid hP
    clear hF hP HX
    have hs : (w.heap.size + 3) ≤ wr.heap.size := HF.out.lt
    by_cases hlt : i < zs.length
    · have hcell : ∃ b off, a0 = some ⟨b, off, none⟩ ∧ wr.cell? ⟨b, off + i, none⟩ = some (.int .i64 (zs.getD i 0)) := by
        rcases HA.out.after hbR with h | ⟨b, off, e1, h⟩
        · rw [h] at hlt
          exact absurd hlt (Nat.not_lt_zero _)
        · exact ⟨b, off, e1, h i hlt⟩
      obtain ⟨b, off, rfl, hc⟩ := hcell
      obtain ⟨la, lc, rfl, hO⟩ := HP.out
      have HO := Lib.hid hO
      have hAP := Lib.hid (fun (v' : Value) (w' : World) => @pfrom_app w' (w.heap.size + 3) v' zs i hlt)
      have HRC : Hid ((SP.fresh (zs.getD i 0)).rc = [.int .i64 (zs.getD i 0), .int .i64 0, .int .i64 0, .int .i64 0, .bool false, .bool false, .int .u8 0, .int .u8 0, .int .u8 0, .int .u8 0, .int .u8 0, .int .u8 0, .int .u8 0, .int .u8 0, .int .u8 0, .int .u8 0, .int .u8 0, .int .u8 0, .int .u8 0, .int .u8 0, .int .u8 0, .int .u8 0, .int .i64 0, .int .i64 0, .int .i64 0, .int .i64 0, .int .i64 0, .int .i64 0, .bool false, .bool false]) := rfl
      have HLC : Hid (((zs.map SP.fresh).take i).length = i) := by show _ = _; simp; omega
      generalize zs.getD i 0 = z at *
      have q := cell_regrown hc
      have q13 := cell_regrown (show wr.cell? ⟨w.heap.size + 2, 13, none⟩ = some (.slice la i lc) from HF.out.cell 13)
      have hx0 : (0 : Int) ≤ (i : Int) := by omega
      have hx1 : (i : Int) < (zs.length : Int) := by omega
      clear hO HP
      go_upto_region 5 with fail
      clear hc
      refine wp_region_mix 8 (by kernel_rfl) (by kernel_rfl) (by kernel_rfl) ?_
      (refine mix_step (by kernel_rfl) (by kernel_rfl) (fun K hK => ?_); go_simp; (try (simp only [↓IntWalk.iteOmega]; go_simp)); (first | (refine hK _ ?_; clear hK K) | (apply Exists.intro; refine ⟨fun _ => ?_, hK _ ?_⟩; (first | fail); clear hK K)))
      (refine mix_step (by kernel_rfl) (by kernel_rfl) (fun K hK => ?_); go_simp; (try (simp only [↓IntWalk.iteOmega]; go_simp)); (first | (refine hK _ ?_; clear hK K) | (apply Exists.intro; refine ⟨fun _ => ?_, hK _ ?_⟩; (first | fail); clear hK K)))
      (refine mix_step (by kernel_rfl) (by kernel_rfl) (fun K hK => ?_); go_simp; (try (simp only [↓IntWalk.iteOmega]; go_simp)); (first | (refine hK _ ?_; clear hK K) | (apply Exists.intro; refine ⟨fun _ => ?_, hK _ ?_⟩; (first | fail); clear hK K)))
      (refine mix_step (by kernel_rfl) (by kernel_rfl) (fun K hK => ?_); go_simp; (try (simp only [↓IntWalk.iteOmega]; go_simp)); (first | (refine hK _ ?_; clear hK K) | (apply Exists.intro; refine ⟨fun _ => ?_, hK _ ?_⟩; (first | fail); clear hK K)))
      (refine mix_step (by kernel_rfl) (by kernel_rfl) (fun K hK => ?_); go_simp; (try (simp only [↓IntWalk.iteOmega]; go_simp)); (first | (refine hK _ ?_; clear hK K) | (apply Exists.intro; refine ⟨fun _ => ?_, hK _ ?_⟩; (first | fail); clear hK K)))
      (refine mix_step (by kernel_rfl) (by kernel_rfl) (fun K hK => ?_); go_simp; (try (simp only [↓IntWalk.iteOmega]; go_simp)); (first | (refine hK _ ?_; clear hK K) | (apply Exists.intro; refine ⟨fun _ => ?_, hK _ ?_⟩; (first | fail); clear hK K)))
      (refine mix_step (by kernel_rfl) (by kernel_rfl) (fun K hK => ?_); go_simp; (try (simp only [↓IntWalk.iteOmega]; go_simp)); (first | (refine hK _ ?_; clear hK K) | (apply Exists.intro; refine ⟨fun _ => ?_, hK _ ?_⟩; (first | fail); clear hK K)))
      refine mix_special _ 31 rfl rfl (stable_row _ _ _ _) (owes_buildSlice (cells := #[.int .i64 z, .int .i64 0, .int .i64 0, .int .i64 0, .bool false, .bool false, .int .u8 0, .int .u8 0, .int .u8 0, .int .u8 0, .int .u8 0, .int .u8 0, .int .u8 0, .int .u8 0, .int .u8 0, .int .u8 0, .int .u8 0, .int .u8 0, .int .u8 0, .int .u8 0, .int .u8 0, .int .u8 0, .int .i64 0, .int .i64 0, .int .i64 0, .int .i64 0, .int .i64 0, .int .i64 0, .bool false, .bool false]) rfl (by simp) Try.underlying55 (sz := 30) (z := .agg #[.int .i64 0, .int .i64 0, .int .i64 0, .int .i64 0, .bool false, .bool false, .int .u8 0, .int .u8 0, .int .u8 0, .int .u8 0, .int .u8 0, .int .u8 0, .int .u8 0, .int .u8 0, .int .u8 0, .int .u8 0, .int .u8 0, .int .u8 0, .int .u8 0, .int .u8 0, .int .u8 0, .int .u8 0, .int .i64 0, .int .i64 0, .int .i64 0, .int .i64 0, .int .i64 0, .int .i64 0, .bool false, .bool false]) (by kernel_rfl) (by decide) (by decide) (by kernel_rfl)) ?_
      refine mix_nil ?_
      rintro ⟨dq, osq⟩
      have hb6 := below_regrown wr dq osq
      rintro u31 ⟨b31, rfl, hB31, hR31⟩
      have R31 := Lib.hid hR31
      have HO := Lib.hid (ownsLater' HO.out hb6)
      have HF := Lib.hid (HF.out.kept hb6)
      have HR2 := Lib.hid (HR2.out.kept hb6)
      have hbR := hbR.trans (hb6.mono hbR.size)
      have hs6 : (w.heap.size + 3) ≤ (grow (redrawn wr dq) osq).heap.size := Nat.le_trans hs hb6.size
      clear hR31 q q13 hB31 hb6 hs
      generalize grow (redrawn wr dq) osq = w6 at *
      have HXL : Hid (∀ u ∈ (SP.fresh z).rc, u.oneCell' = true) := by
        show ∀ u ∈ _, _
        rw [HRC.out]
        simp [Value.oneCell']
      refine (show wpList _ _ _ _ _ _ from ?_)
      simp only [List.drop, Act.put, List.setIfInBounds_toArray, List.set]
      go_wp2_with (at_builtin; refine wpList_append_own _ rfl (.tmp 25) (.tmp 31) 55 rfl (w.heap.size + 3) 75 ti tz 30 112 Try.underlying55 HI.out HZ.out hz1 hz2 hz3 (by decide) _ i _ rfl HO.out ⟨b31, 0, none⟩ 1 1 (SP.fresh z).rc rfl ?c0 ?c1 ?c2 ?c3 ?c4 ?c5 ?_)
      case c0 => rw [HRC.out]; rfl
      case c1 =>
        intro j u hj
        rw [HRC.out] at hj
        first
          | exact hj
          | (rw [addr_add, R31.out.cell j, ← Array.getElem?_toList]; exact hj)
          | (rw [R31.out.cell j, ← Array.getElem?_toList]; exact hj)
      case c2 => exact HXL.out
      case c3 => simp [maxLen]; omega
      case c4 => omega
      (try case c5 => exact hs6)
      intro v' w7 ho7 hg7 _
      have hP7 := hAP.out v' w7 ho7
      obtain ⟨la7, lc7, rfl, -⟩ := (show PFrom _ _ _ _ _ from hP7)
      have HP7 := Lib.hid hP7
      have hbAP : Below (w.heap.size + 3) w6 w7 := (Below.refl _ w6).grown hg7 hs6 (fun k e1 => (HO.out.lt k e1).1)
      have HF := Lib.hid (HF.out.below hbAP (by omega))
      have HR2 := Lib.hid (HR2.out.below hbAP (by omega))
      have hbR7 := hbR.trans (hbAP.mono (by omega))
      clear ho7 hg7 hbAP HO HRC HXL hP7
      go_wp2_with ((with_reducible refine at_store 55 (.tmp 33) (.tmp 32) ?_); refine wpList_store_cell rfl 55 (.tmp 33) (.tmp 32) rfl (w.heap.size + 2) 13 (.slice la7 (i + 1) lc7) rfl rfl 59 _ HF.out (show 13 < 33 from by decide) (by kernel_rfl) rfl (w.heap.size) (by omega) ?_)
      intro w8 hR8 ho8 hs8 hb8
      have HF8 : Hid (RowIs w8 (w.heap.size + 2) 59 #[.int .u8 ((id.f 0).toNat : Int), .int .u8 ((id.f 1).toNat : Int), .int .u8 ((id.f 2).toNat : Int), .int .u8 ((id.f 3).toNat : Int), .int .u8 ((id.f 4).toNat : Int), .int .u8 ((id.f 5).toNat : Int), .int .u8 ((id.f 6).toNat : Int), .int .u8 ((id.f 7).toNat : Int), .int .i64 ma, .int .i64 he, .int .i64 de, .int .i64 0, .int .i64 0, .slice la7 (i + 1) lc7, .int .u8 0, .int .u8 0, .int .u8 0, .int .u8 0, .int .u8 0, .int .u8 0, .int .u8 0, .int .u8 0, .int .i64 0, .int .u8 0, .int .u8 0, .int .u8 0, .int .u8 0, .int .u8 0, .int .u8 0, .int .u8 0, .int .u8 0, .int .i64 0, .int .i64 (-1)]) := hR8
      have HP8 := Lib.hid (HP7.out.same (fun m hm => ho8 m (by omega)))
      have HR28 := Lib.hid (rowIs_same HR2.out (ho8 _ (by omega)))
      have hbR8 := hbR7.trans hb8
      clear hR8 ho8 hs8 hb8 HF HR2
      go_wp2_with fail
      refine ⟨⟨i + 1, by omega, by go_num, ⟨_, HF8.out, HP8.out⟩, HR28, hbR8⟩, by simp [intOf]; omega⟩
    · obtain rfl : i = zs.length := by omega
      obtain ⟨g1, cap1, rfl, hRA⟩ := HP.out.rat (by omega)
      have HEQ : (#[.int .u8 (((SS.fresh id zs ma he de).id.f 0).toNat : Int), .int .u8 (((SS.fresh id zs ma he de).id.f 1).toNat : Int), .int .u8 (((SS.fresh id zs ma he de).id.f 2).toNat : Int), .int .u8 (((SS.fresh id zs ma he de).id.f 3).toNat : Int), .int .u8 (((SS.fresh id zs ma he de).id.f 4).toNat : Int), .int .u8 (((SS.fresh id zs ma he de).id.f 5).toNat : Int), .int .u8 (((SS.fresh id zs ma he de).id.f 6).toNat : Int), .int .u8 (((SS.fresh id zs ma he de).id.f 7).toNat : Int), .int .i64 (SS.fresh id zs ma he de).ma, .int .i64 (SS.fresh id zs ma he de).he, .int .i64 (SS.fresh id zs ma he de).de, .int .i64 (SS.fresh id zs ma he de).now, .int .i64 (SS.fresh id zs ma he de).chg, (.slice (some ⟨g1, 0, none⟩) zs.length cap1), .int .u8 (((SS.fresh id zs ma he de).best.r.f 0).toNat : Int), .int .u8 (((SS.fresh id zs ma he de).best.r.f 1).toNat : Int), .int .u8 (((SS.fresh id zs ma he de).best.r.f 2).toNat : Int), .int .u8 (((SS.fresh id zs ma he de).best.r.f 3).toNat : Int), .int .u8 (((SS.fresh id zs ma he de).best.r.f 4).toNat : Int), .int .u8 (((SS.fresh id zs ma he de).best.r.f 5).toNat : Int), .int .u8 (((SS.fresh id zs ma he de).best.r.f 6).toNat : Int), .int .u8 (((SS.fresh id zs ma he de).best.r.f 7).toNat : Int), .int .i64 (SS.fresh id zs ma he de).best.c, .int .u8 (((SS.fresh id zs ma he de).best.b.f 0).toNat : Int), .int .u8 (((SS.fresh id zs ma he de).best.b.f 1).toNat : Int), .int .u8 (((SS.fresh id zs ma he de).best.b.f 2).toNat : Int), .int .u8 (((SS.fresh id zs ma he de).best.b.f 3).toNat : Int), .int .u8 (((SS.fresh id zs ma he de).best.b.f 4).toNat : Int), .int .u8 (((SS.fresh id zs ma he de).best.b.f 5).toNat : Int), .int .u8 (((SS.fresh id zs ma he de).best.b.f 6).toNat : Int), .int .u8 (((SS.fresh id zs ma he de).best.b.f 7).toNat : Int), .int .i64 (SS.fresh id zs ma he de).best.p, .int .i64 (SS.fresh id zs ma he de).root] : Array Value) = #[.int .u8 ((id.f 0).toNat : Int), .int .u8 ((id.f 1).toNat : Int), .int .u8 ((id.f 2).toNat : Int), .int .u8 ((id.f 3).toNat : Int), .int .u8 ((id.f 4).toNat : Int), .int .u8 ((id.f 5).toNat : Int), .int .u8 ((id.f 6).toNat : Int), .int .u8 ((id.f 7).toNat : Int), .int .i64 ma, .int .i64 he, .int .i64 de, .int .i64 0, .int .i64 0, (.slice (some ⟨g1, 0, none⟩) zs.length cap1), .int .u8 0, .int .u8 0, .int .u8 0, .int .u8 0, .int .u8 0, .int .u8 0, .int .u8 0, .int .u8 0, .int .i64 0, .int .u8 0, .int .u8 0, .int .u8 0, .int .u8 0, .int .u8 0, .int .u8 0, .int .u8 0, .int .u8 0, .int .i64 0, .int .i64 (-1)] := by simp [SS.fresh, Id8.zero, Id8.f]
      have HF : Hid (RowIs wr (w.heap.size + 2) 59 #[.int .u8 (((SS.fresh id zs ma he de).id.f 0).toNat : Int), .int .u8 (((SS.fresh id zs ma he de).id.f 1).toNat : Int), .int .u8 (((SS.fresh id zs ma he de).id.f 2).toNat : Int), .int .u8 (((SS.fresh id zs ma he de).id.f 3).toNat : Int), .int .u8 (((SS.fresh id zs ma he de).id.f 4).toNat : Int), .int .u8 (((SS.fresh id zs ma he de).id.f 5).toNat : Int), .int .u8 (((SS.fresh id zs ma he de).id.f 6).toNat : Int), .int .u8 (((SS.fresh id zs ma he de).id.f 7).toNat : Int), .int .i64 (SS.fresh id zs ma he de).ma, .int .i64 (SS.fresh id zs ma he de).he, .int .i64 (SS.fresh id zs ma he de).de, .int .i64 (SS.fresh id zs ma he de).now, .int .i64 (SS.fresh id zs ma he de).chg, (.slice (some ⟨g1, 0, none⟩) zs.length cap1), .int .u8 (((SS.fresh id zs ma he de).best.r.f 0).toNat : Int), .int .u8 (((SS.fresh id zs ma he de).best.r.f 1).toNat : Int), .int .u8 (((SS.fresh id zs ma he de).best.r.f 2).toNat : Int), .int .u8 (((SS.fresh id zs ma he de).best.r.f 3).toNat : Int), .int .u8 (((SS.fresh id zs ma he de).best.r.f 4).toNat : Int), .int .u8 (((SS.fresh id zs ma he de).best.r.f 5).toNat : Int), .int .u8 (((SS.fresh id zs ma he de).best.r.f 6).toNat : Int), .int .u8 (((SS.fresh id zs ma he de).best.r.f 7).toNat : Int), .int .i64 (SS.fresh id zs ma he de).best.c, .int .u8 (((SS.fresh id zs ma he de).best.b.f 0).toNat : Int), .int .u8 (((SS.fresh id zs ma he de).best.b.f 1).toNat : Int), .int .u8 (((SS.fresh id zs ma he de).best.b.f 2).toNat : Int), .int .u8 (((SS.fresh id zs ma he de).best.b.f 3).toNat : Int), .int .u8 (((SS.fresh id zs ma he de).best.b.f 4).toNat : Int), .int .u8 (((SS.fresh id zs ma he de).best.b.f 5).toNat : Int), .int .u8 (((SS.fresh id zs ma he de).best.b.f 6).toNat : Int), .int .u8 (((SS.fresh id zs ma he de).best.b.f 7).toNat : Int), .int .i64 (SS.fresh id zs ma he de).best.p, .int .i64 (SS.fresh id zs ma he de).root]) := by
        show RowIs _ _ _ _
        rw [HEQ]
        exact HF.out
      clear HEQ
      have hRA : RAt (w.heap.size + 3) g1 cap1 wr (SS.fresh id zs ma he de).ports := hRA
      have hg1 := hRA.hB
      have HC := Lib.hid (refFound_n (n := zs.length) (w.heap.size + 3) g1 cap1 (SS.fresh id zs ma he de) wr (by simp [SS.fresh]) hRA (by omega) HFIT.out ⟨Int.le_refl _, (show (0 : Int) ≤ 999990000 by decide)⟩)
      clear hRA HP
      generalize hs0 : (SS.fresh id zs ma he de) = s0 at *
      have HS0 := Lib.hid hs0
      clear hs0
      go_wp2_with ((with_reducible refine at_load 59 (.tmp 11) ?_); refine wpList_load_midW rfl 59 (.tmp 11) rfl (w.heap.size + 2) (0) rfl [.int .u8 ((s0.id.f 0).toNat : Int), .int .u8 ((s0.id.f 1).toNat : Int), .int .u8 ((s0.id.f 2).toNat : Int), .int .u8 ((s0.id.f 3).toNat : Int), .int .u8 ((s0.id.f 4).toNat : Int), .int .u8 ((s0.id.f 5).toNat : Int), .int .u8 ((s0.id.f 6).toNat : Int), .int .u8 ((s0.id.f 7).toNat : Int), .int .i64 s0.ma, .int .i64 s0.he, .int .i64 s0.de, .int .i64 s0.now, .int .i64 s0.chg, (.slice (some ⟨g1, 0, none⟩) zs.length cap1), .int .u8 ((s0.best.r.f 0).toNat : Int), .int .u8 ((s0.best.r.f 1).toNat : Int), .int .u8 ((s0.best.r.f 2).toNat : Int), .int .u8 ((s0.best.r.f 3).toNat : Int), .int .u8 ((s0.best.r.f 4).toNat : Int), .int .u8 ((s0.best.r.f 5).toNat : Int), .int .u8 ((s0.best.r.f 6).toNat : Int), .int .u8 ((s0.best.r.f 7).toNat : Int), .int .i64 s0.best.c, .int .u8 ((s0.best.b.f 0).toNat : Int), .int .u8 ((s0.best.b.f 1).toNat : Int), .int .u8 ((s0.best.b.f 2).toNat : Int), .int .u8 ((s0.best.b.f 3).toNat : Int), .int .u8 ((s0.best.b.f 4).toNat : Int), .int .u8 ((s0.best.b.f 5).toNat : Int), .int .u8 ((s0.best.b.f 6).toNat : Int), .int .u8 ((s0.best.b.f 7).toNat : Int), .int .i64 s0.best.p, .int .i64 s0.root] _ (range_of_row HF.out rfl) Try.underlying59 rfl (by kernel_rfl) ?_)
      refine HC.out.mono ?_
      rintro e w4 ⟨rfl, hR4, hb4, ho4⟩
      have HF4 := Lib.hid (HF.out.below hb4 (by omega))
      have HR2 := Lib.hid (HR2.out.below hb4 (by omega))
      have hbR4 := hbR.trans (hb4.mono (by omega))
      have HR4 := Lib.hid hR4
      clear HC hR4 hb4 ho4 HF
      generalize hsf : s0.found = f3 at *
      have HSF := Lib.hid hsf
      clear hsf
      obtain ⟨sf, ch⟩ := f3
      go_wp2_with ((with_reducible refine at_store 59 (.tmp 11) (.tmp 37) ?_); refine wpList_store_own rfl 59 (.tmp 11) (.tmp 37) rfl (w.heap.size + 2) _ rfl rfl _ _ HF4.out (by kernel_rfl) rfl (by simp [Value.oneCell']) (w.heap.size) (by omega) ?_)
      intro w5 hR5 ho5 hs5 hb5
      have HF5 : Hid (RowIs w5 (w.heap.size + 2) 59 #[.int .u8 ((sf.id.f 0).toNat : Int), .int .u8 ((sf.id.f 1).toNat : Int), .int .u8 ((sf.id.f 2).toNat : Int), .int .u8 ((sf.id.f 3).toNat : Int), .int .u8 ((sf.id.f 4).toNat : Int), .int .u8 ((sf.id.f 5).toNat : Int), .int .u8 ((sf.id.f 6).toNat : Int), .int .u8 ((sf.id.f 7).toNat : Int), .int .i64 sf.ma, .int .i64 sf.he, .int .i64 sf.de, .int .i64 sf.now, .int .i64 sf.chg, (.slice (some ⟨g1, 0, none⟩) zs.length cap1), .int .u8 ((sf.best.r.f 0).toNat : Int), .int .u8 ((sf.best.r.f 1).toNat : Int), .int .u8 ((sf.best.r.f 2).toNat : Int), .int .u8 ((sf.best.r.f 3).toNat : Int), .int .u8 ((sf.best.r.f 4).toNat : Int), .int .u8 ((sf.best.r.f 5).toNat : Int), .int .u8 ((sf.best.r.f 6).toNat : Int), .int .u8 ((sf.best.r.f 7).toNat : Int), .int .i64 sf.best.c, .int .u8 ((sf.best.b.f 0).toNat : Int), .int .u8 ((sf.best.b.f 1).toNat : Int), .int .u8 ((sf.best.b.f 2).toNat : Int), .int .u8 ((sf.best.b.f 3).toNat : Int), .int .u8 ((sf.best.b.f 4).toNat : Int), .int .u8 ((sf.best.b.f 5).toNat : Int), .int .u8 ((sf.best.b.f 6).toNat : Int), .int .u8 ((sf.best.b.f 7).toNat : Int), .int .i64 sf.best.p, .int .i64 sf.root]) := hR5
      have HR2 := Lib.hid (rowIs_same HR2.out (ho5 _ (by omega)))
      have HR5 := Lib.hid (HR4.out.same (ho5 _ (by omega)))
      have hbR5 := hbR4.trans hb5
      clear hR5 ho5 hs5 hb5 HF4 HR4
      go_wp2_with (first
        | ((with_reducible refine at_load 59 (.tmp 11) ?_); refine wpList_load_midW rfl 59 (.tmp 11) rfl (w.heap.size + 2) (0) rfl [.int .u8 ((sf.id.f 0).toNat : Int), .int .u8 ((sf.id.f 1).toNat : Int), .int .u8 ((sf.id.f 2).toNat : Int), .int .u8 ((sf.id.f 3).toNat : Int), .int .u8 ((sf.id.f 4).toNat : Int), .int .u8 ((sf.id.f 5).toNat : Int), .int .u8 ((sf.id.f 6).toNat : Int), .int .u8 ((sf.id.f 7).toNat : Int), .int .i64 sf.ma, .int .i64 sf.he, .int .i64 sf.de, .int .i64 sf.now, .int .i64 sf.chg, (.slice (some ⟨g1, 0, none⟩) zs.length cap1), .int .u8 ((sf.best.r.f 0).toNat : Int), .int .u8 ((sf.best.r.f 1).toNat : Int), .int .u8 ((sf.best.r.f 2).toNat : Int), .int .u8 ((sf.best.r.f 3).toNat : Int), .int .u8 ((sf.best.r.f 4).toNat : Int), .int .u8 ((sf.best.r.f 5).toNat : Int), .int .u8 ((sf.best.r.f 6).toNat : Int), .int .u8 ((sf.best.r.f 7).toNat : Int), .int .i64 sf.best.c, .int .u8 ((sf.best.b.f 0).toNat : Int), .int .u8 ((sf.best.b.f 1).toNat : Int), .int .u8 ((sf.best.b.f 2).toNat : Int), .int .u8 ((sf.best.b.f 3).toNat : Int), .int .u8 ((sf.best.b.f 4).toNat : Int), .int .u8 ((sf.best.b.f 5).toNat : Int), .int .u8 ((sf.best.b.f 6).toNat : Int), .int .u8 ((sf.best.b.f 7).toNat : Int), .int .i64 sf.best.p, .int .i64 sf.root] _ (range_of_row HF5.out rfl) Try.underlying59 rfl (by kernel_rfl) ?_)
        | ((with_reducible refine at_store 59 (.tmp 10) (.tmp 39) ?_); refine wpList_store_own rfl 59 (.tmp 10) (.tmp 39) rfl (w.heap.size + 1) _ rfl rfl _ _ HR2.out (by kernel_rfl) rfl (by simp [Value.oneCell']) (w.heap.size) (by omega) ?_))
      intro we hRe hoe hse hbe
      have HRE : Hid (RowIs we (w.heap.size + 1) 59 #[.int .u8 ((sf.id.f 0).toNat : Int), .int .u8 ((sf.id.f 1).toNat : Int), .int .u8 ((sf.id.f 2).toNat : Int), .int .u8 ((sf.id.f 3).toNat : Int), .int .u8 ((sf.id.f 4).toNat : Int), .int .u8 ((sf.id.f 5).toNat : Int), .int .u8 ((sf.id.f 6).toNat : Int), .int .u8 ((sf.id.f 7).toNat : Int), .int .i64 sf.ma, .int .i64 sf.he, .int .i64 sf.de, .int .i64 sf.now, .int .i64 sf.chg, (.slice (some ⟨g1, 0, none⟩) zs.length cap1), .int .u8 ((sf.best.r.f 0).toNat : Int), .int .u8 ((sf.best.r.f 1).toNat : Int), .int .u8 ((sf.best.r.f 2).toNat : Int), .int .u8 ((sf.best.r.f 3).toNat : Int), .int .u8 ((sf.best.r.f 4).toNat : Int), .int .u8 ((sf.best.r.f 5).toNat : Int), .int .u8 ((sf.best.r.f 6).toNat : Int), .int .u8 ((sf.best.r.f 7).toNat : Int), .int .i64 sf.best.c, .int .u8 ((sf.best.b.f 0).toNat : Int), .int .u8 ((sf.best.b.f 1).toNat : Int), .int .u8 ((sf.best.b.f 2).toNat : Int), .int .u8 ((sf.best.b.f 3).toNat : Int), .int .u8 ((sf.best.b.f 4).toNat : Int), .int .u8 ((sf.best.b.f 5).toNat : Int), .int .u8 ((sf.best.b.f 6).toNat : Int), .int .u8 ((sf.best.b.f 7).toNat : Int), .int .i64 sf.best.p, .int .i64 sf.root]) := hRe
      have hRA := (HR5.out.same (hoe _ (by omega))).lower (show w.heap.size ≤ w.heap.size + 3 by omega)
      have hbf := hbR5.trans hbe
      clear hRe hoe hse hbe
      go_wp2_with fail
      refine bodyPost_ret (results_row Try.results17 _ _ (w.heap.size + 1) _ _ _ rfl HRE.out Try.underlying59 rfl (by kernel_rfl)) rfl ?_
      rw [HS0.out, HSF.out]
      exact ⟨g1, cap1, rfl, hRA, hbf⟩
end Go.Proofs.Ytdhiaidbpjjljaa
