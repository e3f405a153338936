/- SpanPair: the walk. By an AI agent. -/
import Derived.Test.YtnpoholeemcklaaSpanPair1
namespace Go.Proofs.Ytnpoholeemcklaa
open Go.RowKit Go.WideShapes Go.Sort Grow

set_option maxRecDepth 100000 in
set_option maxHeartbeats 16000000 in
theorem spanPair_go (a b : Id8) (hab : a ≠ b) (ta tb tc : UInt8) (n : Int) (hn : 0 ≤ n ∧ n ≤ 255) (w : World) :
    Calls Try.prog 7 #[.agg #[.int .u8 ((a.f 0).toNat : Int), .int .u8 ((a.f 1).toNat : Int), .int .u8 ((a.f 2).toNat : Int), .int .u8 ((a.f 3).toNat : Int), .int .u8 ((a.f 4).toNat : Int), .int .u8 ((a.f 5).toNat : Int), .int .u8 ((a.f 6).toNat : Int), .int .u8 ((a.f 7).toNat : Int)], .agg #[.int .u8 ((b.f 0).toNat : Int), .int .u8 ((b.f 1).toNat : Int), .int .u8 ((b.f 2).toNat : Int), .int .u8 ((b.f 3).toNat : Int), .int .u8 ((b.f 4).toNat : Int), .int .u8 ((b.f 5).toNat : Int), .int .u8 ((b.f 6).toNat : Int), .int .u8 ((b.f 7).toNat : Int)], .agg #[.int .u8 (ta.toNat : Int), .int .u8 (tb.toNat : Int), .int .u8 (tc.toNat : Int)], .int .u8 n] w fun e w' => e = .returned (.bool true) ∧ Below w.heap.size w w' := by
  have hta : (ta.toNat : Int) < 256 := by have := ta.toNat_lt; omega
  have htb : (tb.toNat : Int) < 256 := by have := tb.toNat_lt; omega
  have htc : (tc.toNat : Int) < 256 := by have := tc.toNat_lt; omega
  obtain ⟨hn1, hn2⟩ := hn
  have m1 : ∀ w, (Op.equalIn 10000 23 (.agg #[.int .u8 ((a.f 0).toNat : Int), .int .u8 ((a.f 1).toNat : Int), .int .u8 ((a.f 2).toNat : Int), .int .u8 ((a.f 3).toNat : Int), .int .u8 ((a.f 4).toNat : Int), .int .u8 ((a.f 5).toNat : Int), .int .u8 ((a.f 6).toNat : Int), .int .u8 ((a.f 7).toNat : Int)]) (.agg #[.int .u8 ((b.f 0).toNat : Int), .int .u8 ((b.f 1).toNat : Int), .int .u8 ((b.f 2).toNat : Int), .int .u8 ((b.f 3).toNat : Int), .int .u8 ((b.f 4).toNat : Int), .int .u8 ((b.f 5).toNat : Int), .int .u8 ((b.f 6).toNat : Int), .int .u8 ((b.f 7).toNat : Int)])).run Try.prog w = .ok false w := fun w => by
    have h := run_equalIn_bid 9998 a.f b.f w
    rw [eqB_id, decide_eq_false hab] at h
    exact h
  have HAB := Lib.hid hab
  clear hab
  go_enter Try.func7, Try.ntmps7
  go_upto_region 1 with fail
  generalize hW : ((w.alloc _).alloc _).alloc _ = W
  have hbW : Below w.heap.size w W := by rw [← hW]; exact BX3 w _ _ _
  have RA : Hid (RowIs W w.heap.size 23 #[.int .u8 ((a.f 0).toNat : Int), .int .u8 ((a.f 1).toNat : Int), .int .u8 ((a.f 2).toNat : Int), .int .u8 ((a.f 3).toNat : Int), .int .u8 ((a.f 4).toNat : Int), .int .u8 ((a.f 5).toNat : Int), .int .u8 ((a.f 6).toNat : Int), .int .u8 ((a.f 7).toNat : Int)]) := by subst hW; exact ((rowIs_new w _ _).alloc _).alloc _
  have RB : Hid (RowIs W (w.heap.size + 1) 23 #[.int .u8 ((b.f 0).toNat : Int), .int .u8 ((b.f 1).toNat : Int), .int .u8 ((b.f 2).toNat : Int), .int .u8 ((b.f 3).toNat : Int), .int .u8 ((b.f 4).toNat : Int), .int .u8 ((b.f 5).toNat : Int), .int .u8 ((b.f 6).toNat : Int), .int .u8 ((b.f 7).toNat : Int)]) := by subst hW; exact (rowIs_new1 w _ _ _).alloc _
  have RT : Hid (RowIs W (w.heap.size + 2) 24 #[.int .u8 (ta.toNat : Int), .int .u8 (tb.toNat : Int), .int .u8 (tc.toNat : Int)]) := by subst hW; exact rowIs_new2 w _ _ _ _
  clear hW
  go_wp2_with fail
  refine (awake_any _).mono ?_
  rintro e w1 ⟨rfl, hb1⟩
  have hbW1 := hbW.trans (hb1.mono hbW.size)
  have RA1 := Lib.hid (RA.out.kept hb1)
  have RB1 := Lib.hid (RB.out.kept hb1)
  have RT1 := Lib.hid (RT.out.kept hb1)
  clear RA RB RT hbW hb1
  go_upto_region 3 with (first
    | ((with_reducible refine at_load 23 (.tmp 4) ?_); refine wpList_load_own rfl 23 (.tmp 4) rfl (w.heap.size) rfl _ _ _ RA1.out Try.underlying23 rfl (by kernel_rfl) ?_)
    | ((with_reducible refine at_load 23 (.tmp 5) ?_); refine wpList_load_own rfl 23 (.tmp 5) rfl (w.heap.size + 1) rfl _ _ _ RB1.out Try.underlying23 rfl (by kernel_rfl) ?_))
  clear m1
  have k1 := cell_regrown (show w1.cell? ⟨w.heap.size + 2, 1, none⟩ = some (.int .u8 (tb.toNat : Int)) from RT1.out.cell 1)
  have k2 := cell_regrown (show w1.cell? ⟨w.heap.size + 2, 2, none⟩ = some (.int .u8 (tc.toNat : Int)) from RT1.out.cell 2)
  have x1 : IntKind.i64.wrap (tb.toNat : Int) = (tb.toNat : Int) := IntWalk.i64_in _ (by omega)
  have x2 : IntKind.i64.wrap (tc.toNat : Int) = (tc.toNat : Int) := IntWalk.i64_in _ (by omega)
  have x3 : (tb.toNat : Int).tmod 3 = (tb.toNat : Int) % 3 := Int.tmod_eq_emod_of_nonneg (by omega)
  have x4 : (tc.toNat : Int).tmod 6 = (tc.toNat : Int) % 6 := Int.tmod_eq_emod_of_nonneg (by omega)
  have x5 : IntKind.i64.wrap (1 + (tb.toNat : Int) % 3) = 1 + (tb.toNat : Int) % 3 := IntWalk.i64_in _ (by omega)
  have x6 : IntKind.i64.wrap (1 + (tc.toNat : Int) % 6) = 1 + (tc.toNat : Int) % 6 := IntWalk.i64_in _ (by omega)
  refine wp_region_mix 12 (by kernel_rfl) (by kernel_rfl) (by kernel_rfl) ?_
  (refine mix_step (by kernel_rfl) (by kernel_rfl) (fun K hK => ?_); go_simp; (try (simp only [↓IntWalk.iteOmega]; go_simp)); (first | (refine hK _ ?_; clear hK K) | (apply Exists.intro; refine ⟨fun _ => ?_, hK _ ?_⟩; (first | fail); clear hK K)))
  (refine mix_step (by kernel_rfl) (by kernel_rfl) (fun K hK => ?_); go_simp; (try (simp only [↓IntWalk.iteOmega]; go_simp)); (first | (refine hK _ ?_; clear hK K) | (apply Exists.intro; refine ⟨fun _ => ?_, hK _ ?_⟩; (first | fail); clear hK K)))
  (refine mix_step (by kernel_rfl) (by kernel_rfl) (fun K hK => ?_); go_simp; (try (simp only [↓IntWalk.iteOmega]; go_simp)); (first | (refine hK _ ?_; clear hK K) | (apply Exists.intro; refine ⟨fun _ => ?_, hK _ ?_⟩; (first | fail); clear hK K)))
  (refine mix_step (by kernel_rfl) (by kernel_rfl) (fun K hK => ?_); go_simp; (try (simp only [↓IntWalk.iteOmega]; go_simp)); (first | (refine hK _ ?_; clear hK K) | (apply Exists.intro; refine ⟨fun _ => ?_, hK _ ?_⟩; (first | fail); clear hK K)))
  (refine mix_step (by kernel_rfl) (by kernel_rfl) (fun K hK => ?_); go_simp; (try (simp only [↓IntWalk.iteOmega]; go_simp)); (first | (refine hK _ ?_; clear hK K) | (apply Exists.intro; refine ⟨fun _ => ?_, hK _ ?_⟩; (first | fail); clear hK K)))
  (refine mix_step (by kernel_rfl) (by kernel_rfl) (fun K hK => ?_); go_simp; (try (simp only [↓IntWalk.iteOmega]; go_simp)); (first | (refine hK _ ?_; clear hK K) | (apply Exists.intro; refine ⟨fun _ => ?_, hK _ ?_⟩; (first | fail); clear hK K)))
  (refine mix_step (by kernel_rfl) (by kernel_rfl) (fun K hK => ?_); go_simp; (try (simp only [↓IntWalk.iteOmega]; go_simp)); (first | (refine hK _ ?_; clear hK K) | (apply Exists.intro; refine ⟨fun _ => ?_, hK _ ?_⟩; (first | fail); clear hK K)))
  (refine mix_step (by kernel_rfl) (by kernel_rfl) (fun K hK => ?_); go_simp; (try (simp only [↓IntWalk.iteOmega]; go_simp)); (first | (refine hK _ ?_; clear hK K) | (apply Exists.intro; refine ⟨fun _ => ?_, hK _ ?_⟩; (first | fail); clear hK K)))
  (refine mix_step (by kernel_rfl) (by kernel_rfl) (fun K hK => ?_); go_simp; (try (simp only [↓IntWalk.iteOmega]; go_simp)); (first | (refine hK _ ?_; clear hK K) | (apply Exists.intro; refine ⟨fun _ => ?_, hK _ ?_⟩; (first | fail); clear hK K)))
  (refine mix_step (by kernel_rfl) (by kernel_rfl) (fun K hK => ?_); go_simp; (try (simp only [↓IntWalk.iteOmega]; go_simp)); (first | (refine hK _ ?_; clear hK K) | (apply Exists.intro; refine ⟨fun _ => ?_, hK _ ?_⟩; (first | fail); clear hK K)))
  (refine mix_step (by kernel_rfl) (by kernel_rfl) (fun K hK => ?_); go_simp; (try (simp only [↓IntWalk.iteOmega]; go_simp)); (first | (refine hK _ ?_; clear hK K) | (apply Exists.intro; refine ⟨fun _ => ?_, hK _ ?_⟩; (first | fail); clear hK K)))
  (refine mix_step (by kernel_rfl) (by kernel_rfl) (fun K hK => ?_); go_simp; (try (simp only [↓IntWalk.iteOmega]; go_simp)); (first | (refine hK _ ?_; clear hK K) | (apply Exists.intro; refine ⟨fun _ => ?_, hK _ ?_⟩; (first | fail); clear hK K)))
  refine mix_nil ?_
  rintro ⟨dq, osq⟩
  have hb2 := below_regrown w1 dq osq
  refine (show wpList _ _ _ _ _ _ from ?_)
  simp only [List.drop, Act.put, List.setIfInBounds_toArray, List.set]
  clear k1 k2 x1 x2 x3 x4 x5 x6
  have RA2 := Lib.hid (RA1.out.kept hb2)
  have RB2 := Lib.hid (RB1.out.kept hb2)
  have RT2 := Lib.hid (RT1.out.kept hb2)
  have hbW2 := hbW1.trans (hb2.mono hbW1.size)
  clear RA1 RB1 RT1 hbW1 hb2
  generalize grow (redrawn w1 dq) osq = w2 at *
  obtain ⟨H, hH⟩ : ∃ H : Nat, 1 + (tb.toNat : Int) % 3 = H := ⟨(1 + (tb.toNat : Int) % 3).toNat, by omega⟩
  obtain ⟨D, hD⟩ : ∃ D : Nat, 1 + (tc.toNat : Int) % 6 = D := ⟨(1 + (tc.toNat : Int) % 6).toNat, by omega⟩
  rw [hH, hD]
  have hHa : 1 ≤ H := by omega
  have hHb : H ≤ 3 := by omega
  have hDa : 1 ≤ D := by omega
  have hDb : D ≤ 6 := by omega
  clear hH hD htb htc
  obtain ⟨M, hM⟩ : ∃ M : Int, 2 * (H : Int) + 3 + (ta.toNat : Int) % 20 = M := ⟨_, rfl⟩
  have hMa : 2 * (H : Int) + 3 ≤ M := by omega
  have hMb : M ≤ 40 := by omega
  have HMM := Lib.hid hM
  have c0 : w2.cell? ⟨w.heap.size + 2, 0, none⟩ = some (.int .u8 (ta.toNat : Int)) := RT2.out.cell 0
  have hokA : newOk [10, 20] M H D = true := by
    unfold newOk rightT
    rw [show anyBad [10, 20] = false by decide]
    simp only [List.length_cons, List.length_nil, Bool.not_false, Bool.and_true, Bool.and_eq_true, decide_eq_true_eq]
    omega
  have hokB : newOk [20, 10] M H D = true := by
    unfold newOk rightT
    rw [show anyBad [20, 10] = false by decide]
    simp only [List.length_cons, List.length_nil, Bool.not_false, Bool.and_true, Bool.and_eq_true, decide_eq_true_eq]
    omega
  have HNA := Lib.hid (fun (ao : Option Addr) (w' : World) (h : IntsAt w' ao [10, 20]) => show Calls Try.prog 10 #[.agg #[.int .u8 ((a.f 0).toNat : Int), .int .u8 ((a.f 1).toNat : Int), .int .u8 ((a.f 2).toNat : Int), .int .u8 ((a.f 3).toNat : Int), .int .u8 ((a.f 4).toNat : Int), .int .u8 ((a.f 5).toNat : Int), .int .u8 ((a.f 6).toNat : Int), .int .u8 ((a.f 7).toNat : Int)], .slice ao 2 2, .agg #[.int .i64 M, .int .i64 (H : Nat), .int .i64 (D : Nat)]] w' fun e w'' => ∃ S g cp pbs, e = .returned (.tuple #[.pointer (some ⟨S, 0, none⟩), .int .i64 0]) ∧ SpAt w'.heap.size S g cp pbs w'' (SS.fresh a [10, 20] M H D).found.1 ∧ Below w'.heap.size w' w'' from new_good a ao [10, 20] 2 M H D w' h hokA)
  have HNB := Lib.hid (fun (ao : Option Addr) (w' : World) (h : IntsAt w' ao [20, 10]) => show Calls Try.prog 10 #[.agg #[.int .u8 ((b.f 0).toNat : Int), .int .u8 ((b.f 1).toNat : Int), .int .u8 ((b.f 2).toNat : Int), .int .u8 ((b.f 3).toNat : Int), .int .u8 ((b.f 4).toNat : Int), .int .u8 ((b.f 5).toNat : Int), .int .u8 ((b.f 6).toNat : Int), .int .u8 ((b.f 7).toNat : Int)], .slice ao 2 2, .agg #[.int .i64 M, .int .i64 (H : Nat), .int .i64 (D : Nat)]] w' fun e w'' => ∃ S g cp pbs, e = .returned (.tuple #[.pointer (some ⟨S, 0, none⟩), .int .i64 0]) ∧ SpAt w'.heap.size S g cp pbs w'' (SS.fresh b [20, 10] M H D).found.1 ∧ Below w'.heap.size w' w'' from new_good b ao [20, 10] 2 M H D w' h hokB)
  have HOKA := Lib.hid (SS.Ok.fresh (id := a) hokA)
  have HOKB := Lib.hid (SS.Ok.fresh (id := b) hokB)
  have HLA := Lib.hid (lo_start a 10 20 M H D 1 (by decide) hDa rfl)
  have HLB := Lib.hid (lo_start b 20 10 M H D 0 (by decide) hDa rfl)
  have RN0 : RowIs (w2.alloc (.cells #[.int .i64 0, .int .i64 0, .int .i64 0] 32)) w2.heap.size 32 #[.int .i64 0, .int .i64 0, .int .i64 0] := rowIs_new w2 _ _
  have hbN0 : Below w2.heap.size w2 (w2.alloc (.cells #[.int .i64 0, .int .i64 0, .int .i64 0] 32)) := (Below.refl _ _).alloc (Nat.le_refl _) _
  clear hM hokA hokB
  go_upto_region 4 with fail
  go_wp2_with ((with_reducible refine at_store 32 (.tmp 11) (.tmp 56) ?_); refine wpList_store_own rfl 32 (.tmp 11) (.tmp 56) rfl (w2.heap.size) _ rfl rfl _ _ RN0 (by kernel_rfl) rfl (by simp [Value.oneCell']) w2.heap.size (Nat.le_refl _) ?_)
  intro w3 hR3 ho3 hs3 hb3
  rw [HMM.out] at hR3
  have RM3 := Lib.hid hR3
  have hb3 := hbN0.trans hb3
  have RA3 := Lib.hid (RA2.out.kept hb3)
  have RB3 := Lib.hid (RB2.out.kept hb3)
  have hbW3 := hbW2.trans (hb3.mono hbW2.size)
  have htm : w.heap.size + 2 < w2.heap.size := RT2.out.lt
  clear RN0 hbN0 hR3 ho3 hs3 hb3 RA2 RB2 RT2 hbW2 c0 hta HMM
  generalize w2.heap.size = tm at *
  have hbS : Below w3.heap.size w3 (w3.alloc (.cells #[.int .i64 10, .int .i64 20] 3)) := (Below.refl _ _).alloc (Nat.le_refl _) _
  have HI3 : Hid (IntsAt (w3.alloc (.cells #[.int .i64 10, .int .i64 20] 3)) (some ⟨w3.heap.size, 0, none⟩) [10, 20]) := by
    refine .inr ⟨w3.heap.size, 0, rfl, fun i hi => ?_⟩
    have hi : i < 2 := hi
    rcases (show i = 0 ∨ i = 1 from by omega) with rfl | rfl
    · exact (rowIs_new w3 3 #[.int .i64 10, .int .i64 20]).cell 0
    · exact (rowIs_new w3 3 #[.int .i64 10, .int .i64 20]).cell 1
  have RM3' := Lib.hid (RM3.out.kept hbS)
  go_upto_region 5 with fail
  go_wp2_with (first
    | ((with_reducible refine at_load 23 (.tmp 4) ?_); refine wpList_load_own rfl 23 (.tmp 4) rfl (w.heap.size) rfl _ _ _ RA3.out Try.underlying23 rfl (by kernel_rfl) ?_)
    | ((with_reducible refine at_load 32 (.tmp 11) ?_); refine wpList_load_own rfl 32 (.tmp 11) rfl (tm) rfl _ _ _ RM3'.out Try.underlying32 rfl (by kernel_rfl) ?_))
  refine (HNA.out _ _ HI3.out).mono ?_
  rintro e w4 ⟨Sx, gx, cx, pbx, rfl, hA4, hb4⟩
  have HX4 := Lib.hid hA4
  have hb4' := hbS.trans (hb4.mono hbS.size)
  have RA4 := Lib.hid (RA3.out.kept hb4')
  have RB4 := Lib.hid (RB3.out.kept hb4')
  have RM4 := Lib.hid (RM3.out.kept hb4')
  have hbW4 := hbW3.trans (hb4'.mono hbW3.size)
  have hBx3 : w.heap.size + 2 < (w3.alloc (.cells #[.int .i64 10, .int .i64 20] 3)).heap.size := by
    have := RM3'.out.lt
    omega
  clear hA4 hb4 hb4' hbS HI3 RM3' RA3 RB3 RM3 hbW3 HNA
  generalize (w3.alloc (.cells #[.int .i64 10, .int .i64 20] 3)).heap.size = Bx at *
  have hbS : Below w4.heap.size w4 (w4.alloc (.cells #[.int .i64 20, .int .i64 10] 3)) := (Below.refl _ _).alloc (Nat.le_refl _) _
  have HI4 : Hid (IntsAt (w4.alloc (.cells #[.int .i64 20, .int .i64 10] 3)) (some ⟨w4.heap.size, 0, none⟩) [20, 10]) := by
    refine .inr ⟨w4.heap.size, 0, rfl, fun i hi => ?_⟩
    have hi : i < 2 := hi
    rcases (show i = 0 ∨ i = 1 from by omega) with rfl | rfl
    · exact (rowIs_new w4 3 #[.int .i64 20, .int .i64 10]).cell 0
    · exact (rowIs_new w4 3 #[.int .i64 20, .int .i64 10]).cell 1
  have RM4' := Lib.hid (RM4.out.kept hbS)
  go_upto_region 6 with fail
  go_wp2_with (first
    | ((with_reducible refine at_load 23 (.tmp 5) ?_); refine wpList_load_own rfl 23 (.tmp 5) rfl (w.heap.size + 1) rfl _ _ _ RB4.out Try.underlying23 rfl (by kernel_rfl) ?_)
    | ((with_reducible refine at_load 32 (.tmp 11) ?_); refine wpList_load_own rfl 32 (.tmp 11) rfl (tm) rfl _ _ _ RM4'.out Try.underlying32 rfl (by kernel_rfl) ?_))
  refine (HNB.out _ _ HI4.out).mono ?_
  rintro e w5 ⟨Sy, gy, cy, pby, rfl, hA5, hb5⟩
  have HY5 := Lib.hid hA5
  have hb5' := hbS.trans (hb5.mono hbS.size)
  have RA5 := Lib.hid (RA4.out.kept hb5')
  have RB5 := Lib.hid (RB4.out.kept hb5')
  have HX5 := Lib.hid (HX4.out.later hb5')
  have hbW5 := hbW4.trans (hb5'.mono hbW4.size)
  have HXB : Hid (∀ q ∈ Sx :: pbx, q < (w4.alloc (.cells #[.int .i64 20, .int .i64 10] 3)).heap.size) := fun q hq => by
    have hl := HX4.out.lt
    have := hbS.size
    rcases List.mem_cons.1 hq with e | e
    · omega
    · have := hl.2 _ e
      omega
  have HLX : Hid (Sx < (w4.alloc (.cells #[.int .i64 20, .int .i64 10] 3)).heap.size ∧ gx < (w4.alloc (.cells #[.int .i64 20, .int .i64 10] 3)).heap.size ∧ ∀ q ∈ pbx, q < (w4.alloc (.cells #[.int .i64 20, .int .i64 10] 3)).heap.size) :=
    ⟨HXB.out _ (by simp), Nat.lt_of_lt_of_le HX4.out.glt hbS.size, fun q hq => HXB.out q (by simp [hq])⟩
  have hBxy : Bx ≤ (w4.alloc (.cells #[.int .i64 20, .int .i64 10] 3)).heap.size := Nat.le_trans HX4.out.hB (Nat.le_of_lt HLX.out.1)
  clear hA5 hb5 hb5' hbS HI4 RM4' RA4 RB4 RM4 hbW4 HNB HX4
  generalize (w4.alloc (.cells #[.int .i64 20, .int .i64 10] 3)).heap.size = By at *
  generalize (SS.fresh a [10, 20] M H D).found.1 = x0 at *
  generalize (SS.fresh b [20, 10] M H D).found.1 = y0 at *
  have RN : RowIs (w5.alloc (.cells #[.pointer none, .pointer none] 60)) w5.heap.size 60 #[.pointer none, .pointer none] := rowIs_new w5 _ _
  have hbN : Below w5.heap.size w5 (w5.alloc (.cells #[.pointer none, .pointer none] 60)) := (Below.refl _ _).alloc (Nat.le_refl _) _
  go_wp2_with ((with_reducible refine at_store 60 (.tmp 16) (.tmp 79) ?_); refine wpList_store_own rfl 60 (.tmp 16) (.tmp 79) rfl (w5.heap.size) _ rfl rfl _ _ RN (by kernel_rfl) rfl (by simp [Value.oneCell']) w5.heap.size (Nat.le_refl _) ?_)
  intro w6 hR6 ho6 hs6 hb6
  have hb6 := hbN.trans hb6
  have RL6 := Lib.hid hR6
  have HX6 := Lib.hid (HX5.out.later hb6)
  have HY6 := Lib.hid (HY5.out.later hb6)
  have RA6 := Lib.hid (RA5.out.kept hb6)
  have RB6 := Lib.hid (RB5.out.kept hb6)
  have hbW6 := hbW5.trans (hb6.mono hbW5.size)
  have HLBX : Hid (w5.heap.size ∉ Sx :: pbx) := fun hm => by
    have hl := HX5.out.lt
    rcases List.mem_cons.1 hm with e | e
    · omega
    · have := hl.2 _ e
      omega
  have HLBY : Hid (w5.heap.size ∉ Sy :: pby) := fun hm => by
    have hl := HY5.out.lt
    rcases List.mem_cons.1 hm with e | e
    · omega
    · have := hl.2 _ e
      omega
  clear RN hbN hR6 ho6 hs6 hb6 HX5 HY5 RA5 RB5 hbW5
  generalize w5.heap.size = lb at *
  have HST := Lib.hid (set_any Bx Sx gx cx pbx w6 x0 HX6.out 100 HOKA.out (by decide) 1 (by decide) true)
  go_wp2_with fail
  refine HST.out.mono ?_
  rintro e w7 ⟨v, rfl, _, hA7, hb7, ho7⟩
  have HX7 := Lib.hid hA7
  have HY7 := Lib.hid (HY6.out.beside ho7 HXB.out)
  have RL7 : Hid (RowIs w7 lb 60 #[.pointer (some ⟨Sx, 0, none⟩), .pointer (some ⟨Sy, 0, none⟩)]) := rowIs_same RL6.out (ho7.2 _ RL6.out.lt HLBX.out)
  have hbX7 : Below Bx w6 w7 := hb7
  clear hA7 hb7 ho7 HST HX6 HY6 RL6
  have HST := Lib.hid (set_any By Sy gy cy pby w7 y0 HY7.out 100 HOKB.out (by decide) 0 (by decide) true)
  go_wp2_with fail
  refine HST.out.mono ?_
  rintro e w8 ⟨v8, rfl, _, hA8, hb8, ho8⟩
  have HY8 := Lib.hid hA8
  have HX8 := Lib.hid (HX7.out.under HLX.out.1 HLX.out.2.1 HLX.out.2.2 hb8)
  have RL8 : Hid (RowIs w8 lb 60 #[.pointer (some ⟨Sx, 0, none⟩), .pointer (some ⟨Sy, 0, none⟩)]) := rowIs_same RL7.out (ho8.2 _ RL7.out.lt HLBY.out)
  have hbX8 : Below Bx w6 w8 := hbX7.trans (hb8.mono hBxy)
  have HPP0 : Hid (PP a b M H D 0 (x0.setUp 1 true).1 (y0.setUp 0 true).1) := by
    rcases Ord.lt_total a.l b.l (fun e => HAB.out (Id8.ext_l e)) with ho | ho
    · exact .inl ⟨ho, HLA.out.1, .inl ⟨by omega, HLB.out.1, HLB.out.2⟩⟩
    · exact .inr ⟨ho, HLB.out.1, .inl ⟨by omega, HLA.out.1, HLA.out.2, HLB.out.2⟩⟩
  have HOX0 : Hid ((x0.setUp 1 true).1.Ok ((200 : Nat) : Int)) := HOKA.out.setUp 1 true
  have HOY0 : Hid ((y0.setUp 0 true).1.Ok ((200 : Nat) : Int)) := HOKB.out.setUp 0 true
  clear hA8 hb8 ho8 HST HX7 HY7 RL7 hbX7 HLA HLB HOKA HOKB
  generalize (x0.setUp 1 true).1 = x1 at *
  generalize (y0.setUp 0 true).1 = y1 at *
  obtain ⟨N, hN⟩ : ∃ N : Nat, 2 * (D : Int) + 3 + n % 30 = N := ⟨(2 * (D : Int) + 3 + n % 30).toNat, by omega⟩
  have hN1 : 2 * D + 3 ≤ N := by omega
  have hN2 : N ≤ 50 := by omega
  have HN := Lib.hid hN
  clear hN
  go_wp2_with fail
  go_loopw [17] (fun s17 wr => ∃ (i : Nat) (x y : SS) (nx ny : Nat), i ≤ N ∧ s17 = .int .i64 i ∧ nx ≤ 200 + 1000 * i ∧ ny ≤ 200 + 1000 * i ∧ Hid (PP a b M H D i x y) ∧ Hid (SpAt Bx Sx gx cx pbx wr x) ∧ Hid (SpAt By Sy gy cy pby wr y) ∧ Hid (x.Ok ((nx : Nat) : Int)) ∧ Hid (y.Ok ((ny : Nat) : Int)) ∧ Hid (RowIs wr lb 60 #[.pointer (some ⟨Sx, 0, none⟩), .pointer (some ⟨Sy, 0, none⟩)]) ∧ Below Bx w6 wr) (fun s17 _ => N - (intOf s17).toNat)
  case atStart => exact ⟨0, x1, y1, 200, 200, Nat.zero_le _, rfl, by omega, by omega, HPP0, HX8, HY8, HOX0, HOY0, RL8, hbX8⟩
  case round =>
    clear HX8 HY8 HOX0 HOY0 RL8 hbX8 HPP0
    rename World => wr
    obtain ⟨i, x, y, nx, ny, hi, rfl, hnx, hny, HPP, HX, HY, HOX, HOY, RL, hbR⟩ := hrel
    by_cases hlt : i < N
    · have g1 : decide ((i : Int) < 2 * (D : Int) + 3 + n % 30) = true := decide_eq_true (by have := HN.out; omega)
      have HKS : Hid (KS a b M H D i 0 x y) := by
        show KS _ _ _ _ _ _ _ _ _
        unfold KS
        rw [if_pos rfl]
        exact HPP.out
      clear HPP
      go_wp2_with fail
      clear g1
      go_loopw [18] (fun s18 wk => ∃ (k : Nat) (x y : SS) (nx ny : Nat), k ≤ 2 ∧ s18 = .int .i64 k ∧ nx ≤ 200 + 1000 * i + 500 * k ∧ ny ≤ 200 + 1000 * i + 500 * k ∧ Hid (KS a b M H D i k x y) ∧ Hid (SpAt Bx Sx gx cx pbx wk x) ∧ Hid (SpAt By Sy gy cy pby wk y) ∧ Hid (x.Ok ((nx : Nat) : Int)) ∧ Hid (y.Ok ((ny : Nat) : Int)) ∧ Hid (RowIs wk lb 60 #[.pointer (some ⟨Sx, 0, none⟩), .pointer (some ⟨Sy, 0, none⟩)]) ∧ Below Bx w6 wk) (fun s18 _ => 2 - (intOf s18).toNat)
      case atStart => exact ⟨0, x, y, nx, ny, Nat.zero_le _, rfl, by omega, by omega, HKS, HX, HY, HOX, HOY, RL, hbR⟩
      case round =>
        clear HX HY HOX HOY RL hbR HKS hnx hny
        clear nx ny x y
        rename World => wk
        obtain ⟨k, x, y, nx, ny, hk, rfl, hnx, hny, HKS, HX, HY, HOX, HOY, RL, hbR⟩ := hrel
        by_cases hk2 : k < 2
        · go_upto_region 18 with fail
          go_cut [19] (fun v wx => ∃ (la : Option Addr) (lc : Nat) (out : List SO) (m : Nat) (x y : SS) (nx ny : Nat), v = .slice la out.length lc ∧ m ≤ 2 ∧ nx ≤ 200 + 1000 * i + 500 * k + 300 ∧ ny ≤ 200 + 1000 * i + 500 * k + 300 ∧ Hid (Ph (FinK a b M H D i k) m x y k out) ∧ Hid (ManyAt wx la SO.cells 25 out) ∧ out.length ≤ lc ∧ Hid (SpAt Bx Sx gx cx pbx wx x) ∧ Hid (SpAt By Sy gy cy pby wx y) ∧ Hid (x.Ok ((nx : Nat) : Int)) ∧ Hid (y.Ok ((ny : Nat) : Int)) ∧ Hid (RowIs wx lb 60 #[.pointer (some ⟨Sx, 0, none⟩), .pointer (some ⟨Sy, 0, none⟩)]) ∧ Below Bx w6 wx)
          case first =>
            rcases (show k = 0 ∨ k = 1 from by omega) with rfl | rfl
            · have HPP : Hid (PP a b M H D i x y) := HKS.out
              obtain ⟨m, hm, hph⟩ := pp_first hHa (by omega) hDa (by omega) hMa (by omega) HPP.out
              have HPH := Lib.hid hph
              have c0 : wk.cell? ⟨lb, 0, none⟩ = some (.pointer (some ⟨Sx, 0, none⟩)) := RL.out.cell 0
              have HTK := Lib.hid (tick_any Bx Sx gx cx pbx wk x HX.out _ HOX.out (by omega))
              have HOX2 : Hid (x.ticked.Ok ((nx + 300 : Nat) : Int)) := by
                have := HOX.out.ticked
                rw [Int.natCast_add]
                exact this
              clear hph HPP HKS
              go_wp2_with fail
              refine HTK.out.mono ?_
              rintro e wa ⟨v, rfl, hO, hA, hb, ho⟩
              have HXa : Hid (SpAt Bx Sx gx cx pbx wa x.ticked) := hA
              have HYa := Lib.hid (HY.out.beside ho HXB.out)
              have RLa : Hid (RowIs wa lb 60 #[.pointer (some ⟨Sx, 0, none⟩), .pointer (some ⟨Sy, 0, none⟩)]) := rowIs_same RL.out (ho.2 _ RL.out.lt HLBX.out)
              have hbRa := hbR.trans hb
              obtain ⟨la, lc, rfl, hM, hcap⟩ := hO.cap
              have HMa := Lib.hid hM
              clear hO hA hb ho hM HTK HX HY RL hbR c0 HOX
              go_wp2_with fail
              go_meet
              exact ⟨la, lc, _, m, _, _, nx + 300, ny, rfl, hm, by omega, by omega, HPH, HMa, hcap, HXa, HYa, HOX2, HOY, RLa, hbRa⟩
            · have HPP : Hid (MM a b M H D i x y) := HKS.out
              obtain ⟨m, hm, hph⟩ := pp_second hHa (by omega) hDa (by omega) hMa (by omega) HPP.out
              have HPH := Lib.hid hph
              have c0 : wk.cell? ⟨lb, 1, none⟩ = some (.pointer (some ⟨Sy, 0, none⟩)) := RL.out.cell 1
              have HTK := Lib.hid (tick_any By Sy gy cy pby wk y HY.out _ HOY.out (by omega))
              have HOY2 : Hid (y.ticked.Ok ((ny + 300 : Nat) : Int)) := by
                have := HOY.out.ticked
                rw [Int.natCast_add]
                exact this
              clear hph HPP HKS
              go_wp2_with fail
              refine HTK.out.mono ?_
              rintro e wa ⟨v, rfl, hO, hA, hb, ho⟩
              have HYa : Hid (SpAt By Sy gy cy pby wa y.ticked) := hA
              have HXa := Lib.hid (HX.out.under HLX.out.1 HLX.out.2.1 HLX.out.2.2 hb)
              have RLa : Hid (RowIs wa lb 60 #[.pointer (some ⟨Sx, 0, none⟩), .pointer (some ⟨Sy, 0, none⟩)]) := rowIs_same RL.out (ho.2 _ RL.out.lt HLBY.out)
              have hbRa := hbR.trans (hb.mono hBxy)
              obtain ⟨la, lc, rfl, hM, hcap⟩ := hO.cap
              have HMa := Lib.hid hM
              clear hO hA hb ho hM HTK HX HY RL hbR c0 HOY
              go_wp2_with fail
              go_meet
              exact ⟨la, lc, _, m, _, _, nx, ny + 300, rfl, hm, by omega, by omega, HPH, HMa, hcap, HXa, HYa, HOX, HOY2, RLa, hbRa⟩
          case rest =>
            clear HX HY HOX HOY RL hbR HKS hnx hny
            clear nx ny x y
            obtain ⟨la, lc, out, m, x, y, nx, ny, rfl, hm, hnx, hny, HPH, HM, hcap, HX, HY, HOX, HOY, RL, hbR⟩ := hcut
            generalize wc = wj0 at *
            go_wp2_with fail
            go_loopw [19, 20, 21] (fun s19 s20 s21 wj => ∃ (j m fr : Nat) (out : List SO) (la : Option Addr) (lc : Nat) (x y : SS) (nx ny : Nat), s21 = .int .i64 j ∧ s20 = .int .i64 fr ∧ s19 = .slice la out.length lc ∧ j + m ≤ 2 ∧ nx ≤ 200 + 1000 * i + 500 * k + 300 + 100 * j ∧ ny ≤ 200 + 1000 * i + 500 * k + 300 + 100 * j ∧ Hid (Ph (FinK a b M H D i k) m x y fr out) ∧ Hid (ManyAt wj la SO.cells 25 out) ∧ out.length ≤ lc ∧ Hid (SpAt Bx Sx gx cx pbx wj x) ∧ Hid (SpAt By Sy gy cy pby wj y) ∧ Hid (x.Ok ((nx : Nat) : Int)) ∧ Hid (y.Ok ((ny : Nat) : Int)) ∧ Hid (RowIs wj lb 60 #[.pointer (some ⟨Sx, 0, none⟩), .pointer (some ⟨Sy, 0, none⟩)]) ∧ Below Bx w6 wj) (fun _ _ s21 _ => 20 - (intOf s21).toNat)
            case atStart => exact ⟨0, m, k, out, la, lc, x, y, nx, ny, rfl, rfl, rfl, by omega, by omega, by omega, HPH, HM, hcap, HX, HY, HOX, HOY, RL, hbR⟩
            case round =>
              clear HX HY HOX HOY RL hbR HPH HM hcap hnx hny hm
              clear nx ny x y la lc out m
              rename World => wj
              obtain ⟨j, m, fr, out, la, lc, x, y, nx, ny, rfl, rfl, rfl, hjm, hnx, hny, HPH, HM, hcap, HX, HY, HOX, HOY, RL, hbR⟩ := hrel
              cases m with
              | zero =>
                obtain ⟨rfl, hfin⟩ := HPH.out
                have HKS : Hid (KS a b M H D i (k + 1) x y) := by
                  show KS _ _ _ _ _ _ _ _ _
                  unfold FinK at hfin
                  unfold KS
                  rcases (show k = 0 ∨ k = 1 from by omega) with rfl | rfl
                  · exact hfin
                  · exact hfin
                clear HPH hfin HM
                go_wp2_with fail
                refine ⟨⟨k + 1, x, y, nx, ny, by omega, by go_num, by omega, by omega, HKS, HX, HY, HOX, HOY, RL, hbR⟩, by simp [intOf]; omega⟩
              | succ m =>
                obtain ⟨o, rfl, hop, hcase⟩ := HPH.out
                obtain ⟨b9, off9, hla, hbl9, hcell9⟩ := HM.out.range (i := 0) (by simp)
                subst hla
                have HXO := Lib.hid (show wj.rangeAt b9 (off9 + 0 * 25) [.int .i64 (o.port : Nat), .int .u8 ((o.w.r.f 0).toNat : Int), .int .u8 ((o.w.r.f 1).toNat : Int), .int .u8 ((o.w.r.f 2).toNat : Int), .int .u8 ((o.w.r.f 3).toNat : Int), .int .u8 ((o.w.r.f 4).toNat : Int), .int .u8 ((o.w.r.f 5).toNat : Int), .int .u8 ((o.w.r.f 6).toNat : Int), .int .u8 ((o.w.r.f 7).toNat : Int), .int .u8 ((o.w.b.f 0).toNat : Int), .int .u8 ((o.w.b.f 1).toNat : Int), .int .u8 ((o.w.b.f 2).toNat : Int), .int .u8 ((o.w.b.f 3).toNat : Int), .int .u8 ((o.w.b.f 4).toNat : Int), .int .u8 ((o.w.b.f 5).toNat : Int), .int .u8 ((o.w.b.f 6).toNat : Int), .int .u8 ((o.w.b.f 7).toNat : Int), .int .i64 o.w.c, .int .i64 o.w.p, .int .i64 o.w.age, .int .i64 o.w.ma, .int .i64 o.w.he, .int .i64 o.w.de, .bool o.w.ch, .bool o.w.ak] from hcell9)
                have HXO := Lib.hid (show wj.rangeAt b9 off9 [.int .i64 (o.port : Nat), .int .u8 ((o.w.r.f 0).toNat : Int), .int .u8 ((o.w.r.f 1).toNat : Int), .int .u8 ((o.w.r.f 2).toNat : Int), .int .u8 ((o.w.r.f 3).toNat : Int), .int .u8 ((o.w.r.f 4).toNat : Int), .int .u8 ((o.w.r.f 5).toNat : Int), .int .u8 ((o.w.r.f 6).toNat : Int), .int .u8 ((o.w.r.f 7).toNat : Int), .int .u8 ((o.w.b.f 0).toNat : Int), .int .u8 ((o.w.b.f 1).toNat : Int), .int .u8 ((o.w.b.f 2).toNat : Int), .int .u8 ((o.w.b.f 3).toNat : Int), .int .u8 ((o.w.b.f 4).toNat : Int), .int .u8 ((o.w.b.f 5).toNat : Int), .int .u8 ((o.w.b.f 6).toNat : Int), .int .u8 ((o.w.b.f 7).toNat : Int), .int .i64 o.w.c, .int .i64 o.w.p, .int .i64 o.w.age, .int .i64 o.w.ma, .int .i64 o.w.he, .int .i64 o.w.de, .bool o.w.ch, .bool o.w.ak] by have := HXO.out; rw [Nat.zero_mul, Nat.add_zero] at this; exact this)
                have hcap1 : 1 ≤ lc := hcap
                have RN : RowIs (wj.alloc (.cells #[.int .i64 0, .int .u8 0, .int .u8 0, .int .u8 0, .int .u8 0, .int .u8 0, .int .u8 0, .int .u8 0, .int .u8 0, .int .u8 0, .int .u8 0, .int .u8 0, .int .u8 0, .int .u8 0, .int .u8 0, .int .u8 0, .int .u8 0, .int .i64 0, .int .i64 0, .int .i64 0, .int .i64 0, .int .i64 0, .int .i64 0, .bool false, .bool false] 56)) wj.heap.size 56 #[.int .i64 0, .int .u8 0, .int .u8 0, .int .u8 0, .int .u8 0, .int .u8 0, .int .u8 0, .int .u8 0, .int .u8 0, .int .u8 0, .int .u8 0, .int .u8 0, .int .u8 0, .int .u8 0, .int .u8 0, .int .u8 0, .int .u8 0, .int .i64 0, .int .i64 0, .int .i64 0, .int .i64 0, .int .i64 0, .int .i64 0, .bool false, .bool false] := rowIs_new wj _ _
                have hbN : Below wj.heap.size wj (wj.alloc (.cells #[.int .i64 0, .int .u8 0, .int .u8 0, .int .u8 0, .int .u8 0, .int .u8 0, .int .u8 0, .int .u8 0, .int .u8 0, .int .u8 0, .int .u8 0, .int .u8 0, .int .u8 0, .int .u8 0, .int .u8 0, .int .u8 0, .int .u8 0, .int .i64 0, .int .i64 0, .int .i64 0, .int .i64 0, .int .i64 0, .int .i64 0, .bool false, .bool false] 56)) := (Below.refl _ _).alloc (Nat.le_refl _) _
                have hjl : (j : Int) < 20 := by omega
                clear hcell9 HPH HM hcap
                rcases hcase with ⟨rfl, hph⟩ | ⟨rfl, hph⟩
                · have hop : o.port = 1 := hop
                  have HPH := Lib.hid hph
                  clear hph
                  have e1 : IntKind.i64.wrap 1 = 1 := by decide
                  by_cases hl1 : lc = 1
                  · subst hl1
                    go_wp2_with (first
                      | ((with_reducible refine at_load 56 (.tmp 114) ?_); refine wpList_load_midW rfl 56 (.tmp 114) rfl b9 off9 rfl [.int .i64 (o.port : Nat), .int .u8 ((o.w.r.f 0).toNat : Int), .int .u8 ((o.w.r.f 1).toNat : Int), .int .u8 ((o.w.r.f 2).toNat : Int), .int .u8 ((o.w.r.f 3).toNat : Int), .int .u8 ((o.w.r.f 4).toNat : Int), .int .u8 ((o.w.r.f 5).toNat : Int), .int .u8 ((o.w.r.f 6).toNat : Int), .int .u8 ((o.w.r.f 7).toNat : Int), .int .u8 ((o.w.b.f 0).toNat : Int), .int .u8 ((o.w.b.f 1).toNat : Int), .int .u8 ((o.w.b.f 2).toNat : Int), .int .u8 ((o.w.b.f 3).toNat : Int), .int .u8 ((o.w.b.f 4).toNat : Int), .int .u8 ((o.w.b.f 5).toNat : Int), .int .u8 ((o.w.b.f 6).toNat : Int), .int .u8 ((o.w.b.f 7).toNat : Int), .int .i64 o.w.c, .int .i64 o.w.p, .int .i64 o.w.age, .int .i64 o.w.ma, .int .i64 o.w.he, .int .i64 o.w.de, .bool o.w.ch, .bool o.w.ak] _ HXO.out Try.underlying56 rfl (by kernel_rfl) ?_)
                      | ((with_reducible refine at_store 56 (.tmp 22) (.tmp 115) ?_); refine wpList_store_own rfl 56 (.tmp 22) (.tmp 115) rfl (wj.heap.size) _ rfl rfl _ _ RN (by kernel_rfl) rfl (by simp [Value.oneCell']) wj.heap.size (Nat.le_refl _) ?_))
                    intro w8 hR8 ho8 hs8 hb8
                    have hb8 := hbN.trans hb8
                    have RO8 := Lib.hid hR8
                    have HX8 := Lib.hid (HX.out.later hb8)
                    have HY8 := Lib.hid (HY.out.later hb8)
                    have RL8 := Lib.hid (RL.out.kept hb8)
                    have hbR8 := hbR.trans (hb8.mono (Nat.le_trans HX.out.hB (Nat.le_of_lt HX.out.row.lt)))
                    clear RN hbN hR8 ho8 hs8 hb8 HX HY RL hbR HXO
                    generalize wj.heap.size = ob at *
                    have c0 : w8.cell? ⟨ob, 0, none⟩ = some (.int .i64 1) := by
                      have := RO8.out.cell 0
                      first
                        | exact this
                        | (rw [this, hop]; rfl)
                    have HOP := Lib.hid hop
                    clear hop
                    go_upto_region 26 with fail
                    have k0 := cell_regrown (show w8.cell? ⟨lb, 1, none⟩ = some (.pointer (some ⟨Sy, 0, none⟩)) from RL8.out.cell 1)
                    refine wp_region_mix 7 (by kernel_rfl) (by kernel_rfl) (by kernel_rfl) ?_
                    (refine mix_step (by kernel_rfl) (by kernel_rfl) (fun K hK => ?_); go_simp; (try (simp only [↓IntWalk.iteOmega]; go_simp)); (first | (refine hK _ ?_; clear hK K) | (apply Exists.intro; refine ⟨fun _ => ?_, hK _ ?_⟩; (first | fail); clear hK K)))
                    (refine mix_step (by kernel_rfl) (by kernel_rfl) (fun K hK => ?_); go_simp; (try (simp only [↓IntWalk.iteOmega]; go_simp)); (first | (refine hK _ ?_; clear hK K) | (apply Exists.intro; refine ⟨fun _ => ?_, hK _ ?_⟩; (first | fail); clear hK K)))
                    (refine mix_step (by kernel_rfl) (by kernel_rfl) (fun K hK => ?_); go_simp; (try (simp only [↓IntWalk.iteOmega]; go_simp)); (first | (refine hK _ ?_; clear hK K) | (apply Exists.intro; refine ⟨fun _ => ?_, hK _ ?_⟩; (first | fail); clear hK K)))
                    (refine mix_step (by kernel_rfl) (by kernel_rfl) (fun K hK => ?_); go_simp; (try (simp only [↓IntWalk.iteOmega]; go_simp)); (first | (refine hK _ ?_; clear hK K) | (apply Exists.intro; refine ⟨fun _ => ?_, hK _ ?_⟩; (first | fail); clear hK K)))
                    (refine mix_step (by kernel_rfl) (by kernel_rfl) (fun K hK => ?_); go_simp; (try (simp only [↓IntWalk.iteOmega]; go_simp)); (first | (refine hK _ ?_; clear hK K) | (apply Exists.intro; refine ⟨fun _ => ?_, hK _ ?_⟩; (first | fail); clear hK K)))
                    (refine mix_step (by kernel_rfl) (by kernel_rfl) (fun K hK => ?_); go_simp; (try (simp only [↓IntWalk.iteOmega]; go_simp)); (first | (refine hK _ ?_; clear hK K) | (apply Exists.intro; refine ⟨fun _ => ?_, hK _ ?_⟩; (first | fail); clear hK K)))
                    refine mix_exact (.agg #[.int .u8 ((o.w.r.f 0).toNat : Int), .int .u8 ((o.w.r.f 1).toNat : Int), .int .u8 ((o.w.r.f 2).toNat : Int), .int .u8 ((o.w.r.f 3).toNat : Int), .int .u8 ((o.w.r.f 4).toNat : Int), .int .u8 ((o.w.r.f 5).toNat : Int), .int .u8 ((o.w.r.f 6).toNat : Int), .int .u8 ((o.w.r.f 7).toNat : Int), .int .u8 ((o.w.b.f 0).toNat : Int), .int .u8 ((o.w.b.f 1).toNat : Int), .int .u8 ((o.w.b.f 2).toNat : Int), .int .u8 ((o.w.b.f 3).toNat : Int), .int .u8 ((o.w.b.f 4).toNat : Int), .int .u8 ((o.w.b.f 5).toNat : Int), .int .u8 ((o.w.b.f 6).toNat : Int), .int .u8 ((o.w.b.f 7).toNat : Int), .int .i64 o.w.c, .int .i64 o.w.p, .int .i64 o.w.age, .int .i64 o.w.ma, .int .i64 o.w.he, .int .i64 o.w.de, .bool o.w.ch, .bool o.w.ak]) rfl (exact_load_mid (sub := [.int .u8 ((o.w.r.f 0).toNat : Int), .int .u8 ((o.w.r.f 1).toNat : Int), .int .u8 ((o.w.r.f 2).toNat : Int), .int .u8 ((o.w.r.f 3).toNat : Int), .int .u8 ((o.w.r.f 4).toNat : Int), .int .u8 ((o.w.r.f 5).toNat : Int), .int .u8 ((o.w.r.f 6).toNat : Int), .int .u8 ((o.w.r.f 7).toNat : Int), .int .u8 ((o.w.b.f 0).toNat : Int), .int .u8 ((o.w.b.f 1).toNat : Int), .int .u8 ((o.w.b.f 2).toNat : Int), .int .u8 ((o.w.b.f 3).toNat : Int), .int .u8 ((o.w.b.f 4).toNat : Int), .int .u8 ((o.w.b.f 5).toNat : Int), .int .u8 ((o.w.b.f 6).toNat : Int), .int .u8 ((o.w.b.f 7).toNat : Int), .int .i64 o.w.c, .int .i64 o.w.p, .int .i64 o.w.age, .int .i64 o.w.ma, .int .i64 o.w.he, .int .i64 o.w.de, .bool o.w.ch, .bool o.w.ak]) rfl rfl (by simp) RO8.out rfl Try.underlying54 rfl (by kernel_rfl)) ?_
                    refine mix_nil ?_
                    rintro ⟨dq, osq⟩
                    have hb7 := below_regrown w8 dq osq
                    have hbR8 := hbR8.trans (hb7.mono (Nat.le_trans HX8.out.hB (Nat.le_of_lt HX8.out.row.lt)))
                    have HX8 := Lib.hid (HX8.out.later hb7)
                    have HY8 := Lib.hid (HY8.out.later hb7)
                    have RL8 := Lib.hid (RL8.out.kept hb7)
                    clear k0 c0 RO8 hb7
                    generalize grow (redrawn w8 dq) osq = w8 at *
                    refine (show wpList _ _ _ _ _ _ from ?_)
                    simp only [List.drop, Act.put, List.setIfInBounds_toArray, List.set]
                    have HTK := Lib.hid (take_any By Sy gy cy pby w8 y HY8.out _ HOY.out (by omega) 0 (by decide) o.w)
                    go_wp2_with fail
                    refine HTK.out.mono ?_
                    rintro e w9 ⟨v9, rfl, hO9, hA9, hb9, ho9⟩
                    have HX9 := Lib.hid (HX8.out.under HLX.out.1 HLX.out.2.1 HLX.out.2.2 hb9)
                    have HY9 := Lib.hid hA9
                    have HO9 : Hid (((y.take 0 o.w).1).Ok ((ny + 100 : Nat) : Int)) := by
                      have := HOY.out.take 0 o.w
                      rw [Int.natCast_add]
                      exact this
                    have RL9 : Hid (RowIs w9 lb 60 #[.pointer (some ⟨Sx, 0, none⟩), .pointer (some ⟨Sy, 0, none⟩)]) := rowIs_same RL8.out (ho9.2 _ RL8.out.lt HLBY.out)
                    have hbR9 : Below Bx w6 w9 := hbR8.trans (hb9.mono hBxy)
                    have HOUT9 := Lib.hid hO9
                    clear hO9 hA9 hb9 ho9 HTK HX8 HY8 HOY RL8 hbR8
                    obtain ⟨la9, lc9, rfl, hM9, hcap9⟩ := HOUT9.out.cap
                    have HM9 := Lib.hid hM9
                    clear hM9 HOUT9
                    generalize y.take 0 o.w = rr at *
                    obtain ⟨s9, more⟩ := rr
                    have HPH : Hid (Ph (FinK a b M H D i k) m x s9 (if more = [] then 0 else 1) more) := HPH
                    have HO9 : Hid (s9.Ok ((ny + 100 : Nat) : Int)) := HO9
                    have HY9 : Hid (SpAt By Sy gy cy pby w9 s9) := HY9
                    cases more with
                    | nil =>
                      have HPH : Hid (Ph (FinK a b M H D i k) m x s9 0 []) := HPH
                      go_wp2_with fail
                      refine ⟨⟨j + 1, m, 0, [], _, _, x, s9, nx, ny + 100, by go_num, by rfl, by rfl, by omega, by omega, by omega, HPH, .inl rfl, Nat.zero_le _, HX9, HY9, HOX, HO9, RL9, hbR9⟩, by simp [intOf]; omega⟩
                    | cons o2 more =>
                      have HPH : Hid (Ph (FinK a b M H D i k) m x s9 1 (o2 :: more)) := HPH
                      have hml : (0 : Int) < ((o2 :: more).length : Int) := by simp <;> omega
                      go_wp2_with fail
                      refine ⟨⟨j + 1, m, 1, o2 :: more, la9, lc9, x, s9, nx, ny + 100, by go_num, by rfl, by rfl, by omega, by omega, by omega, HPH, HM9.out, hcap9, HX9, HY9, HOX, HO9, RL9, hbR9⟩, by simp [intOf]; omega⟩
                  · have hl2 : (lc == 1) = false := by simpa using hl1
                    go_wp2_with (first
                      | ((with_reducible refine at_load 56 (.tmp 114) ?_); refine wpList_load_midW rfl 56 (.tmp 114) rfl b9 off9 rfl [.int .i64 (o.port : Nat), .int .u8 ((o.w.r.f 0).toNat : Int), .int .u8 ((o.w.r.f 1).toNat : Int), .int .u8 ((o.w.r.f 2).toNat : Int), .int .u8 ((o.w.r.f 3).toNat : Int), .int .u8 ((o.w.r.f 4).toNat : Int), .int .u8 ((o.w.r.f 5).toNat : Int), .int .u8 ((o.w.r.f 6).toNat : Int), .int .u8 ((o.w.r.f 7).toNat : Int), .int .u8 ((o.w.b.f 0).toNat : Int), .int .u8 ((o.w.b.f 1).toNat : Int), .int .u8 ((o.w.b.f 2).toNat : Int), .int .u8 ((o.w.b.f 3).toNat : Int), .int .u8 ((o.w.b.f 4).toNat : Int), .int .u8 ((o.w.b.f 5).toNat : Int), .int .u8 ((o.w.b.f 6).toNat : Int), .int .u8 ((o.w.b.f 7).toNat : Int), .int .i64 o.w.c, .int .i64 o.w.p, .int .i64 o.w.age, .int .i64 o.w.ma, .int .i64 o.w.he, .int .i64 o.w.de, .bool o.w.ch, .bool o.w.ak] _ HXO.out Try.underlying56 rfl (by kernel_rfl) ?_)
                      | ((with_reducible refine at_store 56 (.tmp 22) (.tmp 115) ?_); refine wpList_store_own rfl 56 (.tmp 22) (.tmp 115) rfl (wj.heap.size) _ rfl rfl _ _ RN (by kernel_rfl) rfl (by simp [Value.oneCell']) wj.heap.size (Nat.le_refl _) ?_))
                    intro w8 hR8 ho8 hs8 hb8
                    have hb8 := hbN.trans hb8
                    have RO8 := Lib.hid hR8
                    have HX8 := Lib.hid (HX.out.later hb8)
                    have HY8 := Lib.hid (HY.out.later hb8)
                    have RL8 := Lib.hid (RL.out.kept hb8)
                    have hbR8 := hbR.trans (hb8.mono (Nat.le_trans HX.out.hB (Nat.le_of_lt HX.out.row.lt)))
                    clear RN hbN hR8 ho8 hs8 hb8 HX HY RL hbR HXO
                    generalize wj.heap.size = ob at *
                    have c0 : w8.cell? ⟨ob, 0, none⟩ = some (.int .i64 1) := by
                      have := RO8.out.cell 0
                      first
                        | exact this
                        | (rw [this, hop]; rfl)
                    have HOP := Lib.hid hop
                    clear hop
                    go_upto_region 26 with fail
                    have k0 := cell_regrown (show w8.cell? ⟨lb, 1, none⟩ = some (.pointer (some ⟨Sy, 0, none⟩)) from RL8.out.cell 1)
                    refine wp_region_mix 7 (by kernel_rfl) (by kernel_rfl) (by kernel_rfl) ?_
                    (refine mix_step (by kernel_rfl) (by kernel_rfl) (fun K hK => ?_); go_simp; (try (simp only [↓IntWalk.iteOmega]; go_simp)); (first | (refine hK _ ?_; clear hK K) | (apply Exists.intro; refine ⟨fun _ => ?_, hK _ ?_⟩; (first | fail); clear hK K)))
                    (refine mix_step (by kernel_rfl) (by kernel_rfl) (fun K hK => ?_); go_simp; (try (simp only [↓IntWalk.iteOmega]; go_simp)); (first | (refine hK _ ?_; clear hK K) | (apply Exists.intro; refine ⟨fun _ => ?_, hK _ ?_⟩; (first | fail); clear hK K)))
                    (refine mix_step (by kernel_rfl) (by kernel_rfl) (fun K hK => ?_); go_simp; (try (simp only [↓IntWalk.iteOmega]; go_simp)); (first | (refine hK _ ?_; clear hK K) | (apply Exists.intro; refine ⟨fun _ => ?_, hK _ ?_⟩; (first | fail); clear hK K)))
                    (refine mix_step (by kernel_rfl) (by kernel_rfl) (fun K hK => ?_); go_simp; (try (simp only [↓IntWalk.iteOmega]; go_simp)); (first | (refine hK _ ?_; clear hK K) | (apply Exists.intro; refine ⟨fun _ => ?_, hK _ ?_⟩; (first | fail); clear hK K)))
                    (refine mix_step (by kernel_rfl) (by kernel_rfl) (fun K hK => ?_); go_simp; (try (simp only [↓IntWalk.iteOmega]; go_simp)); (first | (refine hK _ ?_; clear hK K) | (apply Exists.intro; refine ⟨fun _ => ?_, hK _ ?_⟩; (first | fail); clear hK K)))
                    (refine mix_step (by kernel_rfl) (by kernel_rfl) (fun K hK => ?_); go_simp; (try (simp only [↓IntWalk.iteOmega]; go_simp)); (first | (refine hK _ ?_; clear hK K) | (apply Exists.intro; refine ⟨fun _ => ?_, hK _ ?_⟩; (first | fail); clear hK K)))
                    refine mix_exact (.agg #[.int .u8 ((o.w.r.f 0).toNat : Int), .int .u8 ((o.w.r.f 1).toNat : Int), .int .u8 ((o.w.r.f 2).toNat : Int), .int .u8 ((o.w.r.f 3).toNat : Int), .int .u8 ((o.w.r.f 4).toNat : Int), .int .u8 ((o.w.r.f 5).toNat : Int), .int .u8 ((o.w.r.f 6).toNat : Int), .int .u8 ((o.w.r.f 7).toNat : Int), .int .u8 ((o.w.b.f 0).toNat : Int), .int .u8 ((o.w.b.f 1).toNat : Int), .int .u8 ((o.w.b.f 2).toNat : Int), .int .u8 ((o.w.b.f 3).toNat : Int), .int .u8 ((o.w.b.f 4).toNat : Int), .int .u8 ((o.w.b.f 5).toNat : Int), .int .u8 ((o.w.b.f 6).toNat : Int), .int .u8 ((o.w.b.f 7).toNat : Int), .int .i64 o.w.c, .int .i64 o.w.p, .int .i64 o.w.age, .int .i64 o.w.ma, .int .i64 o.w.he, .int .i64 o.w.de, .bool o.w.ch, .bool o.w.ak]) rfl (exact_load_mid (sub := [.int .u8 ((o.w.r.f 0).toNat : Int), .int .u8 ((o.w.r.f 1).toNat : Int), .int .u8 ((o.w.r.f 2).toNat : Int), .int .u8 ((o.w.r.f 3).toNat : Int), .int .u8 ((o.w.r.f 4).toNat : Int), .int .u8 ((o.w.r.f 5).toNat : Int), .int .u8 ((o.w.r.f 6).toNat : Int), .int .u8 ((o.w.r.f 7).toNat : Int), .int .u8 ((o.w.b.f 0).toNat : Int), .int .u8 ((o.w.b.f 1).toNat : Int), .int .u8 ((o.w.b.f 2).toNat : Int), .int .u8 ((o.w.b.f 3).toNat : Int), .int .u8 ((o.w.b.f 4).toNat : Int), .int .u8 ((o.w.b.f 5).toNat : Int), .int .u8 ((o.w.b.f 6).toNat : Int), .int .u8 ((o.w.b.f 7).toNat : Int), .int .i64 o.w.c, .int .i64 o.w.p, .int .i64 o.w.age, .int .i64 o.w.ma, .int .i64 o.w.he, .int .i64 o.w.de, .bool o.w.ch, .bool o.w.ak]) rfl rfl (by simp) RO8.out rfl Try.underlying54 rfl (by kernel_rfl)) ?_
                    refine mix_nil ?_
                    rintro ⟨dq, osq⟩
                    have hb7 := below_regrown w8 dq osq
                    have hbR8 := hbR8.trans (hb7.mono (Nat.le_trans HX8.out.hB (Nat.le_of_lt HX8.out.row.lt)))
                    have HX8 := Lib.hid (HX8.out.later hb7)
                    have HY8 := Lib.hid (HY8.out.later hb7)
                    have RL8 := Lib.hid (RL8.out.kept hb7)
                    clear k0 c0 RO8 hb7
                    generalize grow (redrawn w8 dq) osq = w8 at *
                    refine (show wpList _ _ _ _ _ _ from ?_)
                    simp only [List.drop, Act.put, List.setIfInBounds_toArray, List.set]
                    have HTK := Lib.hid (take_any By Sy gy cy pby w8 y HY8.out _ HOY.out (by omega) 0 (by decide) o.w)
                    go_wp2_with fail
                    refine HTK.out.mono ?_
                    rintro e w9 ⟨v9, rfl, hO9, hA9, hb9, ho9⟩
                    have HX9 := Lib.hid (HX8.out.under HLX.out.1 HLX.out.2.1 HLX.out.2.2 hb9)
                    have HY9 := Lib.hid hA9
                    have HO9 : Hid (((y.take 0 o.w).1).Ok ((ny + 100 : Nat) : Int)) := by
                      have := HOY.out.take 0 o.w
                      rw [Int.natCast_add]
                      exact this
                    have RL9 : Hid (RowIs w9 lb 60 #[.pointer (some ⟨Sx, 0, none⟩), .pointer (some ⟨Sy, 0, none⟩)]) := rowIs_same RL8.out (ho9.2 _ RL8.out.lt HLBY.out)
                    have hbR9 : Below Bx w6 w9 := hbR8.trans (hb9.mono hBxy)
                    have HOUT9 := Lib.hid hO9
                    clear hO9 hA9 hb9 ho9 HTK HX8 HY8 HOY RL8 hbR8
                    obtain ⟨la9, lc9, rfl, hM9, hcap9⟩ := HOUT9.out.cap
                    have HM9 := Lib.hid hM9
                    clear hM9 HOUT9
                    generalize y.take 0 o.w = rr at *
                    obtain ⟨s9, more⟩ := rr
                    have HPH : Hid (Ph (FinK a b M H D i k) m x s9 (if more = [] then 0 else 1) more) := HPH
                    have HO9 : Hid (s9.Ok ((ny + 100 : Nat) : Int)) := HO9
                    have HY9 : Hid (SpAt By Sy gy cy pby w9 s9) := HY9
                    cases more with
                    | nil =>
                      have HPH : Hid (Ph (FinK a b M H D i k) m x s9 0 []) := HPH
                      go_wp2_with fail
                      refine ⟨⟨j + 1, m, 0, [], _, _, x, s9, nx, ny + 100, by go_num, by rfl, by rfl, by omega, by omega, by omega, HPH, .inl rfl, Nat.zero_le _, HX9, HY9, HOX, HO9, RL9, hbR9⟩, by simp [intOf]; omega⟩
                    | cons o2 more =>
                      have HPH : Hid (Ph (FinK a b M H D i k) m x s9 1 (o2 :: more)) := HPH
                      have hml : (0 : Int) < ((o2 :: more).length : Int) := by simp <;> omega
                      go_wp2_with fail
                      refine ⟨⟨j + 1, m, 1, o2 :: more, la9, lc9, x, s9, nx, ny + 100, by go_num, by rfl, by rfl, by omega, by omega, by omega, HPH, HM9.out, hcap9, HX9, HY9, HOX, HO9, RL9, hbR9⟩, by simp [intOf]; omega⟩
                · have hop : o.port = 0 := hop
                  have HPH := Lib.hid hph
                  clear hph
                  have e1 : IntKind.i64.wrap 0 = 0 := by decide
                  by_cases hl1 : lc = 1
                  · subst hl1
                    go_wp2_with (first
                      | ((with_reducible refine at_load 56 (.tmp 114) ?_); refine wpList_load_midW rfl 56 (.tmp 114) rfl b9 off9 rfl [.int .i64 (o.port : Nat), .int .u8 ((o.w.r.f 0).toNat : Int), .int .u8 ((o.w.r.f 1).toNat : Int), .int .u8 ((o.w.r.f 2).toNat : Int), .int .u8 ((o.w.r.f 3).toNat : Int), .int .u8 ((o.w.r.f 4).toNat : Int), .int .u8 ((o.w.r.f 5).toNat : Int), .int .u8 ((o.w.r.f 6).toNat : Int), .int .u8 ((o.w.r.f 7).toNat : Int), .int .u8 ((o.w.b.f 0).toNat : Int), .int .u8 ((o.w.b.f 1).toNat : Int), .int .u8 ((o.w.b.f 2).toNat : Int), .int .u8 ((o.w.b.f 3).toNat : Int), .int .u8 ((o.w.b.f 4).toNat : Int), .int .u8 ((o.w.b.f 5).toNat : Int), .int .u8 ((o.w.b.f 6).toNat : Int), .int .u8 ((o.w.b.f 7).toNat : Int), .int .i64 o.w.c, .int .i64 o.w.p, .int .i64 o.w.age, .int .i64 o.w.ma, .int .i64 o.w.he, .int .i64 o.w.de, .bool o.w.ch, .bool o.w.ak] _ HXO.out Try.underlying56 rfl (by kernel_rfl) ?_)
                      | ((with_reducible refine at_store 56 (.tmp 22) (.tmp 115) ?_); refine wpList_store_own rfl 56 (.tmp 22) (.tmp 115) rfl (wj.heap.size) _ rfl rfl _ _ RN (by kernel_rfl) rfl (by simp [Value.oneCell']) wj.heap.size (Nat.le_refl _) ?_))
                    intro w8 hR8 ho8 hs8 hb8
                    have hb8 := hbN.trans hb8
                    have RO8 := Lib.hid hR8
                    have HX8 := Lib.hid (HX.out.later hb8)
                    have HY8 := Lib.hid (HY.out.later hb8)
                    have RL8 := Lib.hid (RL.out.kept hb8)
                    have hbR8 := hbR.trans (hb8.mono (Nat.le_trans HX.out.hB (Nat.le_of_lt HX.out.row.lt)))
                    clear RN hbN hR8 ho8 hs8 hb8 HX HY RL hbR HXO
                    generalize wj.heap.size = ob at *
                    have c0 : w8.cell? ⟨ob, 0, none⟩ = some (.int .i64 0) := by
                      have := RO8.out.cell 0
                      first
                        | exact this
                        | (rw [this, hop]; rfl)
                    have HOP := Lib.hid hop
                    clear hop
                    go_upto_region 26 with fail
                    have k0 := cell_regrown (show w8.cell? ⟨lb, 0, none⟩ = some (.pointer (some ⟨Sx, 0, none⟩)) from RL8.out.cell 0)
                    refine wp_region_mix 7 (by kernel_rfl) (by kernel_rfl) (by kernel_rfl) ?_
                    (refine mix_step (by kernel_rfl) (by kernel_rfl) (fun K hK => ?_); go_simp; (try (simp only [↓IntWalk.iteOmega]; go_simp)); (first | (refine hK _ ?_; clear hK K) | (apply Exists.intro; refine ⟨fun _ => ?_, hK _ ?_⟩; (first | fail); clear hK K)))
                    (refine mix_step (by kernel_rfl) (by kernel_rfl) (fun K hK => ?_); go_simp; (try (simp only [↓IntWalk.iteOmega]; go_simp)); (first | (refine hK _ ?_; clear hK K) | (apply Exists.intro; refine ⟨fun _ => ?_, hK _ ?_⟩; (first | fail); clear hK K)))
                    (refine mix_step (by kernel_rfl) (by kernel_rfl) (fun K hK => ?_); go_simp; (try (simp only [↓IntWalk.iteOmega]; go_simp)); (first | (refine hK _ ?_; clear hK K) | (apply Exists.intro; refine ⟨fun _ => ?_, hK _ ?_⟩; (first | fail); clear hK K)))
                    (refine mix_step (by kernel_rfl) (by kernel_rfl) (fun K hK => ?_); go_simp; (try (simp only [↓IntWalk.iteOmega]; go_simp)); (first | (refine hK _ ?_; clear hK K) | (apply Exists.intro; refine ⟨fun _ => ?_, hK _ ?_⟩; (first | fail); clear hK K)))
                    (refine mix_step (by kernel_rfl) (by kernel_rfl) (fun K hK => ?_); go_simp; (try (simp only [↓IntWalk.iteOmega]; go_simp)); (first | (refine hK _ ?_; clear hK K) | (apply Exists.intro; refine ⟨fun _ => ?_, hK _ ?_⟩; (first | fail); clear hK K)))
                    (refine mix_step (by kernel_rfl) (by kernel_rfl) (fun K hK => ?_); go_simp; (try (simp only [↓IntWalk.iteOmega]; go_simp)); (first | (refine hK _ ?_; clear hK K) | (apply Exists.intro; refine ⟨fun _ => ?_, hK _ ?_⟩; (first | fail); clear hK K)))
                    refine mix_exact (.agg #[.int .u8 ((o.w.r.f 0).toNat : Int), .int .u8 ((o.w.r.f 1).toNat : Int), .int .u8 ((o.w.r.f 2).toNat : Int), .int .u8 ((o.w.r.f 3).toNat : Int), .int .u8 ((o.w.r.f 4).toNat : Int), .int .u8 ((o.w.r.f 5).toNat : Int), .int .u8 ((o.w.r.f 6).toNat : Int), .int .u8 ((o.w.r.f 7).toNat : Int), .int .u8 ((o.w.b.f 0).toNat : Int), .int .u8 ((o.w.b.f 1).toNat : Int), .int .u8 ((o.w.b.f 2).toNat : Int), .int .u8 ((o.w.b.f 3).toNat : Int), .int .u8 ((o.w.b.f 4).toNat : Int), .int .u8 ((o.w.b.f 5).toNat : Int), .int .u8 ((o.w.b.f 6).toNat : Int), .int .u8 ((o.w.b.f 7).toNat : Int), .int .i64 o.w.c, .int .i64 o.w.p, .int .i64 o.w.age, .int .i64 o.w.ma, .int .i64 o.w.he, .int .i64 o.w.de, .bool o.w.ch, .bool o.w.ak]) rfl (exact_load_mid (sub := [.int .u8 ((o.w.r.f 0).toNat : Int), .int .u8 ((o.w.r.f 1).toNat : Int), .int .u8 ((o.w.r.f 2).toNat : Int), .int .u8 ((o.w.r.f 3).toNat : Int), .int .u8 ((o.w.r.f 4).toNat : Int), .int .u8 ((o.w.r.f 5).toNat : Int), .int .u8 ((o.w.r.f 6).toNat : Int), .int .u8 ((o.w.r.f 7).toNat : Int), .int .u8 ((o.w.b.f 0).toNat : Int), .int .u8 ((o.w.b.f 1).toNat : Int), .int .u8 ((o.w.b.f 2).toNat : Int), .int .u8 ((o.w.b.f 3).toNat : Int), .int .u8 ((o.w.b.f 4).toNat : Int), .int .u8 ((o.w.b.f 5).toNat : Int), .int .u8 ((o.w.b.f 6).toNat : Int), .int .u8 ((o.w.b.f 7).toNat : Int), .int .i64 o.w.c, .int .i64 o.w.p, .int .i64 o.w.age, .int .i64 o.w.ma, .int .i64 o.w.he, .int .i64 o.w.de, .bool o.w.ch, .bool o.w.ak]) rfl rfl (by simp) RO8.out rfl Try.underlying54 rfl (by kernel_rfl)) ?_
                    refine mix_nil ?_
                    rintro ⟨dq, osq⟩
                    have hb7 := below_regrown w8 dq osq
                    have hbR8 := hbR8.trans (hb7.mono (Nat.le_trans HX8.out.hB (Nat.le_of_lt HX8.out.row.lt)))
                    have HX8 := Lib.hid (HX8.out.later hb7)
                    have HY8 := Lib.hid (HY8.out.later hb7)
                    have RL8 := Lib.hid (RL8.out.kept hb7)
                    clear k0 c0 RO8 hb7
                    generalize grow (redrawn w8 dq) osq = w8 at *
                    refine (show wpList _ _ _ _ _ _ from ?_)
                    simp only [List.drop, Act.put, List.setIfInBounds_toArray, List.set]
                    have HTK := Lib.hid (take_any Bx Sx gx cx pbx w8 x HX8.out _ HOX.out (by omega) 1 (by decide) o.w)
                    go_wp2_with fail
                    refine HTK.out.mono ?_
                    rintro e w9 ⟨v9, rfl, hO9, hA9, hb9, ho9⟩
                    have HX9 := Lib.hid hA9
                    have HY9 := Lib.hid (HY8.out.beside ho9 HXB.out)
                    have HO9 : Hid (((x.take 1 o.w).1).Ok ((nx + 100 : Nat) : Int)) := by
                      have := HOX.out.take 1 o.w
                      rw [Int.natCast_add]
                      exact this
                    have RL9 : Hid (RowIs w9 lb 60 #[.pointer (some ⟨Sx, 0, none⟩), .pointer (some ⟨Sy, 0, none⟩)]) := rowIs_same RL8.out (ho9.2 _ RL8.out.lt HLBX.out)
                    have hbR9 : Below Bx w6 w9 := hbR8.trans hb9
                    have HOUT9 := Lib.hid hO9
                    clear hO9 hA9 hb9 ho9 HTK HX8 HY8 HOX RL8 hbR8
                    obtain ⟨la9, lc9, rfl, hM9, hcap9⟩ := HOUT9.out.cap
                    have HM9 := Lib.hid hM9
                    clear hM9 HOUT9
                    generalize x.take 1 o.w = rr at *
                    obtain ⟨s9, more⟩ := rr
                    have HPH : Hid (Ph (FinK a b M H D i k) m s9 y (if more = [] then 1 else 0) more) := HPH
                    have HO9 : Hid (s9.Ok ((nx + 100 : Nat) : Int)) := HO9
                    have HX9 : Hid (SpAt Bx Sx gx cx pbx w9 s9) := HX9
                    cases more with
                    | nil =>
                      have HPH : Hid (Ph (FinK a b M H D i k) m s9 y 1 []) := HPH
                      go_wp2_with fail
                      refine ⟨⟨j + 1, m, 1, [], _, _, s9, y, nx + 100, ny, by go_num, by rfl, by rfl, by omega, by omega, by omega, HPH, .inl rfl, Nat.zero_le _, HX9, HY9, HO9, HOY, RL9, hbR9⟩, by simp [intOf]; omega⟩
                    | cons o2 more =>
                      have HPH : Hid (Ph (FinK a b M H D i k) m s9 y 0 (o2 :: more)) := HPH
                      have hml : (0 : Int) < ((o2 :: more).length : Int) := by simp <;> omega
                      go_wp2_with fail
                      refine ⟨⟨j + 1, m, 0, o2 :: more, la9, lc9, s9, y, nx + 100, ny, by go_num, by rfl, by rfl, by omega, by omega, by omega, HPH, HM9.out, hcap9, HX9, HY9, HO9, HOY, RL9, hbR9⟩, by simp [intOf]; omega⟩
                  · have hl2 : (lc == 1) = false := by simpa using hl1
                    go_wp2_with (first
                      | ((with_reducible refine at_load 56 (.tmp 114) ?_); refine wpList_load_midW rfl 56 (.tmp 114) rfl b9 off9 rfl [.int .i64 (o.port : Nat), .int .u8 ((o.w.r.f 0).toNat : Int), .int .u8 ((o.w.r.f 1).toNat : Int), .int .u8 ((o.w.r.f 2).toNat : Int), .int .u8 ((o.w.r.f 3).toNat : Int), .int .u8 ((o.w.r.f 4).toNat : Int), .int .u8 ((o.w.r.f 5).toNat : Int), .int .u8 ((o.w.r.f 6).toNat : Int), .int .u8 ((o.w.r.f 7).toNat : Int), .int .u8 ((o.w.b.f 0).toNat : Int), .int .u8 ((o.w.b.f 1).toNat : Int), .int .u8 ((o.w.b.f 2).toNat : Int), .int .u8 ((o.w.b.f 3).toNat : Int), .int .u8 ((o.w.b.f 4).toNat : Int), .int .u8 ((o.w.b.f 5).toNat : Int), .int .u8 ((o.w.b.f 6).toNat : Int), .int .u8 ((o.w.b.f 7).toNat : Int), .int .i64 o.w.c, .int .i64 o.w.p, .int .i64 o.w.age, .int .i64 o.w.ma, .int .i64 o.w.he, .int .i64 o.w.de, .bool o.w.ch, .bool o.w.ak] _ HXO.out Try.underlying56 rfl (by kernel_rfl) ?_)
                      | ((with_reducible refine at_store 56 (.tmp 22) (.tmp 115) ?_); refine wpList_store_own rfl 56 (.tmp 22) (.tmp 115) rfl (wj.heap.size) _ rfl rfl _ _ RN (by kernel_rfl) rfl (by simp [Value.oneCell']) wj.heap.size (Nat.le_refl _) ?_))
                    intro w8 hR8 ho8 hs8 hb8
                    have hb8 := hbN.trans hb8
                    have RO8 := Lib.hid hR8
                    have HX8 := Lib.hid (HX.out.later hb8)
                    have HY8 := Lib.hid (HY.out.later hb8)
                    have RL8 := Lib.hid (RL.out.kept hb8)
                    have hbR8 := hbR.trans (hb8.mono (Nat.le_trans HX.out.hB (Nat.le_of_lt HX.out.row.lt)))
                    clear RN hbN hR8 ho8 hs8 hb8 HX HY RL hbR HXO
                    generalize wj.heap.size = ob at *
                    have c0 : w8.cell? ⟨ob, 0, none⟩ = some (.int .i64 0) := by
                      have := RO8.out.cell 0
                      first
                        | exact this
                        | (rw [this, hop]; rfl)
                    have HOP := Lib.hid hop
                    clear hop
                    go_upto_region 26 with fail
                    have k0 := cell_regrown (show w8.cell? ⟨lb, 0, none⟩ = some (.pointer (some ⟨Sx, 0, none⟩)) from RL8.out.cell 0)
                    refine wp_region_mix 7 (by kernel_rfl) (by kernel_rfl) (by kernel_rfl) ?_
                    (refine mix_step (by kernel_rfl) (by kernel_rfl) (fun K hK => ?_); go_simp; (try (simp only [↓IntWalk.iteOmega]; go_simp)); (first | (refine hK _ ?_; clear hK K) | (apply Exists.intro; refine ⟨fun _ => ?_, hK _ ?_⟩; (first | fail); clear hK K)))
                    (refine mix_step (by kernel_rfl) (by kernel_rfl) (fun K hK => ?_); go_simp; (try (simp only [↓IntWalk.iteOmega]; go_simp)); (first | (refine hK _ ?_; clear hK K) | (apply Exists.intro; refine ⟨fun _ => ?_, hK _ ?_⟩; (first | fail); clear hK K)))
                    (refine mix_step (by kernel_rfl) (by kernel_rfl) (fun K hK => ?_); go_simp; (try (simp only [↓IntWalk.iteOmega]; go_simp)); (first | (refine hK _ ?_; clear hK K) | (apply Exists.intro; refine ⟨fun _ => ?_, hK _ ?_⟩; (first | fail); clear hK K)))
                    (refine mix_step (by kernel_rfl) (by kernel_rfl) (fun K hK => ?_); go_simp; (try (simp only [↓IntWalk.iteOmega]; go_simp)); (first | (refine hK _ ?_; clear hK K) | (apply Exists.intro; refine ⟨fun _ => ?_, hK _ ?_⟩; (first | fail); clear hK K)))
                    (refine mix_step (by kernel_rfl) (by kernel_rfl) (fun K hK => ?_); go_simp; (try (simp only [↓IntWalk.iteOmega]; go_simp)); (first | (refine hK _ ?_; clear hK K) | (apply Exists.intro; refine ⟨fun _ => ?_, hK _ ?_⟩; (first | fail); clear hK K)))
                    (refine mix_step (by kernel_rfl) (by kernel_rfl) (fun K hK => ?_); go_simp; (try (simp only [↓IntWalk.iteOmega]; go_simp)); (first | (refine hK _ ?_; clear hK K) | (apply Exists.intro; refine ⟨fun _ => ?_, hK _ ?_⟩; (first | fail); clear hK K)))
                    refine mix_exact (.agg #[.int .u8 ((o.w.r.f 0).toNat : Int), .int .u8 ((o.w.r.f 1).toNat : Int), .int .u8 ((o.w.r.f 2).toNat : Int), .int .u8 ((o.w.r.f 3).toNat : Int), .int .u8 ((o.w.r.f 4).toNat : Int), .int .u8 ((o.w.r.f 5).toNat : Int), .int .u8 ((o.w.r.f 6).toNat : Int), .int .u8 ((o.w.r.f 7).toNat : Int), .int .u8 ((o.w.b.f 0).toNat : Int), .int .u8 ((o.w.b.f 1).toNat : Int), .int .u8 ((o.w.b.f 2).toNat : Int), .int .u8 ((o.w.b.f 3).toNat : Int), .int .u8 ((o.w.b.f 4).toNat : Int), .int .u8 ((o.w.b.f 5).toNat : Int), .int .u8 ((o.w.b.f 6).toNat : Int), .int .u8 ((o.w.b.f 7).toNat : Int), .int .i64 o.w.c, .int .i64 o.w.p, .int .i64 o.w.age, .int .i64 o.w.ma, .int .i64 o.w.he, .int .i64 o.w.de, .bool o.w.ch, .bool o.w.ak]) rfl (exact_load_mid (sub := [.int .u8 ((o.w.r.f 0).toNat : Int), .int .u8 ((o.w.r.f 1).toNat : Int), .int .u8 ((o.w.r.f 2).toNat : Int), .int .u8 ((o.w.r.f 3).toNat : Int), .int .u8 ((o.w.r.f 4).toNat : Int), .int .u8 ((o.w.r.f 5).toNat : Int), .int .u8 ((o.w.r.f 6).toNat : Int), .int .u8 ((o.w.r.f 7).toNat : Int), .int .u8 ((o.w.b.f 0).toNat : Int), .int .u8 ((o.w.b.f 1).toNat : Int), .int .u8 ((o.w.b.f 2).toNat : Int), .int .u8 ((o.w.b.f 3).toNat : Int), .int .u8 ((o.w.b.f 4).toNat : Int), .int .u8 ((o.w.b.f 5).toNat : Int), .int .u8 ((o.w.b.f 6).toNat : Int), .int .u8 ((o.w.b.f 7).toNat : Int), .int .i64 o.w.c, .int .i64 o.w.p, .int .i64 o.w.age, .int .i64 o.w.ma, .int .i64 o.w.he, .int .i64 o.w.de, .bool o.w.ch, .bool o.w.ak]) rfl rfl (by simp) RO8.out rfl Try.underlying54 rfl (by kernel_rfl)) ?_
                    refine mix_nil ?_
                    rintro ⟨dq, osq⟩
                    have hb7 := below_regrown w8 dq osq
                    have hbR8 := hbR8.trans (hb7.mono (Nat.le_trans HX8.out.hB (Nat.le_of_lt HX8.out.row.lt)))
                    have HX8 := Lib.hid (HX8.out.later hb7)
                    have HY8 := Lib.hid (HY8.out.later hb7)
                    have RL8 := Lib.hid (RL8.out.kept hb7)
                    clear k0 c0 RO8 hb7
                    generalize grow (redrawn w8 dq) osq = w8 at *
                    refine (show wpList _ _ _ _ _ _ from ?_)
                    simp only [List.drop, Act.put, List.setIfInBounds_toArray, List.set]
                    have HTK := Lib.hid (take_any Bx Sx gx cx pbx w8 x HX8.out _ HOX.out (by omega) 1 (by decide) o.w)
                    go_wp2_with fail
                    refine HTK.out.mono ?_
                    rintro e w9 ⟨v9, rfl, hO9, hA9, hb9, ho9⟩
                    have HX9 := Lib.hid hA9
                    have HY9 := Lib.hid (HY8.out.beside ho9 HXB.out)
                    have HO9 : Hid (((x.take 1 o.w).1).Ok ((nx + 100 : Nat) : Int)) := by
                      have := HOX.out.take 1 o.w
                      rw [Int.natCast_add]
                      exact this
                    have RL9 : Hid (RowIs w9 lb 60 #[.pointer (some ⟨Sx, 0, none⟩), .pointer (some ⟨Sy, 0, none⟩)]) := rowIs_same RL8.out (ho9.2 _ RL8.out.lt HLBX.out)
                    have hbR9 : Below Bx w6 w9 := hbR8.trans hb9
                    have HOUT9 := Lib.hid hO9
                    clear hO9 hA9 hb9 ho9 HTK HX8 HY8 HOX RL8 hbR8
                    obtain ⟨la9, lc9, rfl, hM9, hcap9⟩ := HOUT9.out.cap
                    have HM9 := Lib.hid hM9
                    clear hM9 HOUT9
                    generalize x.take 1 o.w = rr at *
                    obtain ⟨s9, more⟩ := rr
                    have HPH : Hid (Ph (FinK a b M H D i k) m s9 y (if more = [] then 1 else 0) more) := HPH
                    have HO9 : Hid (s9.Ok ((nx + 100 : Nat) : Int)) := HO9
                    have HX9 : Hid (SpAt Bx Sx gx cx pbx w9 s9) := HX9
                    cases more with
                    | nil =>
                      have HPH : Hid (Ph (FinK a b M H D i k) m s9 y 1 []) := HPH
                      go_wp2_with fail
                      refine ⟨⟨j + 1, m, 1, [], _, _, s9, y, nx + 100, ny, by go_num, by rfl, by rfl, by omega, by omega, by omega, HPH, .inl rfl, Nat.zero_le _, HX9, HY9, HO9, HOY, RL9, hbR9⟩, by simp [intOf]; omega⟩
                    | cons o2 more =>
                      have HPH : Hid (Ph (FinK a b M H D i k) m s9 y 0 (o2 :: more)) := HPH
                      have hml : (0 : Int) < ((o2 :: more).length : Int) := by simp <;> omega
                      go_wp2_with fail
                      refine ⟨⟨j + 1, m, 0, o2 :: more, la9, lc9, s9, y, nx + 100, ny, by go_num, by rfl, by rfl, by omega, by omega, by omega, HPH, HM9.out, hcap9, HX9, HY9, HO9, HOY, RL9, hbR9⟩, by simp [intOf]; omega⟩
        · obtain rfl : k = 2 := by omega
          have HPP : Hid (PP a b M H D (i + 1) x y) := HKS.out
          go_wp2_with fail
          refine ⟨⟨i + 1, x, y, nx, ny, by omega, by go_num, by omega, by omega, HPP, HX, HY, HOX, HOY, RL, hbR⟩, by simp [intOf]; omega⟩
    · obtain rfl : i = N := by omega
      have g1 : decide ((i : Int) < 2 * (D : Int) + 3 + n % 30) = false := decide_eq_false (by have := HN.out; omega)
      obtain ⟨⟨hl1, hl2⟩, hs1, hs2, hrr, hend⟩ := pp_end (by omega) (by omega) HPP.out
      have hpx : pbx.length = 2 := by have := HX.out.len; omega
      have hpy : pby.length = 2 := by have := HY.out.len; omega
      have RA7 := Lib.hid (RA6.out.below hbR (by omega))
      have RB7 := Lib.hid (RB6.out.below hbR (by omega))
      have hbR7 := hbW6.trans (hbR.mono (by omega))
      clear HOX HOY RL hbR hnx hny HPP RA6 RB6 hbW6
      rcases hend with ⟨ho, hrt, hx1, hx2, hc1⟩ | ⟨ho, hrt, hx2, hx1, hc1⟩
      · have HRX : Hid (Calls Try.prog 14 #[.pointer (some ⟨Sx, 0, none⟩)] wr fun e w' => e = .returned (.tuple #[.agg #[.int .u8 ((a.f 0).toNat : Int), .int .u8 ((a.f 1).toNat : Int), .int .u8 ((a.f 2).toNat : Int), .int .u8 ((a.f 3).toNat : Int), .int .u8 ((a.f 4).toNat : Int), .int .u8 ((a.f 5).toNat : Int), .int .u8 ((a.f 6).toNat : Int), .int .u8 ((a.f 7).toNat : Int), .int .i64 x.best.c, .int .u8 ((x.best.b.f 0).toNat : Int), .int .u8 ((x.best.b.f 1).toNat : Int), .int .u8 ((x.best.b.f 2).toNat : Int), .int .u8 ((x.best.b.f 3).toNat : Int), .int .u8 ((x.best.b.f 4).toNat : Int), .int .u8 ((x.best.b.f 5).toNat : Int), .int .u8 ((x.best.b.f 6).toNat : Int), .int .u8 ((x.best.b.f 7).toNat : Int), .int .i64 x.best.p], .int .i64 (-1)]) ∧ Below wr.heap.size wr w') := by
          have := root_any Bx Sx gx cx pbx wr x HX.out
          rw [hrt, hx1] at this
          exact Lib.hid this
        go_wp2_with fail
        refine HRX.out.mono ?_
        rintro e wa ⟨rfl, hba⟩
        have RN : RowIs (wa.alloc (.cells #[.int .u8 0, .int .u8 0, .int .u8 0, .int .u8 0, .int .u8 0, .int .u8 0, .int .u8 0, .int .u8 0, .int .i64 0, .int .u8 0, .int .u8 0, .int .u8 0, .int .u8 0, .int .u8 0, .int .u8 0, .int .u8 0, .int .u8 0, .int .i64 0] 38)) wa.heap.size 38 #[.int .u8 0, .int .u8 0, .int .u8 0, .int .u8 0, .int .u8 0, .int .u8 0, .int .u8 0, .int .u8 0, .int .i64 0, .int .u8 0, .int .u8 0, .int .u8 0, .int .u8 0, .int .u8 0, .int .u8 0, .int .u8 0, .int .u8 0, .int .i64 0] := rowIs_new wa _ _
        have hbN : Below wa.heap.size wa (wa.alloc (.cells #[.int .u8 0, .int .u8 0, .int .u8 0, .int .u8 0, .int .u8 0, .int .u8 0, .int .u8 0, .int .u8 0, .int .i64 0, .int .u8 0, .int .u8 0, .int .u8 0, .int .u8 0, .int .u8 0, .int .u8 0, .int .u8 0, .int .u8 0, .int .i64 0] 38)) := (Below.refl _ _).alloc (Nat.le_refl _) _
        go_wp2_with ((with_reducible refine at_store 38 (.tmp 24) (.tmp 140) ?_); refine wpList_store_own rfl 38 (.tmp 24) (.tmp 140) rfl (wa.heap.size) _ rfl rfl _ _ RN (by kernel_rfl) rfl (by simp [Value.oneCell']) wa.heap.size (Nat.le_refl _) ?_)
        intro wb hRb hob hsb hbb
        have hbb := hba.trans ((hbN.trans hbb).mono hba.size)
        have RVb := Lib.hid hRb
        have HXb := Lib.hid (HX.out.later hbb)
        have HYb := Lib.hid (HY.out.later hbb)
        have RAb := Lib.hid (RA7.out.kept hbb)
        have RBb := Lib.hid (RB7.out.kept hbb)
        have hbRb := hbR7.trans (hbb.mono hbR7.size)
        clear RN hbN hRb hob hsb hba hbb HX HY RA7 RB7 hbR7 HRX
        generalize wa.heap.size = va at *
        have HRY : Hid (Calls Try.prog 14 #[.pointer (some ⟨Sy, 0, none⟩)] wb fun e w' => e = .returned (.tuple #[.agg #[.int .u8 ((a.f 0).toNat : Int), .int .u8 ((a.f 1).toNat : Int), .int .u8 ((a.f 2).toNat : Int), .int .u8 ((a.f 3).toNat : Int), .int .u8 ((a.f 4).toNat : Int), .int .u8 ((a.f 5).toNat : Int), .int .u8 ((a.f 6).toNat : Int), .int .u8 ((a.f 7).toNat : Int), .int .i64 20, .int .u8 ((y.best.b.f 0).toNat : Int), .int .u8 ((y.best.b.f 1).toNat : Int), .int .u8 ((y.best.b.f 2).toNat : Int), .int .u8 ((y.best.b.f 3).toNat : Int), .int .u8 ((y.best.b.f 4).toNat : Int), .int .u8 ((y.best.b.f 5).toNat : Int), .int .u8 ((y.best.b.f 6).toNat : Int), .int .u8 ((y.best.b.f 7).toNat : Int), .int .i64 y.best.p], .int .i64 0]) ∧ Below wb.heap.size wb w') := by
          have := root_any By Sy gy cy pby wb y HYb.out
          rw [← hrr, hrt, hx2, hc1] at this
          exact Lib.hid this
        go_wp2_with fail
        refine HRY.out.mono ?_
        rintro e wc ⟨rfl, hbc⟩
        have RN : RowIs (wc.alloc (.cells #[.int .u8 0, .int .u8 0, .int .u8 0, .int .u8 0, .int .u8 0, .int .u8 0, .int .u8 0, .int .u8 0, .int .i64 0, .int .u8 0, .int .u8 0, .int .u8 0, .int .u8 0, .int .u8 0, .int .u8 0, .int .u8 0, .int .u8 0, .int .i64 0] 38)) wc.heap.size 38 #[.int .u8 0, .int .u8 0, .int .u8 0, .int .u8 0, .int .u8 0, .int .u8 0, .int .u8 0, .int .u8 0, .int .i64 0, .int .u8 0, .int .u8 0, .int .u8 0, .int .u8 0, .int .u8 0, .int .u8 0, .int .u8 0, .int .u8 0, .int .i64 0] := rowIs_new wc _ _
        have hbN : Below wc.heap.size wc (wc.alloc (.cells #[.int .u8 0, .int .u8 0, .int .u8 0, .int .u8 0, .int .u8 0, .int .u8 0, .int .u8 0, .int .u8 0, .int .i64 0, .int .u8 0, .int .u8 0, .int .u8 0, .int .u8 0, .int .u8 0, .int .u8 0, .int .u8 0, .int .u8 0, .int .i64 0] 38)) := (Below.refl _ _).alloc (Nat.le_refl _) _
        go_wp2_with ((with_reducible refine at_store 38 (.tmp 26) (.tmp 145) ?_); refine wpList_store_own rfl 38 (.tmp 26) (.tmp 145) rfl (wc.heap.size) _ rfl rfl _ _ RN (by kernel_rfl) rfl (by simp [Value.oneCell']) wc.heap.size (Nat.le_refl _) ?_)
        intro wd hRd hod hsd hbd
        have hbd := hbc.trans ((hbN.trans hbd).mono hbc.size)
        have RYd := Lib.hid hRd
        have RVd := Lib.hid (RVb.out.kept hbd)
        have HXd := Lib.hid (HXb.out.later hbd)
        have HYd := Lib.hid (HYb.out.later hbd)
        have RAd := Lib.hid (RAb.out.kept hbd)
        have RBd := Lib.hid (RBb.out.kept hbd)
        have hbRd := hbRb.trans (hbd.mono hbRb.size)
        clear RN hbN hRd hod hsd hbc hbd HXb HYb RAb RBb hbRb RVb HRY
        generalize wc.heap.size = vb at *
        have HS1 : Hid (Calls Try.prog 13 #[.pointer (some ⟨Sx, 0, none⟩), .int .i64 1] wd fun e w' => e = .returned (.int .i64 3) ∧ wd = w') := by
          have := stateAt_any Bx Sx gx cx pbx wd x HXd.out (by omega) 1 (by decide)
          rw [hs1] at this
          exact Lib.hid this
        have HS2 : Hid (Calls Try.prog 13 #[.pointer (some ⟨Sy, 0, none⟩), .int .i64 0] wd fun e w' => e = .returned (.int .i64 3) ∧ wd = w') := by
          have := stateAt_any By Sy gy cy pby wd y HYd.out (by omega) 0 (by decide)
          rw [hs2] at this
          exact Lib.hid this
        have m1 : ∀ w, (Op.equalIn 10000 23 (.agg #[.int .u8 ((a.f 0).toNat : Int), .int .u8 ((a.f 1).toNat : Int), .int .u8 ((a.f 2).toNat : Int), .int .u8 ((a.f 3).toNat : Int), .int .u8 ((a.f 4).toNat : Int), .int .u8 ((a.f 5).toNat : Int), .int .u8 ((a.f 6).toNat : Int), .int .u8 ((a.f 7).toNat : Int)]) (.agg #[.int .u8 ((a.f 0).toNat : Int), .int .u8 ((a.f 1).toNat : Int), .int .u8 ((a.f 2).toNat : Int), .int .u8 ((a.f 3).toNat : Int), .int .u8 ((a.f 4).toNat : Int), .int .u8 ((a.f 5).toNat : Int), .int .u8 ((a.f 6).toNat : Int), .int .u8 ((a.f 7).toNat : Int)])).run Try.prog w = .ok true w := fun w => by
          have h := run_equalIn_bid 9998 a.f a.f w
          rw [eqB_id, decide_eq_true rfl] at h
          exact h
        have hLS : Hid (Calls Try.prog 21 #[.agg #[.int .u8 ((a.f 0).toNat : Int), .int .u8 ((a.f 1).toNat : Int), .int .u8 ((a.f 2).toNat : Int), .int .u8 ((a.f 3).toNat : Int), .int .u8 ((a.f 4).toNat : Int), .int .u8 ((a.f 5).toNat : Int), .int .u8 ((a.f 6).toNat : Int), .int .u8 ((a.f 7).toNat : Int)], .agg #[.int .u8 ((b.f 0).toNat : Int), .int .u8 ((b.f 1).toNat : Int), .int .u8 ((b.f 2).toNat : Int), .int .u8 ((b.f 3).toNat : Int), .int .u8 ((b.f 4).toNat : Int), .int .u8 ((b.f 5).toNat : Int), .int .u8 ((b.f 6).toNat : Int), .int .u8 ((b.f 7).toNat : Int)]] wd fun e w' => e = .returned (.bool true) ∧ Below wd.heap.size wd w') := by
          have := less_any a.f b.f wd
          rw [show Ord.lt [a.f 0, a.f 1, a.f 2, a.f 3, a.f 4, a.f 5, a.f 6, a.f 7] [b.f 0, b.f 1, b.f 2, b.f 3, b.f 4, b.f 5, b.f 6, b.f 7] = true from ho] at this
          exact Lib.hid this
        go_upto_region 32 with fail
        have ka0 : wd.cell? ⟨va, 0, none⟩ = some (.int .u8 ((a.f 0).toNat : Int)) := RVd.out.cell 0
        have kb0 : wd.cell? ⟨vb, 0, none⟩ = some (.int .u8 ((a.f 0).toNat : Int)) := RYd.out.cell 0
        have ka1 : wd.cell? ⟨va, 1, none⟩ = some (.int .u8 ((a.f 1).toNat : Int)) := RVd.out.cell 1
        have kb1 : wd.cell? ⟨vb, 1, none⟩ = some (.int .u8 ((a.f 1).toNat : Int)) := RYd.out.cell 1
        have ka2 : wd.cell? ⟨va, 2, none⟩ = some (.int .u8 ((a.f 2).toNat : Int)) := RVd.out.cell 2
        have kb2 : wd.cell? ⟨vb, 2, none⟩ = some (.int .u8 ((a.f 2).toNat : Int)) := RYd.out.cell 2
        have ka3 : wd.cell? ⟨va, 3, none⟩ = some (.int .u8 ((a.f 3).toNat : Int)) := RVd.out.cell 3
        have kb3 : wd.cell? ⟨vb, 3, none⟩ = some (.int .u8 ((a.f 3).toNat : Int)) := RYd.out.cell 3
        have ka4 : wd.cell? ⟨va, 4, none⟩ = some (.int .u8 ((a.f 4).toNat : Int)) := RVd.out.cell 4
        have kb4 : wd.cell? ⟨vb, 4, none⟩ = some (.int .u8 ((a.f 4).toNat : Int)) := RYd.out.cell 4
        have ka5 : wd.cell? ⟨va, 5, none⟩ = some (.int .u8 ((a.f 5).toNat : Int)) := RVd.out.cell 5
        have kb5 : wd.cell? ⟨vb, 5, none⟩ = some (.int .u8 ((a.f 5).toNat : Int)) := RYd.out.cell 5
        have ka6 : wd.cell? ⟨va, 6, none⟩ = some (.int .u8 ((a.f 6).toNat : Int)) := RVd.out.cell 6
        have kb6 : wd.cell? ⟨vb, 6, none⟩ = some (.int .u8 ((a.f 6).toNat : Int)) := RYd.out.cell 6
        have ka7 : wd.cell? ⟨va, 7, none⟩ = some (.int .u8 ((a.f 7).toNat : Int)) := RVd.out.cell 7
        have kb7 : wd.cell? ⟨vb, 7, none⟩ = some (.int .u8 ((a.f 7).toNat : Int)) := RYd.out.cell 7
        go_wp2_with fail
        refine HS1.out.mono ?_
        rintro e we ⟨rfl, rfl⟩
        go_wp2_with fail
        refine HS2.out.mono ?_
        rintro e we ⟨rfl, rfl⟩
        go_wp2_with (first
          | ((with_reducible refine at_load 23 (.tmp 4) ?_); refine wpList_load_own rfl 23 (.tmp 4) rfl (w.heap.size) rfl _ _ _ RAd.out Try.underlying23 rfl (by kernel_rfl) ?_)
          | ((with_reducible refine at_load 23 (.tmp 5) ?_); refine wpList_load_own rfl 23 (.tmp 5) rfl (w.heap.size + 1) rfl _ _ _ RBd.out Try.underlying23 rfl (by kernel_rfl) ?_))
        refine hLS.out.mono ?_
        rintro e wf ⟨rfl, hbf⟩
        have RVf := Lib.hid (RVd.out.kept hbf)
        have RYf := Lib.hid (RYd.out.kept hbf)
        have RAf := Lib.hid (RAd.out.kept hbf)
        have RBf := Lib.hid (RBd.out.kept hbf)
        have hbRf := hbRd.trans (hbf.mono hbRd.size)
        clear ka0 ka1 ka2 ka3 ka4 ka5 ka6 ka7 kb0 kb1 kb2 kb3 kb4 kb5 kb6 kb7
        clear RVd RYd RAd RBd hbRd HXd HYd HS1 HS2 hLS hbf
        have k1 : wf.cell? ⟨vb, 8, none⟩ = some (.int .i64 20) := RYf.out.cell 8
        go_wp2_with (first
          | ((with_reducible refine at_load 23 (.tmp 165) ?_); refine wpList_load_mid rfl 23 (.tmp 165) rfl (va) 0 rfl [.int .u8 ((a.f 0).toNat : Int), .int .u8 ((a.f 1).toNat : Int), .int .u8 ((a.f 2).toNat : Int), .int .u8 ((a.f 3).toNat : Int), .int .u8 ((a.f 4).toNat : Int), .int .u8 ((a.f 5).toNat : Int), .int .u8 ((a.f 6).toNat : Int), .int .u8 ((a.f 7).toNat : Int)] _ (range_of_row RVf.out rfl) Try.underlying23 rfl (by kernel_rfl) ?_)
          | ((with_reducible refine at_load 23 (.tmp 182) ?_); refine wpList_load_mid rfl 23 (.tmp 182) rfl (va) 0 rfl [.int .u8 ((a.f 0).toNat : Int), .int .u8 ((a.f 1).toNat : Int), .int .u8 ((a.f 2).toNat : Int), .int .u8 ((a.f 3).toNat : Int), .int .u8 ((a.f 4).toNat : Int), .int .u8 ((a.f 5).toNat : Int), .int .u8 ((a.f 6).toNat : Int), .int .u8 ((a.f 7).toNat : Int)] _ (range_of_row RVf.out rfl) Try.underlying23 rfl (by kernel_rfl) ?_)
          | ((with_reducible refine at_load 23 (.tmp 4) ?_); refine wpList_load_own rfl 23 (.tmp 4) rfl (w.heap.size) rfl _ _ _ RAf.out Try.underlying23 rfl (by kernel_rfl) ?_)
          | ((with_reducible refine at_load 23 (.tmp 5) ?_); refine wpList_load_own rfl 23 (.tmp 5) rfl (w.heap.size + 1) rfl _ _ _ RBf.out Try.underlying23 rfl (by kernel_rfl) ?_))
        go_ret
        exact ⟨rfl, hbRf⟩
      · have HRX : Hid (Calls Try.prog 14 #[.pointer (some ⟨Sx, 0, none⟩)] wr fun e w' => e = .returned (.tuple #[.agg #[.int .u8 ((b.f 0).toNat : Int), .int .u8 ((b.f 1).toNat : Int), .int .u8 ((b.f 2).toNat : Int), .int .u8 ((b.f 3).toNat : Int), .int .u8 ((b.f 4).toNat : Int), .int .u8 ((b.f 5).toNat : Int), .int .u8 ((b.f 6).toNat : Int), .int .u8 ((b.f 7).toNat : Int), .int .i64 20, .int .u8 ((x.best.b.f 0).toNat : Int), .int .u8 ((x.best.b.f 1).toNat : Int), .int .u8 ((x.best.b.f 2).toNat : Int), .int .u8 ((x.best.b.f 3).toNat : Int), .int .u8 ((x.best.b.f 4).toNat : Int), .int .u8 ((x.best.b.f 5).toNat : Int), .int .u8 ((x.best.b.f 6).toNat : Int), .int .u8 ((x.best.b.f 7).toNat : Int), .int .i64 x.best.p], .int .i64 1]) ∧ Below wr.heap.size wr w') := by
          have := root_any Bx Sx gx cx pbx wr x HX.out
          rw [hrt, hx1, hc1] at this
          exact Lib.hid this
        go_wp2_with fail
        refine HRX.out.mono ?_
        rintro e wa ⟨rfl, hba⟩
        have RN : RowIs (wa.alloc (.cells #[.int .u8 0, .int .u8 0, .int .u8 0, .int .u8 0, .int .u8 0, .int .u8 0, .int .u8 0, .int .u8 0, .int .i64 0, .int .u8 0, .int .u8 0, .int .u8 0, .int .u8 0, .int .u8 0, .int .u8 0, .int .u8 0, .int .u8 0, .int .i64 0] 38)) wa.heap.size 38 #[.int .u8 0, .int .u8 0, .int .u8 0, .int .u8 0, .int .u8 0, .int .u8 0, .int .u8 0, .int .u8 0, .int .i64 0, .int .u8 0, .int .u8 0, .int .u8 0, .int .u8 0, .int .u8 0, .int .u8 0, .int .u8 0, .int .u8 0, .int .i64 0] := rowIs_new wa _ _
        have hbN : Below wa.heap.size wa (wa.alloc (.cells #[.int .u8 0, .int .u8 0, .int .u8 0, .int .u8 0, .int .u8 0, .int .u8 0, .int .u8 0, .int .u8 0, .int .i64 0, .int .u8 0, .int .u8 0, .int .u8 0, .int .u8 0, .int .u8 0, .int .u8 0, .int .u8 0, .int .u8 0, .int .i64 0] 38)) := (Below.refl _ _).alloc (Nat.le_refl _) _
        go_wp2_with ((with_reducible refine at_store 38 (.tmp 24) (.tmp 140) ?_); refine wpList_store_own rfl 38 (.tmp 24) (.tmp 140) rfl (wa.heap.size) _ rfl rfl _ _ RN (by kernel_rfl) rfl (by simp [Value.oneCell']) wa.heap.size (Nat.le_refl _) ?_)
        intro wb hRb hob hsb hbb
        have hbb := hba.trans ((hbN.trans hbb).mono hba.size)
        have RVb := Lib.hid hRb
        have HXb := Lib.hid (HX.out.later hbb)
        have HYb := Lib.hid (HY.out.later hbb)
        have RAb := Lib.hid (RA7.out.kept hbb)
        have RBb := Lib.hid (RB7.out.kept hbb)
        have hbRb := hbR7.trans (hbb.mono hbR7.size)
        clear RN hbN hRb hob hsb hba hbb HX HY RA7 RB7 hbR7 HRX
        generalize wa.heap.size = va at *
        have HRY : Hid (Calls Try.prog 14 #[.pointer (some ⟨Sy, 0, none⟩)] wb fun e w' => e = .returned (.tuple #[.agg #[.int .u8 ((b.f 0).toNat : Int), .int .u8 ((b.f 1).toNat : Int), .int .u8 ((b.f 2).toNat : Int), .int .u8 ((b.f 3).toNat : Int), .int .u8 ((b.f 4).toNat : Int), .int .u8 ((b.f 5).toNat : Int), .int .u8 ((b.f 6).toNat : Int), .int .u8 ((b.f 7).toNat : Int), .int .i64 y.best.c, .int .u8 ((y.best.b.f 0).toNat : Int), .int .u8 ((y.best.b.f 1).toNat : Int), .int .u8 ((y.best.b.f 2).toNat : Int), .int .u8 ((y.best.b.f 3).toNat : Int), .int .u8 ((y.best.b.f 4).toNat : Int), .int .u8 ((y.best.b.f 5).toNat : Int), .int .u8 ((y.best.b.f 6).toNat : Int), .int .u8 ((y.best.b.f 7).toNat : Int), .int .i64 y.best.p], .int .i64 (-1)]) ∧ Below wb.heap.size wb w') := by
          have := root_any By Sy gy cy pby wb y HYb.out
          rw [← hrr, hrt, hx2] at this
          exact Lib.hid this
        go_wp2_with fail
        refine HRY.out.mono ?_
        rintro e wc ⟨rfl, hbc⟩
        have RN : RowIs (wc.alloc (.cells #[.int .u8 0, .int .u8 0, .int .u8 0, .int .u8 0, .int .u8 0, .int .u8 0, .int .u8 0, .int .u8 0, .int .i64 0, .int .u8 0, .int .u8 0, .int .u8 0, .int .u8 0, .int .u8 0, .int .u8 0, .int .u8 0, .int .u8 0, .int .i64 0] 38)) wc.heap.size 38 #[.int .u8 0, .int .u8 0, .int .u8 0, .int .u8 0, .int .u8 0, .int .u8 0, .int .u8 0, .int .u8 0, .int .i64 0, .int .u8 0, .int .u8 0, .int .u8 0, .int .u8 0, .int .u8 0, .int .u8 0, .int .u8 0, .int .u8 0, .int .i64 0] := rowIs_new wc _ _
        have hbN : Below wc.heap.size wc (wc.alloc (.cells #[.int .u8 0, .int .u8 0, .int .u8 0, .int .u8 0, .int .u8 0, .int .u8 0, .int .u8 0, .int .u8 0, .int .i64 0, .int .u8 0, .int .u8 0, .int .u8 0, .int .u8 0, .int .u8 0, .int .u8 0, .int .u8 0, .int .u8 0, .int .i64 0] 38)) := (Below.refl _ _).alloc (Nat.le_refl _) _
        go_wp2_with ((with_reducible refine at_store 38 (.tmp 26) (.tmp 145) ?_); refine wpList_store_own rfl 38 (.tmp 26) (.tmp 145) rfl (wc.heap.size) _ rfl rfl _ _ RN (by kernel_rfl) rfl (by simp [Value.oneCell']) wc.heap.size (Nat.le_refl _) ?_)
        intro wd hRd hod hsd hbd
        have hbd := hbc.trans ((hbN.trans hbd).mono hbc.size)
        have RYd := Lib.hid hRd
        have RVd := Lib.hid (RVb.out.kept hbd)
        have HXd := Lib.hid (HXb.out.later hbd)
        have HYd := Lib.hid (HYb.out.later hbd)
        have RAd := Lib.hid (RAb.out.kept hbd)
        have RBd := Lib.hid (RBb.out.kept hbd)
        have hbRd := hbRb.trans (hbd.mono hbRb.size)
        clear RN hbN hRd hod hsd hbc hbd HXb HYb RAb RBb hbRb RVb HRY
        generalize wc.heap.size = vb at *
        have HS1 : Hid (Calls Try.prog 13 #[.pointer (some ⟨Sx, 0, none⟩), .int .i64 1] wd fun e w' => e = .returned (.int .i64 3) ∧ wd = w') := by
          have := stateAt_any Bx Sx gx cx pbx wd x HXd.out (by omega) 1 (by decide)
          rw [hs1] at this
          exact Lib.hid this
        have HS2 : Hid (Calls Try.prog 13 #[.pointer (some ⟨Sy, 0, none⟩), .int .i64 0] wd fun e w' => e = .returned (.int .i64 3) ∧ wd = w') := by
          have := stateAt_any By Sy gy cy pby wd y HYd.out (by omega) 0 (by decide)
          rw [hs2] at this
          exact Lib.hid this
        have m1 : ∀ w, (Op.equalIn 10000 23 (.agg #[.int .u8 ((b.f 0).toNat : Int), .int .u8 ((b.f 1).toNat : Int), .int .u8 ((b.f 2).toNat : Int), .int .u8 ((b.f 3).toNat : Int), .int .u8 ((b.f 4).toNat : Int), .int .u8 ((b.f 5).toNat : Int), .int .u8 ((b.f 6).toNat : Int), .int .u8 ((b.f 7).toNat : Int)]) (.agg #[.int .u8 ((b.f 0).toNat : Int), .int .u8 ((b.f 1).toNat : Int), .int .u8 ((b.f 2).toNat : Int), .int .u8 ((b.f 3).toNat : Int), .int .u8 ((b.f 4).toNat : Int), .int .u8 ((b.f 5).toNat : Int), .int .u8 ((b.f 6).toNat : Int), .int .u8 ((b.f 7).toNat : Int)])).run Try.prog w = .ok true w := fun w => by
          have h := run_equalIn_bid 9998 b.f b.f w
          rw [eqB_id, decide_eq_true rfl] at h
          exact h
        have hLS : Hid (Calls Try.prog 21 #[.agg #[.int .u8 ((a.f 0).toNat : Int), .int .u8 ((a.f 1).toNat : Int), .int .u8 ((a.f 2).toNat : Int), .int .u8 ((a.f 3).toNat : Int), .int .u8 ((a.f 4).toNat : Int), .int .u8 ((a.f 5).toNat : Int), .int .u8 ((a.f 6).toNat : Int), .int .u8 ((a.f 7).toNat : Int)], .agg #[.int .u8 ((b.f 0).toNat : Int), .int .u8 ((b.f 1).toNat : Int), .int .u8 ((b.f 2).toNat : Int), .int .u8 ((b.f 3).toNat : Int), .int .u8 ((b.f 4).toNat : Int), .int .u8 ((b.f 5).toNat : Int), .int .u8 ((b.f 6).toNat : Int), .int .u8 ((b.f 7).toNat : Int)]] wd fun e w' => e = .returned (.bool false) ∧ Below wd.heap.size wd w') := by
          have := less_any a.f b.f wd
          rw [show Ord.lt [a.f 0, a.f 1, a.f 2, a.f 3, a.f 4, a.f 5, a.f 6, a.f 7] [b.f 0, b.f 1, b.f 2, b.f 3, b.f 4, b.f 5, b.f 6, b.f 7] = false from ho] at this
          exact Lib.hid this
        go_upto_region 32 with fail
        have ka0 : wd.cell? ⟨va, 0, none⟩ = some (.int .u8 ((b.f 0).toNat : Int)) := RVd.out.cell 0
        have kb0 : wd.cell? ⟨vb, 0, none⟩ = some (.int .u8 ((b.f 0).toNat : Int)) := RYd.out.cell 0
        have ka1 : wd.cell? ⟨va, 1, none⟩ = some (.int .u8 ((b.f 1).toNat : Int)) := RVd.out.cell 1
        have kb1 : wd.cell? ⟨vb, 1, none⟩ = some (.int .u8 ((b.f 1).toNat : Int)) := RYd.out.cell 1
        have ka2 : wd.cell? ⟨va, 2, none⟩ = some (.int .u8 ((b.f 2).toNat : Int)) := RVd.out.cell 2
        have kb2 : wd.cell? ⟨vb, 2, none⟩ = some (.int .u8 ((b.f 2).toNat : Int)) := RYd.out.cell 2
        have ka3 : wd.cell? ⟨va, 3, none⟩ = some (.int .u8 ((b.f 3).toNat : Int)) := RVd.out.cell 3
        have kb3 : wd.cell? ⟨vb, 3, none⟩ = some (.int .u8 ((b.f 3).toNat : Int)) := RYd.out.cell 3
        have ka4 : wd.cell? ⟨va, 4, none⟩ = some (.int .u8 ((b.f 4).toNat : Int)) := RVd.out.cell 4
        have kb4 : wd.cell? ⟨vb, 4, none⟩ = some (.int .u8 ((b.f 4).toNat : Int)) := RYd.out.cell 4
        have ka5 : wd.cell? ⟨va, 5, none⟩ = some (.int .u8 ((b.f 5).toNat : Int)) := RVd.out.cell 5
        have kb5 : wd.cell? ⟨vb, 5, none⟩ = some (.int .u8 ((b.f 5).toNat : Int)) := RYd.out.cell 5
        have ka6 : wd.cell? ⟨va, 6, none⟩ = some (.int .u8 ((b.f 6).toNat : Int)) := RVd.out.cell 6
        have kb6 : wd.cell? ⟨vb, 6, none⟩ = some (.int .u8 ((b.f 6).toNat : Int)) := RYd.out.cell 6
        have ka7 : wd.cell? ⟨va, 7, none⟩ = some (.int .u8 ((b.f 7).toNat : Int)) := RVd.out.cell 7
        have kb7 : wd.cell? ⟨vb, 7, none⟩ = some (.int .u8 ((b.f 7).toNat : Int)) := RYd.out.cell 7
        go_wp2_with fail
        refine HS1.out.mono ?_
        rintro e we ⟨rfl, rfl⟩
        go_wp2_with fail
        refine HS2.out.mono ?_
        rintro e we ⟨rfl, rfl⟩
        go_wp2_with (first
          | ((with_reducible refine at_load 23 (.tmp 4) ?_); refine wpList_load_own rfl 23 (.tmp 4) rfl (w.heap.size) rfl _ _ _ RAd.out Try.underlying23 rfl (by kernel_rfl) ?_)
          | ((with_reducible refine at_load 23 (.tmp 5) ?_); refine wpList_load_own rfl 23 (.tmp 5) rfl (w.heap.size + 1) rfl _ _ _ RBd.out Try.underlying23 rfl (by kernel_rfl) ?_))
        refine hLS.out.mono ?_
        rintro e wf ⟨rfl, hbf⟩
        have RVf := Lib.hid (RVd.out.kept hbf)
        have RYf := Lib.hid (RYd.out.kept hbf)
        have RAf := Lib.hid (RAd.out.kept hbf)
        have RBf := Lib.hid (RBd.out.kept hbf)
        have hbRf := hbRd.trans (hbf.mono hbRd.size)
        clear ka0 ka1 ka2 ka3 ka4 ka5 ka6 ka7 kb0 kb1 kb2 kb3 kb4 kb5 kb6 kb7
        clear RVd RYd RAd RBd hbRd HXd HYd HS1 HS2 hLS hbf
        have k1 : wf.cell? ⟨va, 8, none⟩ = some (.int .i64 20) := RVf.out.cell 8
        go_wp2_with (first
          | ((with_reducible refine at_load 23 (.tmp 165) ?_); refine wpList_load_mid rfl 23 (.tmp 165) rfl (va) 0 rfl [.int .u8 ((b.f 0).toNat : Int), .int .u8 ((b.f 1).toNat : Int), .int .u8 ((b.f 2).toNat : Int), .int .u8 ((b.f 3).toNat : Int), .int .u8 ((b.f 4).toNat : Int), .int .u8 ((b.f 5).toNat : Int), .int .u8 ((b.f 6).toNat : Int), .int .u8 ((b.f 7).toNat : Int)] _ (range_of_row RVf.out rfl) Try.underlying23 rfl (by kernel_rfl) ?_)
          | ((with_reducible refine at_load 23 (.tmp 182) ?_); refine wpList_load_mid rfl 23 (.tmp 182) rfl (va) 0 rfl [.int .u8 ((b.f 0).toNat : Int), .int .u8 ((b.f 1).toNat : Int), .int .u8 ((b.f 2).toNat : Int), .int .u8 ((b.f 3).toNat : Int), .int .u8 ((b.f 4).toNat : Int), .int .u8 ((b.f 5).toNat : Int), .int .u8 ((b.f 6).toNat : Int), .int .u8 ((b.f 7).toNat : Int)] _ (range_of_row RVf.out rfl) Try.underlying23 rfl (by kernel_rfl) ?_)
          | ((with_reducible refine at_load 23 (.tmp 4) ?_); refine wpList_load_own rfl 23 (.tmp 4) rfl (w.heap.size) rfl _ _ _ RAf.out Try.underlying23 rfl (by kernel_rfl) ?_)
          | ((with_reducible refine at_load 23 (.tmp 5) ?_); refine wpList_load_own rfl 23 (.tmp 5) rfl (w.heap.size + 1) rfl _ _ _ RBf.out Try.underlying23 rfl (by kernel_rfl) ?_))
        go_ret
        exact ⟨rfl, hbRf⟩
theorem spanPair_walk (fa fb : Nat → UInt8) (ta tb tc : UInt8) (n : Int) (hn : (Lit.int .u8 n).wf = true) (w : World) :
    Calls Try.prog 7 #[.agg #[.int .u8 ((fa 0).toNat : Int), .int .u8 ((fa 1).toNat : Int), .int .u8 ((fa 2).toNat : Int), .int .u8 ((fa 3).toNat : Int), .int .u8 ((fa 4).toNat : Int), .int .u8 ((fa 5).toNat : Int), .int .u8 ((fa 6).toNat : Int), .int .u8 ((fa 7).toNat : Int)], .agg #[.int .u8 ((fb 0).toNat : Int), .int .u8 ((fb 1).toNat : Int), .int .u8 ((fb 2).toNat : Int), .int .u8 ((fb 3).toNat : Int), .int .u8 ((fb 4).toNat : Int), .int .u8 ((fb 5).toNat : Int), .int .u8 ((fb 6).toNat : Int), .int .u8 ((fb 7).toNat : Int)], .agg #[.int .u8 (ta.toNat : Int), .int .u8 (tb.toNat : Int), .int .u8 (tc.toNat : Int)], .int .u8 n] w fun e w' => e = .returned (.bool true) ∧ Below w.heap.size w w' := by
  have key : ∀ a b : Id8, Calls Try.prog 7 #[.agg #[.int .u8 ((a.f 0).toNat : Int), .int .u8 ((a.f 1).toNat : Int), .int .u8 ((a.f 2).toNat : Int), .int .u8 ((a.f 3).toNat : Int), .int .u8 ((a.f 4).toNat : Int), .int .u8 ((a.f 5).toNat : Int), .int .u8 ((a.f 6).toNat : Int), .int .u8 ((a.f 7).toNat : Int)], .agg #[.int .u8 ((b.f 0).toNat : Int), .int .u8 ((b.f 1).toNat : Int), .int .u8 ((b.f 2).toNat : Int), .int .u8 ((b.f 3).toNat : Int), .int .u8 ((b.f 4).toNat : Int), .int .u8 ((b.f 5).toNat : Int), .int .u8 ((b.f 6).toNat : Int), .int .u8 ((b.f 7).toNat : Int)], .agg #[.int .u8 (ta.toNat : Int), .int .u8 (tb.toNat : Int), .int .u8 (tc.toNat : Int)], .int .u8 n] w fun e w' => e = .returned (.bool true) ∧ Below w.heap.size w w' := by
    intro a b
    by_cases h : a = b
    · subst h
      exact spanPair_same a ta tb tc n w
    · exact spanPair_go a b h ta tb tc n (by simp only [Lit.wf, Bool.and_eq_true, decide_eq_true_eq] at hn; exact hn) w
  exact key (Id8.of fa) (Id8.of fb)

end Go.Proofs.Ytnpoholeemcklaa
