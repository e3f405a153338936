/- The walk of WholeFrames. By an AI agent. -/
import Derived.Test.YtdkgjbakbnhmaaaTop0
import Derived.Test.YtdkgjbakbnhmaaaTop5
import Derived.Test.YtdkgjbakbnhmaaaTunPieces
import Derived.Test.YtdkgjbakbnhmaaaArrays
namespace Go.Proofs.Ytdkgjbakbnhmaaa
open Go.RowKit Go.Sort Grow

set_option maxRecDepth 20000 in
set_option maxHeartbeats 8000000 in
theorem whole_right (d s : Nat → UInt8) (ty v pr : Int) (body : ByteArray) (n q : Nat) (w : World) (h : Eth.right ty v pr body.size) (hn : n < 4294967296) (hq : q < 256) :
    Calls Try.prog 3 #[.agg #[.int .u8 ((d 0).toNat : Int), .int .u8 ((d 1).toNat : Int), .int .u8 ((d 2).toNat : Int), .int .u8 ((d 3).toNat : Int), .int .u8 ((d 4).toNat : Int), .int .u8 ((d 5).toNat : Int), .int .u8 ((s 0).toNat : Int), .int .u8 ((s 1).toNat : Int), .int .u8 ((s 2).toNat : Int), .int .u8 ((s 3).toNat : Int), .int .u8 ((s 4).toNat : Int), .int .u8 ((s 5).toNat : Int), .int .i64 ty, .string body, .int .i64 v, .int .i64 pr], .int .u32 n, .int .u8 q] w fun e w' => e = .returned (.bool true) ∧ Below w.heap.size w w' := by
  have HOF := Lib.hid (fun w => of_any d s ty v pr body w)
  have HPR := Lib.hid (fun w => ethPrint_ok d s ty v pr body w h)
  have HPA := Lib.hid (fun w => parse_any d s ty v pr body w h)
  have HPL := Lib.hid (fun w => plain_any d s ty v pr body w)
  have hbz : body.size ≤ 1500 := h.2.2
  have hts := Eth.text_size (d := [d 0, d 1, d 2, d 3, d 4, d 5]) (s := [s 0, s 1, s 2, s 3, s 4, s 5]) rfl rfl ty v pr body
  generalize Eth.text [d 0, d 1, d 2, d 3, d 4, d 5] [s 0, s 1, s 2, s 3, s 4, s 5] ty v pr body = x at *
  have h1 : 1 ≤ x.size := by omega
  have h2 : x.size ≤ 1536 := by omega
  have hb2 : ¬ 2000 < body.size := by omega
  clear h hts hbz
  have HC := Lib.hid (fun w => cut_any n x w hn h1 h2)
  have hc1 : 1 ≤ Tun.count x.size := by unfold Tun.count; omega
  have hc3 : Tun.count x.size ≤ 3 := by unfold Tun.count; omega
  obtain ⟨kk, HKK⟩ : ∃ kk : Nat → Nat, Hid (kk = fun i => Tun.at' (Tun.count x.size) q i) := ⟨_, rfl⟩
  have HPLC : Hid (∀ i, i < Tun.count x.size → kk i < Tun.count x.size ∧ ∀ j, j < i → kk j ≠ kk i) := by
    rw [show kk = _ from HKK.out]
    exact Tun.fore_ok _ q hc1 hc3
  have HSTEP := Lib.hid (fun (B J i : Nat) (w' : World) (hB : B ≤ w'.heap.size) (hi : i + 1 < Tun.count x.size) (h : JIs B J w' (Tun.kept n x kk i)) => Tun.step B J n i x kk w' hB hn h2 HPLC.out hi h)
  have HLAST := Lib.hid (fun (B J i : Nat) (w' : World) (hB : B ≤ w'.heap.size) (hi : i + 1 = Tun.count x.size) (h : JIs B J w' (Tun.kept n x kk i)) => Tun.last B J n i x kk w' hB hn h2 HPLC.out hi h)
  have HPS : Hid (∀ i (h : i < Tun.count x.size), ∃ hh, (Tun.pieces n x)[i]'hh = Tun.piece n (Tun.count x.size) x i) := fun i h => ⟨by simpa [Tun.pieces] using h, by simp [Tun.pieces]⟩
  have HPN : Hid (Tun.pieces n x ≠ []) := by
    intro e
    have := congrArg List.length e
    simp [Tun.pieces] at this
    omega
  generalize hcc : Tun.count x.size = c at *
  clear hcc hn h1 h2
  have HIE : Hid ((Try.prog.info? 33).map (·.size) = some 16) := by show _ = _; kernel_rfl
  have HI8 : Hid ((Try.prog.info? 27).map (·.size) = some 16) := by show _ = _; kernel_rfl
  go_enter Try.func3, Try.ntmps3
  have XP0 : Hid (RowIs (w.alloc (.cells #[.int .u8 ((d 0).toNat : Int), .int .u8 ((d 1).toNat : Int), .int .u8 ((d 2).toNat : Int), .int .u8 ((d 3).toNat : Int), .int .u8 ((d 4).toNat : Int), .int .u8 ((d 5).toNat : Int), .int .u8 ((s 0).toNat : Int), .int .u8 ((s 1).toNat : Int), .int .u8 ((s 2).toNat : Int), .int .u8 ((s 3).toNat : Int), .int .u8 ((s 4).toNat : Int), .int .u8 ((s 5).toNat : Int), .int .i64 ty, .string body, .int .i64 v, .int .i64 pr] 27)) w.heap.size 27 #[.int .u8 ((d 0).toNat : Int), .int .u8 ((d 1).toNat : Int), .int .u8 ((d 2).toNat : Int), .int .u8 ((d 3).toNat : Int), .int .u8 ((d 4).toNat : Int), .int .u8 ((d 5).toNat : Int), .int .u8 ((s 0).toNat : Int), .int .u8 ((s 1).toNat : Int), .int .u8 ((s 2).toNat : Int), .int .u8 ((s 3).toNat : Int), .int .u8 ((s 4).toNat : Int), .int .u8 ((s 5).toNat : Int), .int .i64 ty, .string body, .int .i64 v, .int .i64 pr]) := by show RowIs _ _ _ _; exact rowIs_new w _ _
  have HB0 : Hid (Below w.heap.size w (w.alloc (.cells #[.int .u8 ((d 0).toNat : Int), .int .u8 ((d 1).toNat : Int), .int .u8 ((d 2).toNat : Int), .int .u8 ((d 3).toNat : Int), .int .u8 ((d 4).toNat : Int), .int .u8 ((d 5).toNat : Int), .int .u8 ((s 0).toNat : Int), .int .u8 ((s 1).toNat : Int), .int .u8 ((s 2).toNat : Int), .int .u8 ((s 3).toNat : Int), .int .u8 ((s 4).toNat : Int), .int .u8 ((s 5).toNat : Int), .int .i64 ty, .string body, .int .i64 v, .int .i64 pr] 27))) := (Below.refl _ _).alloc (Nat.le_refl _) _
  go_wp2_with fail
  refine (goes_any _).mono ?_
  rintro e w1 ⟨rfl, hb⟩
  have XP1 := Lib.hid (XP0.out.kept hb)
  have HB1 := Lib.hid (HB0.out.trans (hb.mono HB0.out.size))
  clear hb XP0 HB0
  have c13 : w1.cell? ⟨w.heap.size, 13, none⟩ = some (.string body) := XP1.out.cell 13
  go_wp2_with ((with_reducible refine at_load 27 (.tmp 3) ?_); refine wpList_load_own rfl 27 (.tmp 3) rfl w.heap.size rfl _ _ _ XP1.out Try.underlying27 rfl HI8.out ?_)
  clear c13 hb2
  refine (HOF.out _).mono ?_
  rintro e w2 ⟨rfl, hb⟩
  have XP2 := Lib.hid (XP1.out.kept hb)
  have HB2 := Lib.hid (HB1.out.trans (hb.mono HB1.out.size))
  clear hb XP1 HB1 HOF
  go_wp2_with fail
  refine (HPR.out _).mono ?_
  rintro e w3 ⟨rfl, hb⟩
  have XP3 := Lib.hid (XP2.out.kept hb)
  have HB3 := Lib.hid (HB2.out.trans (hb.mono HB2.out.size))
  clear hb XP2 HB2 HPR
  go_wp2_with fail
  refine (HC.out _).mono ?_
  rintro e w4 ⟨ao, cap, rfl, hat, hb⟩
  have XP4 := Lib.hid (XP3.out.kept hb)
  have HB4 := Lib.hid (HB3.out.trans (hb.mono HB3.out.size))
  clear hb XP3 HB3 HC
  obtain ⟨ab, off, rfl, habl, hcell⟩ : ∃ b off, ao = some ⟨b, off, none⟩ ∧ b < w4.heap.size ∧ ∀ i, i < c → w4.cell? ⟨b, off + i, none⟩ = some (.string (Tun.piece n c x i)) := by
    rcases hat with h | ⟨b, off, e, h1, h2⟩
    · exact absurd h HPN.out
    · refine ⟨b, off, e, h1, fun i hi => ?_⟩
      obtain ⟨hh, e⟩ := HPS.out i hi
      rw [h2 i hh, e]
  have HCELL := Lib.hid hcell
  clear hat hcell HPN HPS
  go_upto_region 8 with fail
  have hJ0 := joinIs_new w4 w4.heap.size (Nat.le_refl _)
  have HJ0 : Hid (JIs w4.heap.size w4.heap.size (w4.alloc (.cells #[.slice none 0 0, .map none] 42)) []) := ⟨[], hJ0, rfl⟩
  have hb3 : Below w4.heap.size w4 (w4.alloc (.cells #[.slice none 0 0, .map none] 42)) := (Below.refl _ _).alloc (Nat.le_refl _) _
  clear hJ0
  have HXB : w.heap.size < w4.heap.size := XP4.out.lt
  generalize (w4.alloc (.cells #[.slice none 0 0, .map none] 42)) = w5 at *
  generalize hB : w4.heap.size = B at *
  go_wp2_with fail
  go_loopw [12] (fun i wr => ∃ k : Nat, k < c ∧ i = .int .i64 k ∧ Hid (JIs B B wr (Tun.kept n x kk k)) ∧ Below B w4 wr) (fun i _ => c - (intOf i).toNat)
  case atStart => exact ⟨0, by omega, rfl, by
    show JIs _ _ _ _
    exact HJ0.out, hb3⟩
  case round =>
    rename_i wr
    obtain ⟨k, hlt, rfl, HJ, hbr⟩ := hrel
    have hBr : B ≤ wr.heap.size := by rw [← hB]; exact hbr.size
    have hkc := (HPLC.out k hlt).1
    have c0 : wr.cell? ⟨ab, off + kk k, none⟩ = some (.string (Tun.piece n c x (kk k))) := (hbr.cell (p := ⟨ab, off + kk k, none⟩) (by first | exact habl | (rw [hB] at habl; exact habl))).trans (HCELL.out _ hkc)
    have hkv : kk k = (k + q) % c := by rw [show kk = _ from HKK.out]; rfl
    have c0 : wr.cell? ⟨ab, off + (k + q) % c, none⟩ = some (.string (Tun.piece n c x (kk k))) := by rw [← hkv]; exact c0
    clear hkv
    have hib : (0 : Int) ≤ ((k : Int) + (q : Int)) % (c : Int) ∧ ((k : Int) + (q : Int)) % (c : Int) < (c : Int) := ⟨Int.emod_nonneg _ (by omega), Int.emod_lt_of_pos _ (by omega)⟩
    have hib2 : (k + q) % c < c := Nat.mod_lt _ (by omega)
    go_upto_region 11 with fail
    rcases Nat.lt_or_ge (k + 1) c with hlt1 | hlt1
    · have H1 := Lib.hid (HSTEP.out B B k wr hBr hlt1 HJ.out)
      have hne : ((k : Int) == (c : Int) - 1) = false := by rw [beq_eq_false_iff_ne]; omega
      go_wp2_with fail
      refine H1.out.mono ?_
      rintro e w6 ⟨rfl, hj4, hb4, ho4⟩
      have HJ4 := Lib.hid hj4
      have hbr4 := hbr.trans hb4
      clear hj4 hb4 ho4 c0 H1
      go_wp2_with fail
      refine ⟨⟨k + 1, hlt1, by go_num, HJ4, hbr4⟩, by simp [intOf]; omega⟩
    · have hlt2 : k + 1 = c := by omega
      have H1 := Lib.hid (HLAST.out B B k wr hBr hlt2 HJ.out)
      have heq : ((k : Int) == (c : Int) - 1) = true := by rw [beq_iff_eq]; omega
      go_wp2_with fail
      refine H1.out.mono ?_
      rintro e w6 ⟨rfl, hj4, hb4, ho4⟩
      have hbr4 := hbr.trans hb4
      have XP6 := Lib.hid (XP4.out.below hbr4 (by omega))
      have HB6 := Lib.hid (HB4.out.trans (hbr4.mono (by omega)))
      clear hj4 hb4 ho4 c0 H1 hbr hbr4 XP4 HB4 HJ HSTEP HLAST HCELL hib hib2
      go_wp2_with fail
      refine (HPA.out _).mono ?_
      rintro e w7 ⟨rfl, hb⟩
      have XP7 := Lib.hid (XP6.out.kept hb)
      have HB7 := Lib.hid (HB6.out.trans (hb.mono HB6.out.size))
      clear hb XP6 HB6 HPA
      go_wp2_with ((with_reducible refine at_store 33 (.tmp 16) (.tmp 81) ?_); refine wpList_store_own rfl 33 (.tmp 16) (.tmp 81) rfl w7.heap.size _ rfl rfl _ _ (rowIs_new _ _ _) HIE.out rfl (by kernel_rfl) w7.heap.size (Nat.le_refl _) ?_)
      intro w8 hY _ _ hb
      have hb' : Below w7.heap.size w7 w8 := ((Below.refl _ w7).alloc (Nat.le_refl _) _).trans hb
      have Y8 := Lib.hid hY
      have XP8 := Lib.hid (XP7.out.kept hb')
      have HB8 := Lib.hid (HB7.out.trans (hb'.mono HB7.out.size))
      clear hb hb' hY XP7 HB7
      go_upto_region 16 with fail
      have C1 := Lib.hid (fun dd os => Calls.regrown_of (HPL.out (grow (redrawn w8 dd) os)))
      have m1 := fun D => run_equalIn_mac D (d 0) (d 1) (d 2) (d 3) (d 4) (d 5) (d 0) (d 1) (d 2) (d 3) (d 4) (d 5)
      have m2 := fun D => run_equalIn_mac D (s 0) (s 1) (s 2) (s 3) (s 4) (s 5) (s 0) (s 1) (s 2) (s 3) (s 4) (s 5)
      rw [show eqB [d 0, d 1, d 2, d 3, d 4, d 5] [d 0, d 1, d 2, d 3, d 4, d 5] = true from eqB_true.2 rfl] at m1
      rw [show eqB [s 0, s 1, s 2, s 3, s 4, s 5] [s 0, s 1, s 2, s 3, s 4, s 5] = true from eqB_true.2 rfl] at m2
      have m1 := m1 9996
      have m2 := m2 9996
      have k_0 := cell_regrown (Y8.out.cell 0)
      have k_1 := cell_regrown (Y8.out.cell 1)
      have k_2 := cell_regrown (Y8.out.cell 2)
      have k_3 := cell_regrown (Y8.out.cell 3)
      have k_4 := cell_regrown (Y8.out.cell 4)
      have k_5 := cell_regrown (Y8.out.cell 5)
      have k_6 := cell_regrown (Y8.out.cell 6)
      have k_7 := cell_regrown (Y8.out.cell 7)
      have k_8 := cell_regrown (Y8.out.cell 8)
      have k_9 := cell_regrown (Y8.out.cell 9)
      have k_10 := cell_regrown (Y8.out.cell 10)
      have k_11 := cell_regrown (Y8.out.cell 11)
      have k_12 := cell_regrown (Y8.out.cell 12)
      have k_13 := cell_regrown (Y8.out.cell 13)
      have k_14 := cell_regrown (Y8.out.cell 14)
      have k_15 := cell_regrown (Y8.out.cell 15)
      have j_0 := cell_regrown (XP8.out.cell 0)
      have j_1 := cell_regrown (XP8.out.cell 1)
      have j_2 := cell_regrown (XP8.out.cell 2)
      have j_3 := cell_regrown (XP8.out.cell 3)
      have j_4 := cell_regrown (XP8.out.cell 4)
      have j_5 := cell_regrown (XP8.out.cell 5)
      have j_6 := cell_regrown (XP8.out.cell 6)
      have j_7 := cell_regrown (XP8.out.cell 7)
      have j_8 := cell_regrown (XP8.out.cell 8)
      have j_9 := cell_regrown (XP8.out.cell 9)
      have j_10 := cell_regrown (XP8.out.cell 10)
      have j_11 := cell_regrown (XP8.out.cell 11)
      have j_12 := cell_regrown (XP8.out.cell 12)
      have j_13 := cell_regrown (XP8.out.cell 13)
      have j_14 := cell_regrown (XP8.out.cell 14)
      have j_15 := cell_regrown (XP8.out.cell 15)
      refine wp_region_quiet_below (by kernel_rfl) (by kernel_rfl) ?_
      repeat (quiet_step (first | (with_reducible exact C1.out _ _)))
      refine wpQuiet_nil ?_
      intro _ hw'
      obtain ⟨⟨dq, osq⟩, hw''⟩ := hw'
      subst hw''
      have hb9 := below_regrown w8 dq osq
      generalize grow (redrawn w8 dq) osq = w9 at hb9 ⊢
      go_wp2_with fail
      go_ret
      exact ⟨rfl, HB8.out.trans (hb9.mono HB8.out.size)⟩

set_option maxRecDepth 20000 in
set_option maxHeartbeats 4000000 in
theorem wholeFrames_walk (d s : Nat → UInt8) (ty v pr : Int) (body : ByteArray) (n : Int) (hn : (Lit.int .u32 n).wf = true) (q : Int) (hq : (Lit.int .u8 q).wf = true) (w : World) :
    Calls Try.prog 3 #[.agg #[.int .u8 ((d 0).toNat : Int), .int .u8 ((d 1).toNat : Int), .int .u8 ((d 2).toNat : Int), .int .u8 ((d 3).toNat : Int), .int .u8 ((d 4).toNat : Int), .int .u8 ((d 5).toNat : Int), .int .u8 ((s 0).toNat : Int), .int .u8 ((s 1).toNat : Int), .int .u8 ((s 2).toNat : Int), .int .u8 ((s 3).toNat : Int), .int .u8 ((s 4).toNat : Int), .int .u8 ((s 5).toNat : Int), .int .i64 ty, .string body, .int .i64 v, .int .i64 pr], .int .u32 n, .int .u8 q] w fun e w' => e = .returned (.bool true) ∧ Below w.heap.size w w' := by
  simp only [Lit.wf, Bool.and_eq_true, decide_eq_true_eq] at hn hq
  have hn : 0 ≤ n ∧ n ≤ 4294967295 := hn
  have hq : 0 ≤ q ∧ q ≤ 255 := hq
  obtain ⟨n, rfl⟩ := Int.eq_ofNat_of_zero_le hn.1
  obtain ⟨q, rfl⟩ := Int.eq_ofNat_of_zero_le hq.1
  by_cases h : Eth.right ty v pr body.size
  · exact whole_right d s ty v pr body n q w h (by omega) (by omega)
  · have HOF := Lib.hid (fun w => of_any d s ty v pr body w)
    have HPR := Lib.hid (fun w => ethPrint_no d s ty v pr body w h)
    have HI8 : Hid ((Try.prog.info? 27).map (·.size) = some 16) := by show _ = _; kernel_rfl
    clear hn hq h
    go_enter Try.func3, Try.ntmps3
    have XP0 : Hid (RowIs (w.alloc (.cells #[.int .u8 ((d 0).toNat : Int), .int .u8 ((d 1).toNat : Int), .int .u8 ((d 2).toNat : Int), .int .u8 ((d 3).toNat : Int), .int .u8 ((d 4).toNat : Int), .int .u8 ((d 5).toNat : Int), .int .u8 ((s 0).toNat : Int), .int .u8 ((s 1).toNat : Int), .int .u8 ((s 2).toNat : Int), .int .u8 ((s 3).toNat : Int), .int .u8 ((s 4).toNat : Int), .int .u8 ((s 5).toNat : Int), .int .i64 ty, .string body, .int .i64 v, .int .i64 pr] 27)) w.heap.size 27 #[.int .u8 ((d 0).toNat : Int), .int .u8 ((d 1).toNat : Int), .int .u8 ((d 2).toNat : Int), .int .u8 ((d 3).toNat : Int), .int .u8 ((d 4).toNat : Int), .int .u8 ((d 5).toNat : Int), .int .u8 ((s 0).toNat : Int), .int .u8 ((s 1).toNat : Int), .int .u8 ((s 2).toNat : Int), .int .u8 ((s 3).toNat : Int), .int .u8 ((s 4).toNat : Int), .int .u8 ((s 5).toNat : Int), .int .i64 ty, .string body, .int .i64 v, .int .i64 pr]) := by show RowIs _ _ _ _; exact rowIs_new w _ _
    have HB0 : Hid (Below w.heap.size w (w.alloc (.cells #[.int .u8 ((d 0).toNat : Int), .int .u8 ((d 1).toNat : Int), .int .u8 ((d 2).toNat : Int), .int .u8 ((d 3).toNat : Int), .int .u8 ((d 4).toNat : Int), .int .u8 ((d 5).toNat : Int), .int .u8 ((s 0).toNat : Int), .int .u8 ((s 1).toNat : Int), .int .u8 ((s 2).toNat : Int), .int .u8 ((s 3).toNat : Int), .int .u8 ((s 4).toNat : Int), .int .u8 ((s 5).toNat : Int), .int .i64 ty, .string body, .int .i64 v, .int .i64 pr] 27))) := (Below.refl _ _).alloc (Nat.le_refl _) _
    go_wp2_with fail
    refine (goes_any _).mono ?_
    rintro e w1 ⟨rfl, hb⟩
    have XP1 := Lib.hid (XP0.out.kept hb)
    have HB1 := Lib.hid (HB0.out.trans (hb.mono HB0.out.size))
    clear hb XP0 HB0
    have c13 : w1.cell? ⟨w.heap.size, 13, none⟩ = some (.string body) := XP1.out.cell 13
    by_cases hb2 : 2000 < body.size
    · go_wp2_with fail
      refine (goes_any _).mono ?_
      rintro e w2 ⟨rfl, hb⟩
      have HB2 := Lib.hid (HB1.out.trans (hb.mono HB1.out.size))
      clear hb
      go_wp2_with fail
      go_ret
      exact ⟨rfl, HB2.out⟩
    · go_wp2_with ((with_reducible refine at_load 27 (.tmp 3) ?_); refine wpList_load_own rfl 27 (.tmp 3) rfl w.heap.size rfl _ _ _ XP1.out Try.underlying27 rfl HI8.out ?_)
      clear c13 hb2
      refine (HOF.out _).mono ?_
      rintro e w2 ⟨rfl, hb⟩
      have HB2 := Lib.hid (HB1.out.trans (hb.mono HB1.out.size))
      clear hb
      go_wp2_with fail
      refine (HPR.out _).mono ?_
      rintro e w3 ⟨b, rfl, hb⟩
      have HB3 := Lib.hid (HB2.out.trans (hb.mono HB2.out.size))
      clear hb
      go_wp2_with fail
      go_ret
      exact ⟨rfl, HB3.out⟩
end Go.Proofs.Ytdkgjbakbnhmaaa
