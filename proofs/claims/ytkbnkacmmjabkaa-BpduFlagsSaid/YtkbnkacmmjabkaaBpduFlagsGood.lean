/- The walk of BpduFlags: right words. By an AI agent. -/
import Derived.Test.YtkbnkacmmjabkaaBpduUnlike
namespace Go.Proofs.Ytkbnkacmmjabkaa
open Go.RowKit Go.Sort Grow

theorem byte_at (S : ByteArray) (t : List UInt8) (d : S.data.toList = t) (h : 7 < S.size) : S[7] = t.getD 7 0 := by
  subst d
  have h' : 7 < S.data.toList.length := by rw [Array.length_toList]; exact h
  rw [List.getD, List.getElem?_eq_getElem h']
  rfl

set_option maxRecDepth 20000 in
set_option maxHeartbeats 8000000 in
theorem bpduFlags_good (r b : Nat → UInt8) (co po ag ma he de : Int) (ch ak : Bool) (r' b' : Nat → UInt8) (co' po' ag' ma' he' de' : Int) (ch' ak' : Bool) (w : World) (h1 : Bpdu.right co po ag ma he de = true) (h2 : Bpdu.right co' po' ag' ma' he' de' = true) :
    Calls Try.prog 6 #[.agg #[.int .u8 ((r 0).toNat : Int), .int .u8 ((r 1).toNat : Int), .int .u8 ((r 2).toNat : Int), .int .u8 ((r 3).toNat : Int), .int .u8 ((r 4).toNat : Int), .int .u8 ((r 5).toNat : Int), .int .u8 ((r 6).toNat : Int), .int .u8 ((r 7).toNat : Int), .int .u8 ((b 0).toNat : Int), .int .u8 ((b 1).toNat : Int), .int .u8 ((b 2).toNat : Int), .int .u8 ((b 3).toNat : Int), .int .u8 ((b 4).toNat : Int), .int .u8 ((b 5).toNat : Int), .int .u8 ((b 6).toNat : Int), .int .u8 ((b 7).toNat : Int), .int .i64 co, .int .i64 po, .int .i64 ag, .int .i64 ma, .int .i64 he, .int .i64 de, .bool ch, .bool ak], .agg #[.int .u8 ((r' 0).toNat : Int), .int .u8 ((r' 1).toNat : Int), .int .u8 ((r' 2).toNat : Int), .int .u8 ((r' 3).toNat : Int), .int .u8 ((r' 4).toNat : Int), .int .u8 ((r' 5).toNat : Int), .int .u8 ((r' 6).toNat : Int), .int .u8 ((r' 7).toNat : Int), .int .u8 ((b' 0).toNat : Int), .int .u8 ((b' 1).toNat : Int), .int .u8 ((b' 2).toNat : Int), .int .u8 ((b' 3).toNat : Int), .int .u8 ((b' 4).toNat : Int), .int .u8 ((b' 5).toNat : Int), .int .u8 ((b' 6).toNat : Int), .int .u8 ((b' 7).toNat : Int), .int .i64 co', .int .i64 po', .int .i64 ag', .int .i64 ma', .int .i64 he', .int .i64 de', .bool ch', .bool ak']] w fun e w' => e = .returned (.bool true) ∧ Below w.heap.size w w' := by
  obtain ⟨L1, L2, L3, L4, L5, L6⟩ := Bpdu.flags_law r b co po ag ma he de ch ak r' b' co' po' ag' ma' he' de' ch' ak' h1 h2
  have P1 := fun w => print_good r b co po ag ma he de ch ak w h1
  have P2 := fun w => print_good r' b' co' po' ag' ma' he' de' ch' ak' w h2
  have P3 := fun w => print_good r b co po ag ma he de (!ch) ak w h1
  have EW := fun w => run_equalIn_rword 9997 r b co po ag ma he de ch ak r' b' co' po' ag' ma' he' de' ch' ak' w
  generalize Bpdu.eqW r b co po ag ma he de ch ak r' b' co' po' ag' ma' he' de' ch' ak' = e at EW L1
  generalize Bpdu.text r b co po ag ma he de ch ak = ta at P1 L1 L2 L4 L5 L6
  generalize Bpdu.text r' b' co' po' ag' ma' he' de' ch' ak' = tb at P2 L1
  generalize Bpdu.text r b co po ag ma he de (!ch) ak = tc at P3 L3 L4 L5 L6
  obtain ⟨SA, hA⟩ : ∃ s : ByteArray, s = ⟨ta.toArray⟩ := ⟨_, rfl⟩
  obtain ⟨SB, hB⟩ : ∃ s : ByteArray, s = ⟨tb.toArray⟩ := ⟨_, rfl⟩
  obtain ⟨SC, hC⟩ : ∃ s : ByteArray, s = ⟨tc.toArray⟩ := ⟨_, rfl⟩
  rw [← hA] at P1
  rw [← hB] at P2
  rw [← hC] at P3
  have dA : SA.data.toList = ta := by rw [hA]
  have dB : SB.data.toList = tb := by rw [hB]
  have dC : SC.data.toList = tc := by rw [hC]
  clear hA hB hC
  have f1 : (SA.toList == SB.toList) = e := by rw [Lib.toList_data, Lib.toList_data, dA, dB, L1]
  have zA : SA.size = 38 := by rw [show SA.size = SA.data.toList.length by rw [Array.length_toList]; rfl, dA, L2]
  have zC : SC.size = 38 := by rw [show SC.size = SC.data.toList.length by rw [Array.length_toList]; rfl, dC, L3]
  have f3 : ((SC.extract 0 7).toList == (SA.extract 0 7).toList) = true := by
    rw [Lib.toList_data, Lib.toList_data, Bpdu.ext_list _ _ dA, Bpdu.ext_list _ _ dC]
    simp [L4]
  have f4 : ((SC.extract 8 38).toList == (SA.extract 8 38).toList) = true := by
    rw [Lib.toList_data, Lib.toList_data, Bpdu.ext_list _ _ dA, Bpdu.ext_list _ _ dC, L5]
    simp
  have f5 : (((SC[7]'(by omega)).toNat : Int) != ((SA[7]'(by omega)).toNat : Int)) = true := by
    rw [bne_iff_ne]
    intro h
    have h := UInt8.toNat_inj.1 (Int.ofNat_inj.1 h)
    refine L6 ?_
    rw [← byte_at SC tc dC (by omega), ← byte_at SA ta dA (by omega)]
    exact h
  have P1 := Lib.hid P1
  have P2 := Lib.hid P2
  have P3 := Lib.hid P3
  have EW := Lib.hid EW
  have f1 := Lib.hid f1
  have f3 := Lib.hid f3
  have f4 := Lib.hid f4
  clear L1 L2 L3 L4 L5 h1 h2
  go_enter Try.func6, Try.ntmps6
  go_upto_region 1 with fail
  generalize hW : World.alloc _ _ = W
  have hbW : Below w.heap.size w W := by rw [← hW]; exact ((Below.refl _ _).alloc (Nat.le_refl _) _).alloc (by simp) _
  have R2 : Hid (RowIs W w.heap.size 28 #[.int .u8 ((r 0).toNat : Int), .int .u8 ((r 1).toNat : Int), .int .u8 ((r 2).toNat : Int), .int .u8 ((r 3).toNat : Int), .int .u8 ((r 4).toNat : Int), .int .u8 ((r 5).toNat : Int), .int .u8 ((r 6).toNat : Int), .int .u8 ((r 7).toNat : Int), .int .u8 ((b 0).toNat : Int), .int .u8 ((b 1).toNat : Int), .int .u8 ((b 2).toNat : Int), .int .u8 ((b 3).toNat : Int), .int .u8 ((b 4).toNat : Int), .int .u8 ((b 5).toNat : Int), .int .u8 ((b 6).toNat : Int), .int .u8 ((b 7).toNat : Int), .int .i64 co, .int .i64 po, .int .i64 ag, .int .i64 ma, .int .i64 he, .int .i64 de, .bool ch, .bool ak]) := by subst hW; exact (rowIs_new w _ _).alloc _
  have R3 : Hid (RowIs W (w.heap.size + 1) 28 #[.int .u8 ((r' 0).toNat : Int), .int .u8 ((r' 1).toNat : Int), .int .u8 ((r' 2).toNat : Int), .int .u8 ((r' 3).toNat : Int), .int .u8 ((r' 4).toNat : Int), .int .u8 ((r' 5).toNat : Int), .int .u8 ((r' 6).toNat : Int), .int .u8 ((r' 7).toNat : Int), .int .u8 ((b' 0).toNat : Int), .int .u8 ((b' 1).toNat : Int), .int .u8 ((b' 2).toNat : Int), .int .u8 ((b' 3).toNat : Int), .int .u8 ((b' 4).toNat : Int), .int .u8 ((b' 5).toNat : Int), .int .u8 ((b' 6).toNat : Int), .int .u8 ((b' 7).toNat : Int), .int .i64 co', .int .i64 po', .int .i64 ag', .int .i64 ma', .int .i64 he', .int .i64 de', .bool ch', .bool ak']) := by subst hW; exact rowIs_new1 w _ _ _
  clear hW
  go_wp2_with (first | ((with_reducible refine at_load 28 (.tmp 2) ?_); refine wpList_load_own rfl 28 (.tmp 2) rfl _ rfl _ _ _ R2.out Try.underlying28 rfl info_rword ?_) | ((with_reducible refine at_load 28 (.tmp 3) ?_); refine wpList_load_own rfl 28 (.tmp 3) rfl _ rfl _ _ _ R3.out Try.underlying28 rfl info_rword ?_))
  refine (of_any r b co po ag ma he de ch ak _).mono ?_
  rintro e w9 ⟨rfl, hb9⟩
  have hbW := hbW.trans (hb9.mono hbW.size)
  have R2 := Lib.hid (R2.out.kept hb9)
  have R3 := Lib.hid (R3.out.kept hb9)
  clear hb9
  go_wp2_with fail
  refine (P1.out _).mono ?_
  rintro e w9 ⟨rfl, hb9⟩
  have hbW := hbW.trans (hb9.mono hbW.size)
  have R2 := Lib.hid (R2.out.kept hb9)
  have R3 := Lib.hid (R3.out.kept hb9)
  clear hb9
  go_wp2_with (first | ((with_reducible refine at_load 28 (.tmp 2) ?_); refine wpList_load_own rfl 28 (.tmp 2) rfl _ rfl _ _ _ R2.out Try.underlying28 rfl info_rword ?_) | ((with_reducible refine at_load 28 (.tmp 3) ?_); refine wpList_load_own rfl 28 (.tmp 3) rfl _ rfl _ _ _ R3.out Try.underlying28 rfl info_rword ?_))
  refine (of_any r' b' co' po' ag' ma' he' de' ch' ak' _).mono ?_
  rintro e w9 ⟨rfl, hb9⟩
  have hbW := hbW.trans (hb9.mono hbW.size)
  have R2 := Lib.hid (R2.out.kept hb9)
  have R3 := Lib.hid (R3.out.kept hb9)
  clear hb9
  go_wp2_with fail
  refine (P2.out _).mono ?_
  rintro e w9 ⟨rfl, hb9⟩
  have hbW := hbW.trans (hb9.mono hbW.size)
  have R2 := Lib.hid (R2.out.kept hb9)
  have R3 := Lib.hid (R3.out.kept hb9)
  clear hb9
  go_wp2_with fail
  refine (awake_any _).mono ?_
  rintro e w9 ⟨rfl, hb9⟩
  have hbW := hbW.trans (hb9.mono hbW.size)
  have R2 := Lib.hid (R2.out.kept hb9)
  have R3 := Lib.hid (R3.out.kept hb9)
  clear hb9
  go_wp2_with (first | ((with_reducible refine at_load 28 (.tmp 2) ?_); refine wpList_load_own rfl 28 (.tmp 2) rfl _ rfl _ _ _ R2.out Try.underlying28 rfl info_rword ?_) | ((with_reducible refine at_load 28 (.tmp 3) ?_); refine wpList_load_own rfl 28 (.tmp 3) rfl _ rfl _ _ _ R3.out Try.underlying28 rfl info_rword ?_) | ((with_reducible refine at_store 28 (.tmp 9) (.tmp 35) ?_); refine wpList_store_own rfl 28 (.tmp 9) (.tmp 35) rfl w9.heap.size _ rfl rfl _ _ (rowIs_new _ _ _) info_rword rfl (by kernel_rfl) w9.heap.size (Nat.le_refl _) ?_))
  intro w3 r9 _ _ hb3
  have hs9 := hbW.size
  have hl2 := R2.out.lt
  have hl3 := R3.out.lt
  have hb3 := (show Below w9.heap.size w9 w3 from ((Below.refl _ _).alloc (Nat.le_refl _) _).trans hb3)
  have hbW := hbW.trans (hb3.mono hbW.size)
  have R2 := Lib.hid (R2.out.kept hb3)
  have R3 := Lib.hid (R3.out.kept hb3)
  have k2 : w3.cell? ⟨w.heap.size, 22, none⟩ = some (.bool ch) := R2.out.cell 22
  have k9 : w3.cell? ⟨w9.heap.size, 22, none⟩ = some (.bool ch) := r9.cell 22
  have k9f := r9.free 22
  have r9' : Hid (RowIs (w3.setCell ⟨w9.heap.size, 22, none⟩ (.bool (!ch))) w9.heap.size 28 #[.int .u8 ((r 0).toNat : Int), .int .u8 ((r 1).toNat : Int), .int .u8 ((r 2).toNat : Int), .int .u8 ((r 3).toNat : Int), .int .u8 ((r 4).toNat : Int), .int .u8 ((r 5).toNat : Int), .int .u8 ((r 6).toNat : Int), .int .u8 ((r 7).toNat : Int), .int .u8 ((b 0).toNat : Int), .int .u8 ((b 1).toNat : Int), .int .u8 ((b 2).toNat : Int), .int .u8 ((b 3).toNat : Int), .int .u8 ((b 4).toNat : Int), .int .u8 ((b 5).toNat : Int), .int .u8 ((b 6).toNat : Int), .int .u8 ((b 7).toNat : Int), .int .i64 co, .int .i64 po, .int .i64 ag, .int .i64 ma, .int .i64 he, .int .i64 de, .bool (!ch), .bool ak]) := heap_setCell_same w3 w9.heap.size 22 _ _ _ r9
  clear hb3
  have hb4 : Below w9.heap.size w3 (w3.setCell ⟨w9.heap.size, 22, none⟩ (.bool (!ch))) := (Below.refl _ _).setCell (p := ⟨w9.heap.size, 22, none⟩) (Nat.le_refl _) _
  have R2 := Lib.hid (R2.out.below hb4 hl2)
  have R3 := Lib.hid (R3.out.below hb4 hl3)
  have hbW := hbW.trans (hb4.mono hs9)
  clear hb4
  go_upto_region 7 with fail
  clear k2 k9 k9f
  generalize w3.setCell _ _ = w4 at *
  go_wp2_with (first | ((with_reducible refine at_load 28 (.tmp 9) ?_); refine wpList_load_own rfl 28 (.tmp 9) rfl _ rfl _ _ _ r9'.out Try.underlying28 rfl info_rword ?_))
  refine (of_any r b co po ag ma he de (!ch) ak _).mono ?_
  rintro e w9 ⟨rfl, hb9⟩
  have hbW := hbW.trans (hb9.mono hbW.size)
  have R2 := Lib.hid (R2.out.kept hb9)
  have R3 := Lib.hid (R3.out.kept hb9)
  clear hb9
  go_wp2_with fail
  refine (P3.out _).mono ?_
  rintro e w9 ⟨rfl, hb9⟩
  have hbW := hbW.trans (hb9.mono hbW.size)
  have R2 := Lib.hid (R2.out.kept hb9)
  have R3 := Lib.hid (R3.out.kept hb9)
  clear hb9
  go_upto_region 8 with fail
  have EW := EW.out
  have f1 := f1.out
  have f3 := f3.out
  have f4 := f4.out
  clear r9'
  refine wp_region_mix 33 (by kernel_rfl) (by kernel_rfl) (by kernel_rfl) ?_
  (refine mix_step (by kernel_rfl) (by kernel_rfl) (fun K hK => ?_); go_simp; (try (simp only [↓IntWalk.iteOmega]; go_simp)); (first | (refine hK _ ?_; clear hK K) | (apply Exists.intro; refine ⟨fun _ => ?_, hK _ ?_⟩; (fail); clear hK K)))
  (refine mix_step (by kernel_rfl) (by kernel_rfl) (fun K hK => ?_); go_simp; (try (simp only [↓IntWalk.iteOmega]; go_simp)); (first | (refine hK _ ?_; clear hK K) | (apply Exists.intro; refine ⟨fun _ => ?_, hK _ ?_⟩; (fail); clear hK K)))
  (refine mix_step (by kernel_rfl) (by kernel_rfl) (fun K hK => ?_); go_simp; (try (simp only [↓IntWalk.iteOmega]; go_simp)); (first | (refine hK _ ?_; clear hK K) | (apply Exists.intro; refine ⟨fun _ => ?_, hK _ ?_⟩; (fail); clear hK K)))
  refine mix_exact (.agg #[.int .u8 ((r 0).toNat : Int), .int .u8 ((r 1).toNat : Int), .int .u8 ((r 2).toNat : Int), .int .u8 ((r 3).toNat : Int), .int .u8 ((r 4).toNat : Int), .int .u8 ((r 5).toNat : Int), .int .u8 ((r 6).toNat : Int), .int .u8 ((r 7).toNat : Int), .int .u8 ((b 0).toNat : Int), .int .u8 ((b 1).toNat : Int), .int .u8 ((b 2).toNat : Int), .int .u8 ((b 3).toNat : Int), .int .u8 ((b 4).toNat : Int), .int .u8 ((b 5).toNat : Int), .int .u8 ((b 6).toNat : Int), .int .u8 ((b 7).toNat : Int), .int .i64 co, .int .i64 po, .int .i64 ag, .int .i64 ma, .int .i64 he, .int .i64 de, .bool ch, .bool ak]) rfl (exact_load_row rfl rfl (by simp) R2.out Try.underlying28 rfl info_rword) ?_
  refine mix_exact (.agg #[.int .u8 ((r' 0).toNat : Int), .int .u8 ((r' 1).toNat : Int), .int .u8 ((r' 2).toNat : Int), .int .u8 ((r' 3).toNat : Int), .int .u8 ((r' 4).toNat : Int), .int .u8 ((r' 5).toNat : Int), .int .u8 ((r' 6).toNat : Int), .int .u8 ((r' 7).toNat : Int), .int .u8 ((b' 0).toNat : Int), .int .u8 ((b' 1).toNat : Int), .int .u8 ((b' 2).toNat : Int), .int .u8 ((b' 3).toNat : Int), .int .u8 ((b' 4).toNat : Int), .int .u8 ((b' 5).toNat : Int), .int .u8 ((b' 6).toNat : Int), .int .u8 ((b' 7).toNat : Int), .int .i64 co', .int .i64 po', .int .i64 ag', .int .i64 ma', .int .i64 he', .int .i64 de', .bool ch', .bool ak']) rfl (exact_load_row rfl rfl (by simp) R3.out Try.underlying28 rfl info_rword) ?_
  (refine mix_step (by kernel_rfl) (by kernel_rfl) (fun K hK => ?_); go_simp; (try (simp only [↓IntWalk.iteOmega]; go_simp)); (first | (refine hK _ ?_; clear hK K) | (apply Exists.intro; refine ⟨fun _ => ?_, hK _ ?_⟩; (fail); clear hK K)))
  cases e
  all_goals
    (refine mix_step (by kernel_rfl) (by kernel_rfl) (fun K hK => ?_); go_simp; (try (simp only [↓IntWalk.iteOmega]; go_simp)); (first | (refine hK _ ?_; clear hK K) | (apply Exists.intro; refine ⟨fun _ => ?_, hK _ ?_⟩; (fail); clear hK K)))
    (refine mix_step (by kernel_rfl) (by kernel_rfl) (fun K hK => ?_); go_simp; (try (simp only [↓IntWalk.iteOmega]; go_simp)); (first | (refine hK _ ?_; clear hK K) | (apply Exists.intro; refine ⟨fun _ => ?_, hK _ ?_⟩; (fail); clear hK K)))
    (refine mix_step (by kernel_rfl) (by kernel_rfl) (fun K hK => ?_); go_simp; (try (simp only [↓IntWalk.iteOmega]; go_simp)); (first | (refine hK _ ?_; clear hK K) | (apply Exists.intro; refine ⟨fun _ => ?_, hK _ ?_⟩; (fail); clear hK K)))
    (refine mix_step (by kernel_rfl) (by kernel_rfl) (fun K hK => ?_); go_simp; (try (simp only [↓IntWalk.iteOmega]; go_simp)); (first | (refine hK _ ?_; clear hK K) | (apply Exists.intro; refine ⟨fun _ => ?_, hK _ ?_⟩; (fail); clear hK K)))
    (refine mix_step (by kernel_rfl) (by kernel_rfl) (fun K hK => ?_); go_simp; (try (simp only [↓IntWalk.iteOmega]; go_simp)); (first | (refine hK _ ?_; clear hK K) | (apply Exists.intro; refine ⟨fun _ => ?_, hK _ ?_⟩; (fail); clear hK K)))
    (refine mix_step (by kernel_rfl) (by kernel_rfl) (fun K hK => ?_); go_simp; (try (simp only [↓IntWalk.iteOmega]; go_simp)); (first | (refine hK _ ?_; clear hK K) | (apply Exists.intro; refine ⟨fun _ => ?_, hK _ ?_⟩; (fail); clear hK K)))
    (refine mix_step (by kernel_rfl) (by kernel_rfl) (fun K hK => ?_); go_simp; (try (simp only [↓IntWalk.iteOmega]; go_simp)); (first | (refine hK _ ?_; clear hK K) | (apply Exists.intro; refine ⟨fun _ => ?_, hK _ ?_⟩; (fail); clear hK K)))
    (refine mix_step (by kernel_rfl) (by kernel_rfl) (fun K hK => ?_); go_simp; (try (simp only [↓IntWalk.iteOmega]; go_simp)); (first | (refine hK _ ?_; clear hK K) | (apply Exists.intro; refine ⟨fun _ => ?_, hK _ ?_⟩; (fail); clear hK K)))
    (refine mix_step (by kernel_rfl) (by kernel_rfl) (fun K hK => ?_); go_simp; (try (simp only [↓IntWalk.iteOmega]; go_simp)); (first | (refine hK _ ?_; clear hK K) | (apply Exists.intro; refine ⟨fun _ => ?_, hK _ ?_⟩; (fail); clear hK K)))
    (refine mix_step (by kernel_rfl) (by kernel_rfl) (fun K hK => ?_); go_simp; (try (simp only [↓IntWalk.iteOmega]; go_simp)); (first | (refine hK _ ?_; clear hK K) | (apply Exists.intro; refine ⟨fun _ => ?_, hK _ ?_⟩; (fail); clear hK K)))
    (refine mix_step (by kernel_rfl) (by kernel_rfl) (fun K hK => ?_); go_simp; (try (simp only [↓IntWalk.iteOmega]; go_simp)); (first | (refine hK _ ?_; clear hK K) | (apply Exists.intro; refine ⟨fun _ => ?_, hK _ ?_⟩; (fail); clear hK K)))
    (refine mix_step (by kernel_rfl) (by kernel_rfl) (fun K hK => ?_); go_simp; (try (simp only [↓IntWalk.iteOmega]; go_simp)); (first | (refine hK _ ?_; clear hK K) | (apply Exists.intro; refine ⟨fun _ => ?_, hK _ ?_⟩; (fail); clear hK K)))
    (refine mix_step (by kernel_rfl) (by kernel_rfl) (fun K hK => ?_); go_simp; (try (simp only [↓IntWalk.iteOmega]; go_simp)); (first | (refine hK _ ?_; clear hK K) | (apply Exists.intro; refine ⟨fun _ => ?_, hK _ ?_⟩; (fail); clear hK K)))
    (refine mix_step (by kernel_rfl) (by kernel_rfl) (fun K hK => ?_); go_simp; (try (simp only [↓IntWalk.iteOmega]; go_simp)); (first | (refine hK _ ?_; clear hK K) | (apply Exists.intro; refine ⟨fun _ => ?_, hK _ ?_⟩; (fail); clear hK K)))
    (refine mix_step (by kernel_rfl) (by kernel_rfl) (fun K hK => ?_); go_simp; (try (simp only [↓IntWalk.iteOmega]; go_simp)); (first | (refine hK _ ?_; clear hK K) | (apply Exists.intro; refine ⟨fun _ => ?_, hK _ ?_⟩; (fail); clear hK K)))
    (refine mix_step (by kernel_rfl) (by kernel_rfl) (fun K hK => ?_); go_simp; (try (simp only [↓IntWalk.iteOmega]; go_simp)); (first | (refine hK _ ?_; clear hK K) | (apply Exists.intro; refine ⟨fun _ => ?_, hK _ ?_⟩; (fail); clear hK K)))
    (refine mix_step (by kernel_rfl) (by kernel_rfl) (fun K hK => ?_); go_simp; (try (simp only [↓IntWalk.iteOmega]; go_simp)); (first | (refine hK _ ?_; clear hK K) | (apply Exists.intro; refine ⟨fun _ => ?_, hK _ ?_⟩; (fail); clear hK K)))
    (refine mix_step (by kernel_rfl) (by kernel_rfl) (fun K hK => ?_); go_simp; (try (simp only [↓IntWalk.iteOmega]; go_simp)); (first | (refine hK _ ?_; clear hK K) | (apply Exists.intro; refine ⟨fun _ => ?_, hK _ ?_⟩; (fail); clear hK K)))
    (refine mix_step (by kernel_rfl) (by kernel_rfl) (fun K hK => ?_); go_simp; (try (simp only [↓IntWalk.iteOmega]; go_simp)); (first | (refine hK _ ?_; clear hK K) | (apply Exists.intro; refine ⟨fun _ => ?_, hK _ ?_⟩; (fail); clear hK K)))
    (refine mix_step (by kernel_rfl) (by kernel_rfl) (fun K hK => ?_); go_simp; (try (simp only [↓IntWalk.iteOmega]; go_simp)); (first | (refine hK _ ?_; clear hK K) | (apply Exists.intro; refine ⟨fun _ => ?_, hK _ ?_⟩; (fail); clear hK K)))
    (refine mix_step (by kernel_rfl) (by kernel_rfl) (fun K hK => ?_); go_simp; (try (simp only [↓IntWalk.iteOmega]; go_simp)); (first | (refine hK _ ?_; clear hK K) | (apply Exists.intro; refine ⟨fun _ => ?_, hK _ ?_⟩; (fail); clear hK K)))
    (refine mix_step (by kernel_rfl) (by kernel_rfl) (fun K hK => ?_); go_simp; (try (simp only [↓IntWalk.iteOmega]; go_simp)); (first | (refine hK _ ?_; clear hK K) | (apply Exists.intro; refine ⟨fun _ => ?_, hK _ ?_⟩; (fail); clear hK K)))
    (refine mix_step (by kernel_rfl) (by kernel_rfl) (fun K hK => ?_); go_simp; (try (simp only [↓IntWalk.iteOmega]; go_simp)); (first | (refine hK _ ?_; clear hK K) | (apply Exists.intro; refine ⟨fun _ => ?_, hK _ ?_⟩; (fail); clear hK K)))
    (refine mix_step (by kernel_rfl) (by kernel_rfl) (fun K hK => ?_); go_simp; (try (simp only [↓IntWalk.iteOmega]; go_simp)); (first | (refine hK _ ?_; clear hK K) | (apply Exists.intro; refine ⟨fun _ => ?_, hK _ ?_⟩; (fail); clear hK K)))
    (refine mix_step (by kernel_rfl) (by kernel_rfl) (fun K hK => ?_); go_simp; (try (simp only [↓IntWalk.iteOmega]; go_simp)); (first | (refine hK _ ?_; clear hK K) | (apply Exists.intro; refine ⟨fun _ => ?_, hK _ ?_⟩; (fail); clear hK K)))
    (refine mix_step (by kernel_rfl) (by kernel_rfl) (fun K hK => ?_); go_simp; (try (simp only [↓IntWalk.iteOmega]; go_simp)); (first | (refine hK _ ?_; clear hK K) | (apply Exists.intro; refine ⟨fun _ => ?_, hK _ ?_⟩; (fail); clear hK K)))
    (refine mix_step (by kernel_rfl) (by kernel_rfl) (fun K hK => ?_); go_simp; (try (simp only [↓IntWalk.iteOmega]; go_simp)); (first | (refine hK _ ?_; clear hK K) | (apply Exists.intro; refine ⟨fun _ => ?_, hK _ ?_⟩; (fail); clear hK K)))
    refine mix_nil ?_
    rintro ⟨dq, osq⟩
    have hb1 := below_regrown w9 dq osq
    have hbW := hbW.trans (hb1.mono hbW.size)
    refine (show wpList _ _ _ _ _ _ from ?_)
    simp only [List.drop, Act.put, List.setIfInBounds_toArray, List.set]
    generalize grow (redrawn w9 dq) osq = W9 at *
    go_wp2_with fail
    go_ret
    refine ⟨?_, hbW⟩
    simp [f5]

theorem bpduFlags_walk (r b : Nat → UInt8) (co po ag ma he de : Int) (ch ak : Bool) (r' b' : Nat → UInt8) (co' po' ag' ma' he' de' : Int) (ch' ak' : Bool) (w : World) :
    Calls Try.prog 6 #[.agg #[.int .u8 ((r 0).toNat : Int), .int .u8 ((r 1).toNat : Int), .int .u8 ((r 2).toNat : Int), .int .u8 ((r 3).toNat : Int), .int .u8 ((r 4).toNat : Int), .int .u8 ((r 5).toNat : Int), .int .u8 ((r 6).toNat : Int), .int .u8 ((r 7).toNat : Int), .int .u8 ((b 0).toNat : Int), .int .u8 ((b 1).toNat : Int), .int .u8 ((b 2).toNat : Int), .int .u8 ((b 3).toNat : Int), .int .u8 ((b 4).toNat : Int), .int .u8 ((b 5).toNat : Int), .int .u8 ((b 6).toNat : Int), .int .u8 ((b 7).toNat : Int), .int .i64 co, .int .i64 po, .int .i64 ag, .int .i64 ma, .int .i64 he, .int .i64 de, .bool ch, .bool ak], .agg #[.int .u8 ((r' 0).toNat : Int), .int .u8 ((r' 1).toNat : Int), .int .u8 ((r' 2).toNat : Int), .int .u8 ((r' 3).toNat : Int), .int .u8 ((r' 4).toNat : Int), .int .u8 ((r' 5).toNat : Int), .int .u8 ((r' 6).toNat : Int), .int .u8 ((r' 7).toNat : Int), .int .u8 ((b' 0).toNat : Int), .int .u8 ((b' 1).toNat : Int), .int .u8 ((b' 2).toNat : Int), .int .u8 ((b' 3).toNat : Int), .int .u8 ((b' 4).toNat : Int), .int .u8 ((b' 5).toNat : Int), .int .u8 ((b' 6).toNat : Int), .int .u8 ((b' 7).toNat : Int), .int .i64 co', .int .i64 po', .int .i64 ag', .int .i64 ma', .int .i64 he', .int .i64 de', .bool ch', .bool ak']] w fun e w' => e = .returned (.bool true) ∧ Below w.heap.size w w' := by
  cases h1 : Bpdu.right co po ag ma he de
  · exact bpduFlags_bad r b co po ag ma he de ch ak r' b' co' po' ag' ma' he' de' ch' ak' w (.inl h1)
  · cases h2 : Bpdu.right co' po' ag' ma' he' de'
    · exact bpduFlags_bad r b co po ag ma he de ch ak r' b' co' po' ag' ma' he' de' ch' ak' w (.inr ⟨h1, h2⟩)
    · exact bpduFlags_good r b co po ag ma he de ch ak r' b' co' po' ag' ma' he' de' ch' ak' w h1 h2
end Go.Proofs.Ytkbnkacmmjabkaa
