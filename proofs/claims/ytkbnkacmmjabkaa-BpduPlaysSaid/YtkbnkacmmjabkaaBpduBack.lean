/- The walk of BpduBack. By an AI agent. -/
import Derived.Test.YtkbnkacmmjabkaaBpduAgain
import Derived.Test.YtkbnkacmmjabkaaArrays
import Derived.Deep.DeepCutAuto
namespace Go.Proofs.Ytkbnkacmmjabkaa
open Go.RowKit Go.Sort Grow

set_option maxRecDepth 20000 in
set_option maxHeartbeats 8000000 in
theorem bpduBack_walk (r b : Nat → UInt8) (co po ag ma he de : Int) (ch ak : Bool) (more : ByteArray) (w : World) :
    Calls Try.prog 4 #[.agg #[.int .u8 ((r 0).toNat : Int), .int .u8 ((r 1).toNat : Int), .int .u8 ((r 2).toNat : Int), .int .u8 ((r 3).toNat : Int), .int .u8 ((r 4).toNat : Int), .int .u8 ((r 5).toNat : Int), .int .u8 ((r 6).toNat : Int), .int .u8 ((r 7).toNat : Int), .int .u8 ((b 0).toNat : Int), .int .u8 ((b 1).toNat : Int), .int .u8 ((b 2).toNat : Int), .int .u8 ((b 3).toNat : Int), .int .u8 ((b 4).toNat : Int), .int .u8 ((b 5).toNat : Int), .int .u8 ((b 6).toNat : Int), .int .u8 ((b 7).toNat : Int), .int .i64 co, .int .i64 po, .int .i64 ag, .int .i64 ma, .int .i64 he, .int .i64 de, .bool ch, .bool ak], .string more] w fun e w' => e = .returned (.bool true) ∧ Below w.heap.size w w' := by
  by_cases hm : 1000 < more.size
  · go_enter Try.func4, Try.ntmps4
    go_wp2_with fail
    generalize hW : w.alloc _ = W
    have hb : Below w.heap.size w W := by rw [← hW]; exact (Below.refl _ _).alloc (Nat.le_refl _) _
    clear hW
    refine (awake_any _).mono ?_
    rintro e w1 ⟨rfl, hb1⟩
    have hb := hb.trans (hb1.mono hb.size)
    go_wp2_with fail
    refine (awake_any _).mono ?_
    rintro e w2 ⟨rfl, hb2⟩
    go_wp2_with fail
    go_ret
    exact ⟨rfl, hb.trans (hb2.mono hb.size)⟩
  · have hno := Lib.hid (show 7 ≤ (({ data := #[66, 66, 3, 0, 0, 0, 128] } : ByteArray) ++ more).size by rw [ByteArray.size_append]; exact Nat.le_add_right _ _)
    have hne := Lib.hid (show ((({ data := #[66, 66, 3, 0, 0, 0, 128] } : ByteArray) ++ more).extract 0 7).toList = [66, 66, 3, 0, 0, 0, 128] by
      rw [Lib.toList_data, Bpdu.ext_list _ _ rfl, ByteArray.data_append]
      simp)
    go_enter Try.func4, Try.ntmps4
    go_wp2_with fail
    generalize hW : w.alloc _ = W
    have hb : Below w.heap.size w W := by rw [← hW]; exact (Below.refl _ _).alloc (Nat.le_refl _) _
    have r2 : RowIs W w.heap.size 28 #[.int .u8 ((r 0).toNat : Int), .int .u8 ((r 1).toNat : Int), .int .u8 ((r 2).toNat : Int), .int .u8 ((r 3).toNat : Int), .int .u8 ((r 4).toNat : Int), .int .u8 ((r 5).toNat : Int), .int .u8 ((r 6).toNat : Int), .int .u8 ((r 7).toNat : Int), .int .u8 ((b 0).toNat : Int), .int .u8 ((b 1).toNat : Int), .int .u8 ((b 2).toNat : Int), .int .u8 ((b 3).toNat : Int), .int .u8 ((b 4).toNat : Int), .int .u8 ((b 5).toNat : Int), .int .u8 ((b 6).toNat : Int), .int .u8 ((b 7).toNat : Int), .int .i64 co, .int .i64 po, .int .i64 ag, .int .i64 ma, .int .i64 he, .int .i64 de, .bool ch, .bool ak] := by rw [← hW]; exact rowIs_new w _ _
    clear hW
    refine (awake_any _).mono ?_
    rintro e w1 ⟨rfl, hb1⟩
    have hb := hb.trans (hb1.mono hb.size)
    have R2 := Lib.hid (r2.kept hb1)
    clear r2 hb1
    go_wp2_with fail
    refine (notice_any _).mono ?_
    rintro e w2 ⟨rfl, rfl⟩
    go_wp2_with fail
    refine (parse_notice _ hno.out hne.out _).mono ?_
    rintro e w2 ⟨rfl, hb2⟩
    have hb := hb.trans (hb2.mono hb.size)
    have R2 := Lib.hid (R2.out.kept hb2)
    clear hb2
    go_wp2_with ((with_reducible refine at_store 30 (.tmp 5) (.tmp 26) ?_); refine wpList_store_own rfl 30 (.tmp 5) (.tmp 26) rfl w2.heap.size _ rfl rfl _ _ (rowIs_new _ _ _) info_word rfl (by kernel_rfl) w2.heap.size (Nat.le_refl _) ?_)
    intro w3 _ _ _ hb3
    have hb3 := (show Below w2.heap.size w2 w3 from ((Below.refl _ _).alloc (Nat.le_refl _) _).trans hb3)
    have hb := hb.trans (hb3.mono hb.size)
    have R2 := Lib.hid (R2.out.kept hb3)
    clear hb3
    go_wp2_with (((with_reducible refine at_load 28 (.tmp 2) ?_); refine wpList_load_own rfl 28 (.tmp 2) rfl _ rfl _ _ _ R2.out Try.underlying28 rfl info_rword ?_))
    refine (of_any r b co po ag ma he de ch ak _).mono ?_
    rintro e w4 ⟨rfl, hb4⟩
    have hb := hb.trans (hb4.mono hb.size)
    have R2 := Lib.hid (R2.out.kept hb4)
    clear hb4
    cases hr : Bpdu.right co po ag ma he de
    · have HR := Lib.hid hr
      clear hr
      go_wp2_with fail
      refine (print_bad r b co po ag ma he de ch ak _ HR.out).mono ?_
      rintro e w5 ⟨rfl, hb5⟩
      have hb := hb.trans (hb5.mono hb.size)
      have R2 := Lib.hid (R2.out.kept hb5)
      clear hb5
      go_wp2_with (((with_reducible refine at_load 28 (.tmp 2) ?_); refine wpList_load_own rfl 28 (.tmp 2) rfl _ rfl _ _ _ R2.out Try.underlying28 rfl info_rword ?_))
      refine (refRight_any r b co po ag ma he de ch ak _).mono ?_
      rintro e w6 ⟨rfl, hb6⟩
      rw [HR.out]
      have hb := hb.trans (hb6.mono hb.size)
      go_wp2_with fail
      go_ret
      exact ⟨rfl, hb⟩
    · obtain ⟨c0, c1, c2, c3, c4, c5, c6, c7, c8, c9, c10, c11, c12⟩ := Bpdu.right_bounds hr
      obtain ⟨co, rfl⟩ := Int.eq_ofNat_of_zero_le c0
      obtain ⟨po, rfl⟩ := Int.eq_ofNat_of_zero_le c2
      obtain ⟨ag, rfl⟩ := Int.eq_ofNat_of_zero_le c4
      obtain ⟨ma, rfl⟩ := Int.eq_ofNat_of_zero_le c6
      obtain ⟨he, rfl⟩ := Int.eq_ofNat_of_zero_le c8
      obtain ⟨de, rfl⟩ := Int.eq_ofNat_of_zero_le c10
      have HR := Lib.hid hr
      clear hr c0 c2 c4 c6 c8 c10
      go_wp2_with fail
      refine (print_good r b co po ag ma he de ch ak _ HR.out).mono ?_
      rintro e w5 ⟨rfl, hb5⟩
      have hb := hb.trans (hb5.mono hb.size)
      have R2 := Lib.hid (R2.out.kept hb5)
      clear hb5
      obtain ⟨s, hs⟩ : ∃ s : ByteArray, s = ⟨(Bpdu.text r b co po ag ma he de ch ak).toArray⟩ := ⟨_, rfl⟩
      have hsz : s.size = 38 := by
        rw [hs, Bpdu.text_lit r b co po ag ma he de ch ak (by omega) (by omega) (by omega) (by omega) (by omega) (by omega)]
        rfl
      have hsm := Lib.hid (show (s ++ more).data.toList = Bpdu.text r b co po ag ma he de ch ak ++ more.data.toList by rw [hs, ByteArray.data_append]; simp)
      rw [← hs]
      clear hs
      go_wp2_with fail
      refine (parse_printed r b co po ag ma he de ch ak (by omega) (by omega) (by omega) (by omega) (by omega) (by omega) (by omega) (s ++ more) more.data.toList hsm.out _).mono ?_
      rintro e w6 ⟨rfl, hb6⟩
      have hb := hb.trans (hb6.mono hb.size)
      have R2 := Lib.hid (R2.out.kept hb6)
      clear hb6
      go_wp2_with ((with_reducible refine at_store 30 (.tmp 10) (.tmp 55) ?_); refine wpList_store_own rfl 30 (.tmp 10) (.tmp 55) rfl w6.heap.size _ rfl rfl _ _ (rowIs_new _ _ _) info_word rfl (by kernel_rfl) w6.heap.size (Nat.le_refl _) ?_)
      intro w7 r10 _ _ hb7
      have hb7 := (show Below w6.heap.size w6 w7 from ((Below.refl _ _).alloc (Nat.le_refl _) _).trans hb7)
      have hb := hb.trans (hb7.mono hb.size)
      have R2 := Lib.hid (R2.out.kept hb7)
      have R10 := Lib.hid r10
      clear hb7 r10
      go_wp2_with fail
      have m1 := run_equalIn_id8 9997 r r
      have m2 := run_equalIn_id8 9997 b b
      rw [show eqB [r 0, r 1, r 2, r 3, r 4, r 5, r 6, r 7] [r 0, r 1, r 2, r 3, r 4, r 5, r 6, r 7] = true from eqB_true.2 rfl] at m1
      rw [show eqB [b 0, b 1, b 2, b 3, b 4, b 5, b 6, b 7] [b 0, b 1, b 2, b 3, b 4, b 5, b 6, b 7] = true from eqB_true.2 rfl] at m2
      refine wp_region_mix 18 (by kernel_rfl) (by kernel_rfl) (by kernel_rfl) ?_
      repeat (refine mix_step (by kernel_rfl) (by kernel_rfl) (fun K hK => ?_); go_simp; (try (simp only [↓IntWalk.iteOmega]; go_simp)); (first | (refine hK _ ?_; clear hK K) | (apply Exists.intro; refine ⟨fun _ => ?_, hK _ ?_⟩; (exact plain_any r b co po ag ma he de ch ak _); clear hK K)))
      refine mix_exact (.agg #[.int .u8 ((r 0).toNat : Int), .int .u8 ((r 1).toNat : Int), .int .u8 ((r 2).toNat : Int), .int .u8 ((r 3).toNat : Int), .int .u8 ((r 4).toNat : Int), .int .u8 ((r 5).toNat : Int), .int .u8 ((r 6).toNat : Int), .int .u8 ((r 7).toNat : Int), .int .u8 ((b 0).toNat : Int), .int .u8 ((b 1).toNat : Int), .int .u8 ((b 2).toNat : Int), .int .u8 ((b 3).toNat : Int), .int .u8 ((b 4).toNat : Int), .int .u8 ((b 5).toNat : Int), .int .u8 ((b 6).toNat : Int), .int .u8 ((b 7).toNat : Int), .int .i64 (co : Nat), .int .i64 (po : Nat), .int .i64 (ag : Nat), .int .i64 (ma : Nat), .int .i64 (he : Nat), .int .i64 (de : Nat), .bool ch, .bool ak]) rfl (exact_load_row rfl rfl (by simp) R10.out Try.underlying30 rfl info_word) ?_
      repeat (refine mix_step (by kernel_rfl) (by kernel_rfl) (fun K hK => ?_); go_simp; (try (simp only [↓IntWalk.iteOmega]; go_simp)); (first | (refine hK _ ?_; clear hK K) | (apply Exists.intro; refine ⟨fun _ => ?_, hK _ ?_⟩; (exact plain_any r b co po ag ma he de ch ak _); clear hK K)))
      refine mix_exact (.agg #[.int .u8 ((r 0).toNat : Int), .int .u8 ((r 1).toNat : Int), .int .u8 ((r 2).toNat : Int), .int .u8 ((r 3).toNat : Int), .int .u8 ((r 4).toNat : Int), .int .u8 ((r 5).toNat : Int), .int .u8 ((r 6).toNat : Int), .int .u8 ((r 7).toNat : Int), .int .u8 ((b 0).toNat : Int), .int .u8 ((b 1).toNat : Int), .int .u8 ((b 2).toNat : Int), .int .u8 ((b 3).toNat : Int), .int .u8 ((b 4).toNat : Int), .int .u8 ((b 5).toNat : Int), .int .u8 ((b 6).toNat : Int), .int .u8 ((b 7).toNat : Int), .int .i64 (co : Nat), .int .i64 (po : Nat), .int .i64 (ag : Nat), .int .i64 (ma : Nat), .int .i64 (he : Nat), .int .i64 (de : Nat), .bool ch, .bool ak]) rfl (exact_load_row rfl rfl (by simp) R2.out Try.underlying28 rfl info_rword) ?_
      repeat (refine mix_step (by kernel_rfl) (by kernel_rfl) (fun K hK => ?_); go_simp; (try (simp only [↓IntWalk.iteOmega]; go_simp)); (first | (refine hK _ ?_; clear hK K) | (apply Exists.intro; refine ⟨fun _ => ?_, hK _ ?_⟩; (exact plain_any r b co po ag ma he de ch ak _); clear hK K)))
      refine mix_nil ?_
      rintro ⟨dq, osq⟩
      have hb8 := below_regrown w7 dq osq
      refine (show wpList _ _ _ _ _ _ from ?_)
      simp only [List.drop]
      go_wp2_with fail
      go_ret
      exact ⟨rfl, hb.trans (hb8.mono hb.size)⟩
end Go.Proofs.Ytkbnkacmmjabkaa
