/- tun.Parse: what bytes are parsed as. By an AI agent. -/
import Derived.Test.YtmipdbmmhoacpaaTunPrint
import Derived.BigQuiet
import Derived.Lib.Strings
namespace Go.Proofs.Ytmipdbmmhoacpaa
open Go.RowKit Go.Sort Grow

theorem info_gram : (Try.prog.info? 29).map (·.size) = some 3 := by kernel_rfl

theorem parse_empty (w : World) :
    Calls Try.prog 11 #[.string ⟨#[]⟩] w fun e w' => e = .returned (.tuple #[.agg #[.int .i64 0, .int .u64 0, .string ⟨#[]⟩], .int .i64 2]) ∧ Below w.heap.size w w' := by
  go_enter Try.func11, Try.ntmps11
  go_wp2_with ((with_reducible refine at_store 29 (.tmp 2) (.tmp 8) ?_); refine wpList_store_own rfl 29 (.tmp 2) (.tmp 8) rfl w.heap.size _ rfl rfl _ _ (rowIs_new w _ _) info_gram rfl (by kernel_rfl) w.heap.size (Nat.le_refl _) ?_)
  intro w1 r1 _ _ hb1
  have R1 := Lib.hid r1
  have hb1 := (show Below w.heap.size w w1 from ((Below.refl _ _).alloc (Nat.le_refl _) _).trans hb1)
  go_wp2_with fail
  refine bodyPost_ret (results_row_tmp1 Try.results11 _ _ w.heap.size _ _ _ rfl R1.out Try.underlying29 rfl info_gram) rfl ?_
  exact ⟨rfl, hb1⟩

theorem isEmpty_false (s : ByteArray) (h : 0 < s.size) : s.toList.isEmpty = false := by
  rw [Lib.toList_data]
  cases hl : s.data.toList with
  | nil =>
    have : s.data.toList.length = s.size := by simp
    rw [hl] at this
    simp at this
    omega
  | cons a l => rfl

set_option maxHeartbeats 1000000 in
theorem parse_kind (s : ByteArray) (w : World) (h0 : 0 < s.size) (hk : s[0].toNat < 1 ∨ 1 ≤ s[0].toNat ∧ 3 < s[0].toNat) :
    Calls Try.prog 11 #[.string s] w fun e w' => e = .returned (.tuple #[.agg #[.int .i64 0, .int .u64 0, .string ⟨#[]⟩], .int .i64 3]) ∧ Below w.heap.size w w' := by
  have he := isEmpty_false s (by omega)
  have hb := (s[0]'(by omega)).toNat_lt
  rcases hk with hk | ⟨hk1, hk2⟩
  all_goals
    go_enter Try.func11, Try.ntmps11
    go_upto_region 3 with fail
    go_quiet (fail)
    go_wp2_with ((with_reducible refine at_store 29 (.tmp 2) (.tmp 21) ?_); refine wpList_store_own rfl 29 (.tmp 2) (.tmp 21) rfl w.heap.size _ rfl rfl _ _ (rowIs_new w _ _) info_gram rfl (by kernel_rfl) w.heap.size (Nat.le_refl _) ?_)
    intro w1 r1 _ _ hb1
    have R1 := Lib.hid r1
    have hb1 := (show Below w.heap.size w w1 from (below_drewN ((Below.refl _ _).alloc (Nat.le_refl _) _) _).trans hb1)
    go_wp2_with fail
    refine bodyPost_ret (results_row_tmp1 Try.results11 _ _ w.heap.size _ _ _ rfl R1.out Try.underlying29 rfl info_gram) rfl ?_
    exact ⟨rfl, hb1⟩

set_option maxHeartbeats 1000000 in
theorem parse_short (s : ByteArray) (m : Nat) (w : World) (hs : s.size = m + 1) (hk : s[0].toNat = 3 ∧ m < 24 ∨ s[0].toNat = 1 ∧ m < 48 ∨ s[0].toNat = 2 ∧ m < 48) :
    Calls Try.prog 11 #[.string s] w fun e w' => e = .returned (.tuple #[.agg #[.int .i64 0, .int .u64 0, .string ⟨#[]⟩], .int .i64 2]) ∧ Below w.heap.size w w' := by
  have he := isEmpty_false s (by omega)
  have hb := (s[0]'(by omega)).toNat_lt
  rcases hk with ⟨hk, hm⟩ | ⟨hk, hm⟩ | ⟨hk, hm⟩
  all_goals
    go_enter Try.func11, Try.ntmps11
    go_upto_region 3 with fail
    go_quiet (fail)
    go_wp2_with ((with_reducible refine at_store 29 (.tmp 2) (.tmp 39) ?_); refine wpList_store_own rfl 29 (.tmp 2) (.tmp 39) rfl w.heap.size _ rfl rfl _ _ (rowIs_new w _ _) info_gram rfl (by kernel_rfl) w.heap.size (Nat.le_refl _) ?_)
    intro w1 r1 _ _ hb1
    have R1 := Lib.hid r1
    have hb1 := (show Below w.heap.size w w1 from (below_drewN ((Below.refl _ _).alloc (Nat.le_refl _) _) _).trans hb1)
    go_wp2_with fail
    refine bodyPost_ret (results_row_tmp1 Try.results11 _ _ w.heap.size _ _ _ rfl R1.out Try.underlying29 rfl info_gram) rfl ?_
    exact ⟨rfl, hb1⟩

set_option maxHeartbeats 1000000 in
theorem parse_long (s : ByteArray) (m : Nat) (w : World) (hs : s.size = m + 1) (h48 : 48 < m) (hm : m ≤ 100000) (hk : s[0].toNat = 1 ∨ s[0].toNat = 2) :
    Calls Try.prog 11 #[.string s] w fun e w' => e = .returned (.tuple #[.agg #[.int .i64 0, .int .u64 0, .string ⟨#[]⟩], .int .i64 3]) ∧ Below w.heap.size w w' := by
  have he := isEmpty_false s (by omega)
  have hb := (s[0]'(by omega)).toNat_lt
  rcases hk with hk | hk
  all_goals
    go_enter Try.func11, Try.ntmps11
    go_upto_region 3 with fail
    go_quiet (fail)
    go_wp2_with ((with_reducible refine at_store 29 (.tmp 2) (.tmp 54) ?_); refine wpList_store_own rfl 29 (.tmp 2) (.tmp 54) rfl w.heap.size _ rfl rfl _ _ (rowIs_new w _ _) info_gram rfl (by kernel_rfl) w.heap.size (Nat.le_refl _) ?_)
    intro w1 r1 _ _ hb1
    have R1 := Lib.hid r1
    have hb1 := (show Below w.heap.size w w1 from (below_drewN ((Below.refl _ _).alloc (Nat.le_refl _) _) _).trans hb1)
    go_wp2_with fail
    refine bodyPost_ret (results_row_tmp1 Try.results11 _ _ w.heap.size _ _ _ rfl R1.out Try.underlying29 rfl info_gram) rfl ?_
    exact ⟨rfl, hb1⟩

set_option maxHeartbeats 1000000 in
theorem parse_greet (s : ByteArray) (k : Nat) (w : World) (hs : s.size = 49) (hk : s[0].toNat = k) (hk2 : k = 1 ∨ k = 2) :
    Calls Try.prog 11 #[.string s] w fun e w' => e = .returned (.tuple #[.agg #[.int .i64 k, .int .u64 0, .string (s.extract 1 49)], .int .i64 0]) ∧ Below w.heap.size w w' := by
  have he := isEmpty_false s (by omega)
  have hb := (s[0]'(by omega)).toNat_lt
  rcases hk2 with rfl | rfl
  all_goals
    go_enter Try.func11, Try.ntmps11
    go_upto_region 3 with fail
    go_quiet (fail)
    go_wp2_with ((with_reducible refine at_store 29 (.tmp 2) (.tmp 57) ?_); refine wpList_store_own rfl 29 (.tmp 2) (.tmp 57) rfl w.heap.size _ rfl rfl _ _ (rowIs_new w _ _) info_gram rfl (by kernel_rfl) w.heap.size (Nat.le_refl _) ?_)
    intro w1 r1 _ _ hb1
    have R1 := Lib.hid r1
    have hb1 := (show Below w.heap.size w w1 from (below_drewN ((Below.refl _ _).alloc (Nat.le_refl _) _) _).trans hb1)
    go_wp2_with fail
    refine bodyPost_ret (results_row_tmp1 Try.results11 _ _ w.heap.size _ _ _ rfl R1.out Try.underlying29 rfl info_gram) rfl ?_
    exact ⟨rfl, hb1⟩

set_option maxHeartbeats 1000000 in
theorem parse_sealed (s : ByteArray) (m : Nat) (w : World) (hs : s.size = m + 1) (h24 : 24 ≤ m) (hm : m ≤ 100000) (hk : s[0].toNat = 3) :
  Calls Try.prog 11 #[.string s] w fun e w' => e = .returned (.tuple #[.agg #[.int .i64 3, .int .u64 (Oct.num ((s.extract 1 (m + 1)).extract 0 8).data.toList), .string ((s.extract 1 (m + 1)).extract 8 m)], .int .i64 0]) ∧ Below w.heap.size w w' := by
  have he := isEmpty_false s (by omega)
  have hb := (s[0]'(by omega)).toNat_lt
  have OF := fun w => of_any ((s.extract 1 (m + 1)).extract 0 8) w (by simp; omega)
  generalize Oct.num ((s.extract 1 (m + 1)).extract 0 8).data.toList = N at OF ⊢
  have OF := Lib.hid OF
  go_enter Try.func11, Try.ntmps11
  go_upto_region 3 with fail
  go_quiet (fail)
  go_upto_region 9 with fail
  generalize hW : World.drewN _ _ = W
  have hbW : Below w.heap.size w W := by rw [← hW]; exact below_drewN ((Below.refl _ _).alloc (Nat.le_refl _) _) _
  have r1 : RowIs W w.heap.size 29 #[.int .i64 0, .int .u64 0, .string ⟨#[]⟩] := by rw [← hW]; exact rowIs_new w _ _
  have R1 := Lib.hid r1
  have hgt : w.heap.size < W.heap.size := by rw [← hW]; simp [World.drewN]
  clear hW r1
  refine wp_region_mix 7 (by kernel_rfl) (by kernel_rfl) (by kernel_rfl) ?_
  (refine mix_step (by kernel_rfl) (by kernel_rfl) (fun K hK => ?_); go_simp; (try (simp only [↓IntWalk.iteOmega]; go_simp)); (first | (refine hK _ ?_; clear hK K) | (apply Exists.intro; refine ⟨fun _ => ?_, hK _ ?_⟩; (first | fail); clear hK K)))
  (refine mix_step (by kernel_rfl) (by kernel_rfl) (fun K hK => ?_); go_simp; (try (simp only [↓IntWalk.iteOmega]; go_simp)); (first | (refine hK _ ?_; clear hK K) | (apply Exists.intro; refine ⟨fun _ => ?_, hK _ ?_⟩; (first | fail); clear hK K)))
  (refine mix_step (by kernel_rfl) (by kernel_rfl) (fun K hK => ?_); go_simp; (try (simp only [↓IntWalk.iteOmega]; go_simp)); (first | (refine hK _ ?_; clear hK K) | (apply Exists.intro; refine ⟨fun _ => ?_, hK _ ?_⟩; (first | fail); clear hK K)))
  (refine mix_step (by kernel_rfl) (by kernel_rfl) (fun K hK => ?_); go_simp; (try (simp only [↓IntWalk.iteOmega]; go_simp)); (first | (refine hK _ ?_; clear hK K) | (apply Exists.intro; refine ⟨fun _ => ?_, hK _ ?_⟩; (first | exact below_same (OF.out _)); clear hK K)))
  (refine mix_step (by kernel_rfl) (by kernel_rfl) (fun K hK => ?_); go_simp; (try (simp only [↓IntWalk.iteOmega]; go_simp)); (first | (refine hK _ ?_; clear hK K) | (apply Exists.intro; refine ⟨fun _ => ?_, hK _ ?_⟩; (first | fail); clear hK K)))
  (refine mix_step (by kernel_rfl) (by kernel_rfl) (fun K hK => ?_); go_simp; (try (simp only [↓IntWalk.iteOmega]; go_simp)); (first | (refine hK _ ?_; clear hK K) | (apply Exists.intro; refine ⟨fun _ => ?_, hK _ ?_⟩; (first | fail); clear hK K)))
  (refine mix_step (by kernel_rfl) (by kernel_rfl) (fun K hK => ?_); go_simp; (try (simp only [↓IntWalk.iteOmega]; go_simp)); (first | (refine hK _ ?_; clear hK K) | (apply Exists.intro; refine ⟨fun _ => ?_, hK _ ?_⟩; (first | fail); clear hK K)))
  refine mix_nil ?_
  rintro ⟨dq, osq⟩
  have hb3 := below_regrown W dq osq
  have hbW := hbW.trans (hb3.mono hbW.size)
  generalize grow (redrawn W dq) osq = W9 at *
  refine (show wpList _ _ _ _ _ _ from ?_)
  simp only [List.drop, Act.put, List.setIfInBounds_toArray, List.set]
  have R9 := Lib.hid (R1.out.kept hb3)
  have hgt9 := Nat.lt_of_lt_of_le hgt hb3.size
  go_wp2_with ((with_reducible refine at_store 29 (.tmp 2) (.tmp 49) ?_); refine wpList_store_own rfl 29 (.tmp 2) (.tmp 49) rfl w.heap.size _ rfl rfl _ _ R9.out info_gram rfl (by kernel_rfl) w.heap.size (Nat.le_refl _) ?_)
  intro w1 r1 _ _ hb1
  have R1 := Lib.hid r1
  have hb1 := hbW.trans hb1
  go_wp2_with fail
  refine bodyPost_ret (results_row_tmp1 Try.results11 _ _ w.heap.size _ _ _ rfl R1.out Try.underlying29 rfl info_gram) rfl ?_
  exact ⟨rfl, hb1⟩
end Go.Proofs.Ytmipdbmmhoacpaa
