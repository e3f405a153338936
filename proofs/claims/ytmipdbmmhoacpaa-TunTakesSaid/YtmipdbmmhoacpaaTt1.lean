/- tun.read of what is no piece; Take of such, and of no joiner. By an AI agent. -/
import Derived.Test.YtmipdbmmhoacpaaPieces
namespace Go.Proofs.Ytmipdbmmhoacpaa
open Go.RowKit Go.Sort Grow

set_option maxRecDepth 20000 in
set_option maxHeartbeats 2000000 in
theorem read_empty (w : World) : Calls Try.prog 26 #[.string ⟨#[]⟩] w fun e w' => e = .returned (.tuple #[.agg #[.int .u32 0, .int .i64 0, .int .i64 0, .string ⟨#[]⟩], .bool false, .int .i64 2]) ∧ Below w.heap.size w w' := by
  go_enter Try.func26, Try.ntmps26
  go_upto_region 1 with fail
  generalize hW : w.alloc _ = W
  have HR : Hid (RowIs W w.heap.size 66 #[.int .u32 0, .int .i64 0, .int .i64 0, .string ⟨#[]⟩]) := by show RowIs W w.heap.size 66 #[.int .u32 0, .int .i64 0, .int .i64 0, .string ⟨#[]⟩]; rw [← hW]; exact rowIs_new w _ _
  have hbW : Below w.heap.size w W := by rw [← hW]; exact (Below.refl _ _).alloc (Nat.le_refl _) _
  clear hW
  go_wp2_with ((with_reducible refine at_store 66 (.tmp 2) (.tmp 22) ?_); refine wpList_store_own rfl 66 (.tmp 2) (.tmp 22) rfl w.heap.size _ rfl rfl _ _ HR.out info_piece rfl (by kernel_rfl) w.heap.size (Nat.le_refl _) ?_)
  intro w3 r3 _ _ hb3
  have R3 := Lib.hid r3
  clear r3
  go_wp2_with fail
  refine bodyPost_ret (results_row_tmp2 Try.results26 _ _ w.heap.size _ _ _ rfl R3.out Try.underlying66 rfl info_piece) rfl ?_
  exact ⟨rfl, hbW.trans hb3⟩

set_option maxRecDepth 20000 in
set_option maxHeartbeats 2000000 in
theorem read_idle (s : ByteArray) (w : World) (h1 : 1 ≤ s.size) (hm : (s.extract 0 1).toList = [0]) (hi : (s.toList == [0]) = true) : Calls Try.prog 26 #[.string s] w fun e w' => e = .returned (.tuple #[.agg #[.int .u32 0, .int .i64 0, .int .i64 0, .string ⟨#[]⟩], .bool false, .int .i64 0]) ∧ Below w.heap.size w w' := by
  have he : s.toList.isEmpty = false := by
    rw [Lib.toList_data]
    cases hl : s.data.toList with
    | nil =>
      have : s.data.toList.length = s.size := by simp
      rw [hl] at this
      simp at this
      omega
    | cons x l => rfl
  have hx1 : (([0] : List UInt8) == [1]) = false := by decide
  go_enter Try.func26, Try.ntmps26
  go_upto_region 1 with fail
  generalize hW : w.alloc _ = W
  have HR : Hid (RowIs W w.heap.size 66 #[.int .u32 0, .int .i64 0, .int .i64 0, .string ⟨#[]⟩]) := by show RowIs W w.heap.size 66 #[.int .u32 0, .int .i64 0, .int .i64 0, .string ⟨#[]⟩]; rw [← hW]; exact rowIs_new w _ _
  have hbW : Below w.heap.size w W := by rw [← hW]; exact (Below.refl _ _).alloc (Nat.le_refl _) _
  clear hW
  go_wp2_with ((with_reducible refine at_store 66 (.tmp 2) (.tmp 26) ?_); refine wpList_store_own rfl 66 (.tmp 2) (.tmp 26) rfl w.heap.size _ rfl rfl _ _ HR.out info_piece rfl (by kernel_rfl) w.heap.size (Nat.le_refl _) ?_)
  intro w3 r3 _ _ hb3
  have R3 := Lib.hid r3
  clear r3
  go_wp2_with fail
  refine bodyPost_ret (results_row_tmp2 Try.results26 _ _ w.heap.size _ _ _ rfl R3.out Try.underlying66 rfl info_piece) rfl ?_
  exact ⟨rfl, hbW.trans hb3⟩

set_option maxRecDepth 20000 in
set_option maxHeartbeats 2000000 in
theorem read_short (s : ByteArray) (w : World) (h1 : 1 ≤ s.size) (h8 : s.size < 8) (hm : (s.extract 0 1).toList = [1]) : Calls Try.prog 26 #[.string s] w fun e w' => e = .returned (.tuple #[.agg #[.int .u32 0, .int .i64 0, .int .i64 0, .string ⟨#[]⟩], .bool false, .int .i64 2]) ∧ Below w.heap.size w w' := by
  have he : s.toList.isEmpty = false := by
    rw [Lib.toList_data]
    cases hl : s.data.toList with
    | nil =>
      have : s.data.toList.length = s.size := by simp
      rw [hl] at this
      simp at this
      omega
    | cons x l => rfl
  go_enter Try.func26, Try.ntmps26
  go_upto_region 1 with fail
  generalize hW : w.alloc _ = W
  have HR : Hid (RowIs W w.heap.size 66 #[.int .u32 0, .int .i64 0, .int .i64 0, .string ⟨#[]⟩]) := by show RowIs W w.heap.size 66 #[.int .u32 0, .int .i64 0, .int .i64 0, .string ⟨#[]⟩]; rw [← hW]; exact rowIs_new w _ _
  have hbW : Below w.heap.size w W := by rw [← hW]; exact (Below.refl _ _).alloc (Nat.le_refl _) _
  clear hW
  go_wp2_with ((with_reducible refine at_store 66 (.tmp 2) (.tmp 22) ?_); refine wpList_store_own rfl 66 (.tmp 2) (.tmp 22) rfl w.heap.size _ rfl rfl _ _ HR.out info_piece rfl (by kernel_rfl) w.heap.size (Nat.le_refl _) ?_)
  intro w3 r3 _ _ hb3
  have R3 := Lib.hid r3
  clear r3
  go_wp2_with fail
  refine bodyPost_ret (results_row_tmp2 Try.results26 _ _ w.heap.size _ _ _ rfl R3.out Try.underlying66 rfl info_piece) rfl ?_
  exact ⟨rfl, hbW.trans hb3⟩

set_option maxRecDepth 20000 in
set_option maxHeartbeats 2000000 in
theorem read_mark (s : ByteArray) (w : World) (h1 : 1 ≤ s.size) (x : UInt8) (hm : (s.extract 0 1).toList = [x]) (hx : x ≠ 1) (hi : (s.toList == [0]) = false) : Calls Try.prog 26 #[.string s] w fun e w' => e = .returned (.tuple #[.agg #[.int .u32 0, .int .i64 0, .int .i64 0, .string ⟨#[]⟩], .bool false, .int .i64 3]) ∧ Below w.heap.size w w' := by
  have he : s.toList.isEmpty = false := by
    rw [Lib.toList_data]
    cases hl : s.data.toList with
    | nil =>
      have : s.data.toList.length = s.size := by simp
      rw [hl] at this
      simp at this
      omega
    | cons x l => rfl
  have hx1 : (([x] : List UInt8) == [1]) = false := by rw [beq_eq_false_iff_ne]; simpa using hx
  have hx2 : (x == 1) = false := by rw [beq_eq_false_iff_ne]; exact hx
  clear hx
  go_enter Try.func26, Try.ntmps26
  go_upto_region 1 with fail
  generalize hW : w.alloc _ = W
  have HR : Hid (RowIs W w.heap.size 66 #[.int .u32 0, .int .i64 0, .int .i64 0, .string ⟨#[]⟩]) := by show RowIs W w.heap.size 66 #[.int .u32 0, .int .i64 0, .int .i64 0, .string ⟨#[]⟩]; rw [← hW]; exact rowIs_new w _ _
  have hbW : Below w.heap.size w W := by rw [← hW]; exact (Below.refl _ _).alloc (Nat.le_refl _) _
  clear hW
  go_wp2_with ((with_reducible refine at_store 66 (.tmp 2) (.tmp 31) ?_); refine wpList_store_own rfl 66 (.tmp 2) (.tmp 31) rfl w.heap.size _ rfl rfl _ _ HR.out info_piece rfl (by kernel_rfl) w.heap.size (Nat.le_refl _) ?_)
  intro w3 r3 _ _ hb3
  have R3 := Lib.hid r3
  clear r3
  go_wp2_with fail
  refine bodyPost_ret (results_row_tmp2 Try.results26 _ _ w.heap.size _ _ _ rfl R3.out Try.underlying66 rfl info_piece) rfl ?_
  exact ⟨rfl, hbW.trans hb3⟩

set_option maxRecDepth 20000 in
set_option maxHeartbeats 4000000 in
theorem read_form (s : ByteArray) (w : World) (x y : Nat) (h8 : 8 ≤ s.size) (h2000 : s.size ≤ 100000) (hm : (s.extract 0 1).toList = [1]) (hi : (s.toList == [0]) = false) (ha : s[5].toNat = x) (hc : s[6].toNat = y) (hf : ¬ Tun.fits x y (s.size - 7)) : Calls Try.prog 26 #[.string s] w fun e w' => e = .returned (.tuple #[.agg #[.int .u32 0, .int .i64 0, .int .i64 0, .string ⟨#[]⟩], .bool false, .int .i64 3]) ∧ Below w.heap.size w w' := by
  have HF := Lib.hid hf
  clear hf
  have he : s.toList.isEmpty = false := by
    rw [Lib.toList_data]
    cases hl : s.data.toList with
    | nil =>
      have : s.data.toList.length = s.size := by simp
      rw [hl] at this
      simp at this
      omega
    | cons x l => rfl
  have N := fun w => number_any (s.extract 1 5) w (by simp; omega)
  have hnum := Oct.num_lt 4 (s.extract 1 5).data.toList (by simp; omega)
  have hnum : Oct.num (s.extract 1 5).data.toList < 4294967296 := Nat.lt_of_lt_of_eq hnum (by decide)
  generalize Oct.num (s.extract 1 5).data.toList = n at N hnum ⊢
  have N := Lib.hid N
  have hab := s[5].toNat_lt
  have hcb := s[6].toNat_lt
  have hxs : (s.extract 7 s.size).size = s.size - 7 := by rw [ByteArray.size_extract]; omega
  go_enter Try.func26, Try.ntmps26
  go_upto_region 1 with fail
  generalize hW : w.alloc _ = W
  have HR : Hid (RowIs W w.heap.size 66 #[.int .u32 0, .int .i64 0, .int .i64 0, .string ⟨#[]⟩]) := by show RowIs W w.heap.size 66 #[.int .u32 0, .int .i64 0, .int .i64 0, .string ⟨#[]⟩]; rw [← hW]; exact rowIs_new w _ _
  have hbW : Below w.heap.size w W := by rw [← hW]; exact (Below.refl _ _).alloc (Nat.le_refl _) _
  have hWs0 : w.heap.size < W.heap.size := HR.out.lt
  clear hW
  go_wp2_with fail
  refine (N.out _).mono ?_
  rintro e w1 ⟨rfl, rfl⟩
  have wn : IntKind.u32.wrap (n : Int) = n := by rw [IntKind.wrap_u32']; omega
  have wx : IntKind.i64.wrap (x : Int) = x := by rw [IntKind.wrap_i64]; omega
  have wy : IntKind.i64.wrap (y : Int) = y := by rw [IntKind.wrap_i64]; omega
  go_upto_region 8 with fail
  refine wp_region_mix 12 (by kernel_rfl) (by kernel_rfl) (by kernel_rfl) ?_
  (refine mix_step (by kernel_rfl) (by kernel_rfl) (fun K hK => ?_); go_simp; (try (simp only [↓IntWalk.iteOmega]; go_simp)); (first | (refine hK _ ?_; clear hK K) | (apply Exists.intro; refine ⟨fun _ => ?_, hK _ ?_⟩; (first | fail); clear hK K)))
  (refine mix_step (by kernel_rfl) (by kernel_rfl) (fun K hK => ?_); go_simp; (try (simp only [↓IntWalk.iteOmega]; go_simp)); (first | (refine hK _ ?_; clear hK K) | (apply Exists.intro; refine ⟨fun _ => ?_, hK _ ?_⟩; (first | fail); clear hK K)))
  (refine mix_step (by kernel_rfl) (by kernel_rfl) (fun K hK => ?_); go_simp; (try (simp only [↓IntWalk.iteOmega]; go_simp)); (first | (refine hK _ ?_; clear hK K) | (apply Exists.intro; refine ⟨fun _ => ?_, hK _ ?_⟩; (first | fail); clear hK K)))
  (refine mix_step (by kernel_rfl) (by kernel_rfl) (fun K hK => ?_); go_simp; (try (simp only [↓IntWalk.iteOmega]; go_simp)); (first | (refine hK _ ?_; clear hK K) | (apply Exists.intro; refine ⟨fun _ => ?_, hK _ ?_⟩; (first | fail); clear hK K)))
  (refine mix_step (by kernel_rfl) (by kernel_rfl) (fun K hK => ?_); go_simp; (try (simp only [↓IntWalk.iteOmega]; go_simp)); (first | (refine hK _ ?_; clear hK K) | (apply Exists.intro; refine ⟨fun _ => ?_, hK _ ?_⟩; (first | fail); clear hK K)))
  (refine mix_step (by kernel_rfl) (by kernel_rfl) (fun K hK => ?_); go_simp; (try (simp only [↓IntWalk.iteOmega]; go_simp)); (first | (refine hK _ ?_; clear hK K) | (apply Exists.intro; refine ⟨fun _ => ?_, hK _ ?_⟩; (first | fail); clear hK K)))
  (refine mix_step (by kernel_rfl) (by kernel_rfl) (fun K hK => ?_); go_simp; (try (simp only [↓IntWalk.iteOmega]; go_simp)); (first | (refine hK _ ?_; clear hK K) | (apply Exists.intro; refine ⟨fun _ => ?_, hK _ ?_⟩; (first | fail); clear hK K)))
  (refine mix_step (by kernel_rfl) (by kernel_rfl) (fun K hK => ?_); go_simp; (try (simp only [↓IntWalk.iteOmega]; go_simp)); (first | (refine hK _ ?_; clear hK K) | (apply Exists.intro; refine ⟨fun _ => ?_, hK _ ?_⟩; (first | fail); clear hK K)))
  (refine mix_step (by kernel_rfl) (by kernel_rfl) (fun K hK => ?_); go_simp; (try (simp only [↓IntWalk.iteOmega]; go_simp)); (first | (refine hK _ ?_; clear hK K) | (apply Exists.intro; refine ⟨fun _ => ?_, hK _ ?_⟩; (first | fail); clear hK K)))
  (refine mix_step (by kernel_rfl) (by kernel_rfl) (fun K hK => ?_); go_simp; (try (simp only [↓IntWalk.iteOmega]; go_simp)); (first | (refine hK _ ?_; clear hK K) | (apply Exists.intro; refine ⟨fun _ => ?_, hK _ ?_⟩; (first | fail); clear hK K)))
  (refine mix_step (by kernel_rfl) (by kernel_rfl) (fun K hK => ?_); go_simp; (try (simp only [↓IntWalk.iteOmega]; go_simp)); (first | (refine hK _ ?_; clear hK K) | (apply Exists.intro; refine ⟨fun _ => ?_, hK _ ?_⟩; (first | fail); clear hK K)))
  refine mix_special (NewAt W.heap.size 66 #[.int .u32 0, .int .i64 0, .int .i64 0, .string ⟨#[]⟩]) 7 rfl rfl (stable_new _ _ _) (owes_alloc rfl (by kernel_rfl)) ?_
  refine mix_nil ?_
  rintro ⟨dq, osq⟩ u7 ⟨b7, rfl, hB7, hR7⟩
  have hbq := below_regrown W dq osq
  have HR := Lib.hid (HR.out.kept hbq)
  have hbW := hbW.trans (hbq.mono hbW.size)
  have HR7 := Lib.hid hR7
  have hWs := HR.out.lt
  generalize grow (redrawn W dq) osq = W9 at *
  clear hR7 hbq
  refine (show wpList _ _ _ _ _ _ from ?_)
  simp only [List.drop, Act.put, List.setIfInBounds_toArray, List.set]
  go_wp2_with ((with_reducible refine at_store 66 (.tmp 7) (.tmp 48) ?_); refine wpList_store_own rfl 66 (.tmp 7) (.tmp 48) rfl b7 _ rfl rfl _ _ HR7.out info_piece rfl (by kernel_rfl) W.heap.size hB7 ?_)
  intro w2 r2 _ hs2 hb2
  have R2 := Lib.hid r2
  have HR := Lib.hid (HR.out.below hb2 hWs0)
  have hbW := hbW.trans (hb2.mono (Nat.le_of_lt hWs0))
  have c1 : w2.cell? ⟨b7, 1, none⟩ = some (.int .i64 (x : Int)) := R2.out.cell 1
  have c2 : w2.cell? ⟨b7, 2, none⟩ = some (.int .i64 (y : Int)) := R2.out.cell 2
  have c3 : w2.cell? ⟨b7, 3, none⟩ = some (.string (s.extract 7 s.size)) := R2.out.cell 3
  clear r2 hs2 hb2 HR7
  by_cases g4 : x + 1 = y
  case pos =>
    have h5 : ((x : Int) == (y : Int) - 1) = true := beq_iff_eq.2 (by omega)
    by_cases g1 : y < 1
    · have d1 : decide ((y : Int) < 1) = true := decide_eq_true (by omega)
      clear g4
      go_wp2_with ((with_reducible refine at_store 66 (.tmp 2) (.tmp 86) ?_); refine wpList_store_own rfl 66 (.tmp 2) (.tmp 86) rfl w.heap.size _ rfl rfl _ _ HR.out info_piece rfl (by kernel_rfl) w.heap.size (Nat.le_refl _) ?_)
      intro w3 r3 _ _ hb3
      have R3 := Lib.hid r3
      clear r3
      go_wp2_with fail
      refine bodyPost_ret (results_row_tmp2 Try.results26 _ _ w.heap.size _ _ _ rfl R3.out Try.underlying66 rfl info_piece) rfl ?_
      exact ⟨rfl, hbW.trans hb3⟩
    have d1 : decide ((y : Int) < 1) = false := decide_eq_false (by omega)
    have f1 : 1 ≤ y := by omega
    by_cases g2 : 3 < y
    · have d2 : decide (3 < (y : Int)) = true := decide_eq_true (by omega)
      clear g4 g1
      go_wp2_with ((with_reducible refine at_store 66 (.tmp 2) (.tmp 86) ?_); refine wpList_store_own rfl 66 (.tmp 2) (.tmp 86) rfl w.heap.size _ rfl rfl _ _ HR.out info_piece rfl (by kernel_rfl) w.heap.size (Nat.le_refl _) ?_)
      intro w3 r3 _ _ hb3
      have R3 := Lib.hid r3
      clear r3
      go_wp2_with fail
      refine bodyPost_ret (results_row_tmp2 Try.results26 _ _ w.heap.size _ _ _ rfl R3.out Try.underlying66 rfl info_piece) rfl ?_
      exact ⟨rfl, hbW.trans hb3⟩
    have d2 : decide (3 < (y : Int)) = false := decide_eq_false (by omega)
    have f2 : y ≤ 3 := by omega
    have d3 : decide ((y : Int) ≤ (x : Int)) = false := decide_eq_false (by omega)
    have f3 : x < y := by omega
    have g5 : 512 < s.size - 7 := by
      have := HF.out
      unfold Tun.fits at this
      omega
    have d5 : decide (512 < ((s.size - 7 : Nat) : Int)) = true := decide_eq_true (by omega)
    clear g1 g2 g4
    go_wp2_with ((with_reducible refine at_store 66 (.tmp 2) (.tmp 86) ?_); refine wpList_store_own rfl 66 (.tmp 2) (.tmp 86) rfl w.heap.size _ rfl rfl _ _ HR.out info_piece rfl (by kernel_rfl) w.heap.size (Nat.le_refl _) ?_)
    intro w3 r3 _ _ hb3
    have R3 := Lib.hid r3
    clear r3
    go_wp2_with fail
    refine bodyPost_ret (results_row_tmp2 Try.results26 _ _ w.heap.size _ _ _ rfl R3.out Try.underlying66 rfl info_piece) rfl ?_
    exact ⟨rfl, hbW.trans hb3⟩
  case neg =>
    have h5 : ((x : Int) == (y : Int) - 1) = false := beq_eq_false_iff_ne.2 (by omega)
    by_cases g1 : y < 1
    · have d1 : decide ((y : Int) < 1) = true := decide_eq_true (by omega)
      clear g4
      go_wp2_with ((with_reducible refine at_store 66 (.tmp 2) (.tmp 86) ?_); refine wpList_store_own rfl 66 (.tmp 2) (.tmp 86) rfl w.heap.size _ rfl rfl _ _ HR.out info_piece rfl (by kernel_rfl) w.heap.size (Nat.le_refl _) ?_)
      intro w3 r3 _ _ hb3
      have R3 := Lib.hid r3
      clear r3
      go_wp2_with fail
      refine bodyPost_ret (results_row_tmp2 Try.results26 _ _ w.heap.size _ _ _ rfl R3.out Try.underlying66 rfl info_piece) rfl ?_
      exact ⟨rfl, hbW.trans hb3⟩
    have d1 : decide ((y : Int) < 1) = false := decide_eq_false (by omega)
    have f1 : 1 ≤ y := by omega
    by_cases g2 : 3 < y
    · have d2 : decide (3 < (y : Int)) = true := decide_eq_true (by omega)
      clear g4 g1
      go_wp2_with ((with_reducible refine at_store 66 (.tmp 2) (.tmp 86) ?_); refine wpList_store_own rfl 66 (.tmp 2) (.tmp 86) rfl w.heap.size _ rfl rfl _ _ HR.out info_piece rfl (by kernel_rfl) w.heap.size (Nat.le_refl _) ?_)
      intro w3 r3 _ _ hb3
      have R3 := Lib.hid r3
      clear r3
      go_wp2_with fail
      refine bodyPost_ret (results_row_tmp2 Try.results26 _ _ w.heap.size _ _ _ rfl R3.out Try.underlying66 rfl info_piece) rfl ?_
      exact ⟨rfl, hbW.trans hb3⟩
    have d2 : decide (3 < (y : Int)) = false := decide_eq_false (by omega)
    have f2 : y ≤ 3 := by omega
    by_cases g3 : y ≤ x
    · have d3 : decide ((y : Int) ≤ (x : Int)) = true := decide_eq_true (by omega)
      clear g4 g1 g2
      have d3n : decide (y ≤ x) = true := decide_eq_true g3
      have f3n : ¬ x < y := by omega
      go_wp2_with ((with_reducible refine at_store 66 (.tmp 2) (.tmp 86) ?_); refine wpList_store_own rfl 66 (.tmp 2) (.tmp 86) rfl w.heap.size _ rfl rfl _ _ HR.out info_piece rfl (by kernel_rfl) w.heap.size (Nat.le_refl _) ?_)
      intro w3 r3 _ _ hb3
      have R3 := Lib.hid r3
      clear r3
      go_wp2_with fail
      refine bodyPost_ret (results_row_tmp2 Try.results26 _ _ w.heap.size _ _ _ rfl R3.out Try.underlying66 rfl info_piece) rfl ?_
      exact ⟨rfl, hbW.trans hb3⟩
    have d3 : decide ((y : Int) ≤ (x : Int)) = false := decide_eq_false (by omega)
    have f3 : x < y := by omega
    by_cases g5 : s.size - 7 = 512
    · exact absurd (by unfold Tun.fits; omega) HF.out
    · have d5 : (((s.size - 7 : Nat) : Int) == 512) = false := by rw [beq_eq_false_iff_ne]; omega
      clear g1 g2 g3 g4
      go_wp2_with ((with_reducible refine at_store 66 (.tmp 2) (.tmp 86) ?_); refine wpList_store_own rfl 66 (.tmp 2) (.tmp 86) rfl w.heap.size _ rfl rfl _ _ HR.out info_piece rfl (by kernel_rfl) w.heap.size (Nat.le_refl _) ?_)
      intro w3 r3 _ _ hb3
      have R3 := Lib.hid r3
      clear r3
      go_wp2_with fail
      refine bodyPost_ret (results_row_tmp2 Try.results26 _ _ w.heap.size _ _ _ rfl R3.out Try.underlying66 rfl info_piece) rfl ?_
      exact ⟨rfl, hbW.trans hb3⟩

/-- Take of what is not read: what read tells -/
theorem take_bad (J : Nat) (s : ByteArray) (er : Int) (w : World) (HREAD : ∀ w, Calls Try.prog 26 #[.string s] w fun e w' => e = .returned (.tuple #[.agg #[.int .u32 0, .int .i64 0, .int .i64 0, .string ⟨#[]⟩], .bool false, .int .i64 er]) ∧ Below w.heap.size w w') :
    Calls Try.prog 17 #[.pointer (some ⟨J, 0, none⟩), .string s] w fun e w' => e = .returned (.tuple #[.string ⟨#[]⟩, .bool false, .int .i64 er]) ∧ Below w.heap.size w w' := by
  have HR := Lib.hid HREAD
  clear HREAD
  go_enter Try.func17, Try.ntmps17
  go_wp2_with fail
  refine (HR.out _).mono ?_
  rintro e w1 ⟨rfl, hb1⟩
  go_wp2_with ((with_reducible refine at_store 66 (.tmp 7) (.tmp 20) ?_); refine wpList_store_own rfl 66 (.tmp 7) (.tmp 20) rfl w1.heap.size _ rfl rfl _ _ (rowIs_new _ _ _) info_piece rfl (by kernel_rfl) w1.heap.size (Nat.le_refl _) ?_)
  intro w2 r2 _ hs2 hb2
  have hb2 := (show Below w1.heap.size w1 w2 from ((Below.refl _ _).alloc (Nat.le_refl _) _).trans hb2)
  have hbw2 := hb1.trans (hb2.mono hb1.size)
  clear r2 hs2 hb1 hb2 HR
  by_cases her : er = 0
  · subst her
    go_wp2_with fail
    refine bodyPost_ret (results_three Try.results17 _ _ _) rfl ?_
    exact ⟨rfl, hbw2⟩
  · have her : (er == 0) = false := by rw [beq_eq_false_iff_ne]; exact her
    go_wp2_with fail
    refine bodyPost_ret (results_three Try.results17 _ _ _) rfl ?_
    exact ⟨rfl, hbw2⟩
theorem take_nil (s : ByteArray) (w : World) : Calls Try.prog 17 #[.pointer none, .string s] w fun e w' => e = .returned (.tuple #[.string ⟨#[]⟩, .bool false, .int .i64 1]) ∧ w = w' := by
  go_enter Try.func17, Try.ntmps17
  go_wp2_with fail
  refine bodyPost_ret (results_three Try.results17 _ _ _) rfl ?_
  exact ⟨rfl, rfl⟩
theorem held_nil (w : World) : Calls Try.prog 18 #[.pointer none] w fun e w' => e = .returned (.int .i64 0) ∧ w = w' := by
  go_enter Try.func18, Try.ntmps18
  go_wp2_with fail
  go_ret
  exact ⟨rfl, rfl⟩
end Go.Proofs.Ytmipdbmmhoacpaa
