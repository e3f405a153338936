/- tun.read: a piece that is read. By an AI agent. -/
import Derived.Test.YtdkgjbakbnhmaaaTunCut
import Derived.Test.YtdkgjbakbnhmaaaBeNum
import Derived.Test.YtdkgjbakbnhmaaaJoin1
import Derived.Laws.Strings2
import Derived.Laws.BitsAllLaws
import Derived.Laws.DeepStrings4
namespace Go.Proofs.Ytdkgjbakbnhmaaa
open Go.RowKit Go.Sort Grow

theorem info_piece : (Try.prog.info? 57).map (·.size) = some 4 := by kernel_rfl

def Tun.fits (a c z : Nat) : Prop := 1 ≤ c ∧ c ≤ 3 ∧ a < c ∧ z ≤ 512 ∧ (a + 1 = c ∨ z = 512)

set_option maxRecDepth 20000 in
set_option maxHeartbeats 4000000 in
theorem read_ok (s : ByteArray) (w : World) (x y : Nat) (h8 : 8 ≤ s.size) (h2000 : s.size ≤ 100000) (hm : (s.extract 0 1).toList = [1]) (hi : (s.toList == [0]) = false) (ha : s[5].toNat = x) (hc : s[6].toNat = y) (hf : Tun.fits x y (s.size - 7)) :
    Calls Try.prog 16 #[.string s] w fun e w' => e = .returned (.tuple #[.agg #[.int .u32 (Oct.num (s.extract 1 5).data.toList : Nat), .int .i64 (x : Int), .int .i64 (y : Int), .string (s.extract 7 s.size)], .bool true, .int .i64 0]) ∧ Below w.heap.size w w' := by
  obtain ⟨f1, f2, f3, f4, f5⟩ := hf
  have he : s.toList.isEmpty = false := by
    rw [Lib.toList_data]
    cases hl : s.data.toList with
    | nil =>
      have : s.data.toList.length = s.size := by simp
      rw [hl] at this
      simp at this
      omega
    | cons x l => rfl
  have N := fun w => number_any (s.extract 1 5) w (by simp; omega)
  have hnum := Oct.num_lt 4 (s.extract 1 5).data.toList (by simp; omega)
  have hnum : Oct.num (s.extract 1 5).data.toList < 4294967296 := Nat.lt_of_lt_of_eq hnum (by decide)
  generalize Oct.num (s.extract 1 5).data.toList = n at N hnum ⊢
  have N := Lib.hid N
  have hab := s[5].toNat_lt
  have hcb := s[6].toNat_lt
  have hxs : (s.extract 7 s.size).size = s.size - 7 := by rw [ByteArray.size_extract]; omega
  go_enter Try.func16, Try.ntmps16
  go_upto_region 1 with fail
  generalize hW : w.alloc _ = W
  have HR : Hid (RowIs W w.heap.size 57 #[.int .u32 0, .int .i64 0, .int .i64 0, .string ⟨#[]⟩]) := by show RowIs W w.heap.size 57 #[.int .u32 0, .int .i64 0, .int .i64 0, .string ⟨#[]⟩]; rw [← hW]; exact rowIs_new w _ _
  have hbW : Below w.heap.size w W := by rw [← hW]; exact (Below.refl _ _).alloc (Nat.le_refl _) _
  have hWs0 : w.heap.size < W.heap.size := HR.out.lt
  clear hW
  go_wp2_with fail
  refine (N.out _).mono ?_
  rintro e w1 ⟨rfl, rfl⟩
  have wn : IntKind.u32.wrap (n : Int) = n := by rw [IntKind.wrap_u32']; omega
  have wx : IntKind.i64.wrap (x : Int) = x := by rw [IntKind.wrap_i64]; omega
  have wy : IntKind.i64.wrap (y : Int) = y := by rw [IntKind.wrap_i64]; omega
  go_upto_region 8 with fail
  refine wp_region_mix 12 (by kernel_rfl) (by kernel_rfl) (by kernel_rfl) ?_
  (refine mix_step (by kernel_rfl) (by kernel_rfl) (fun K hK => ?_); go_simp; (try (simp only [↓IntWalk.iteOmega]; go_simp)); (first | (refine hK _ ?_; clear hK K) | (apply Exists.intro; refine ⟨fun _ => ?_, hK _ ?_⟩; (first | fail); clear hK K)))
  (refine mix_step (by kernel_rfl) (by kernel_rfl) (fun K hK => ?_); go_simp; (try (simp only [↓IntWalk.iteOmega]; go_simp)); (first | (refine hK _ ?_; clear hK K) | (apply Exists.intro; refine ⟨fun _ => ?_, hK _ ?_⟩; (first | fail); clear hK K)))
  (refine mix_step (by kernel_rfl) (by kernel_rfl) (fun K hK => ?_); go_simp; (try (simp only [↓IntWalk.iteOmega]; go_simp)); (first | (refine hK _ ?_; clear hK K) | (apply Exists.intro; refine ⟨fun _ => ?_, hK _ ?_⟩; (first | fail); clear hK K)))
  (refine mix_step (by kernel_rfl) (by kernel_rfl) (fun K hK => ?_); go_simp; (try (simp only [↓IntWalk.iteOmega]; go_simp)); (first | (refine hK _ ?_; clear hK K) | (apply Exists.intro; refine ⟨fun _ => ?_, hK _ ?_⟩; (first | fail); clear hK K)))
  (refine mix_step (by kernel_rfl) (by kernel_rfl) (fun K hK => ?_); go_simp; (try (simp only [↓IntWalk.iteOmega]; go_simp)); (first | (refine hK _ ?_; clear hK K) | (apply Exists.intro; refine ⟨fun _ => ?_, hK _ ?_⟩; (first | fail); clear hK K)))
  (refine mix_step (by kernel_rfl) (by kernel_rfl) (fun K hK => ?_); go_simp; (try (simp only [↓IntWalk.iteOmega]; go_simp)); (first | (refine hK _ ?_; clear hK K) | (apply Exists.intro; refine ⟨fun _ => ?_, hK _ ?_⟩; (first | fail); clear hK K)))
  (refine mix_step (by kernel_rfl) (by kernel_rfl) (fun K hK => ?_); go_simp; (try (simp only [↓IntWalk.iteOmega]; go_simp)); (first | (refine hK _ ?_; clear hK K) | (apply Exists.intro; refine ⟨fun _ => ?_, hK _ ?_⟩; (first | fail); clear hK K)))
  (refine mix_step (by kernel_rfl) (by kernel_rfl) (fun K hK => ?_); go_simp; (try (simp only [↓IntWalk.iteOmega]; go_simp)); (first | (refine hK _ ?_; clear hK K) | (apply Exists.intro; refine ⟨fun _ => ?_, hK _ ?_⟩; (first | fail); clear hK K)))
  (refine mix_step (by kernel_rfl) (by kernel_rfl) (fun K hK => ?_); go_simp; (try (simp only [↓IntWalk.iteOmega]; go_simp)); (first | (refine hK _ ?_; clear hK K) | (apply Exists.intro; refine ⟨fun _ => ?_, hK _ ?_⟩; (first | fail); clear hK K)))
  (refine mix_step (by kernel_rfl) (by kernel_rfl) (fun K hK => ?_); go_simp; (try (simp only [↓IntWalk.iteOmega]; go_simp)); (first | (refine hK _ ?_; clear hK K) | (apply Exists.intro; refine ⟨fun _ => ?_, hK _ ?_⟩; (first | fail); clear hK K)))
  (refine mix_step (by kernel_rfl) (by kernel_rfl) (fun K hK => ?_); go_simp; (try (simp only [↓IntWalk.iteOmega]; go_simp)); (first | (refine hK _ ?_; clear hK K) | (apply Exists.intro; refine ⟨fun _ => ?_, hK _ ?_⟩; (first | fail); clear hK K)))
  refine mix_special (NewAt W.heap.size 57 #[.int .u32 0, .int .i64 0, .int .i64 0, .string ⟨#[]⟩]) 7 rfl rfl (stable_new _ _ _) (owes_alloc rfl (by kernel_rfl)) ?_
  refine mix_nil ?_
  rintro ⟨dq, osq⟩ u7 ⟨b7, rfl, hB7, hR7⟩
  have hbq := below_regrown W dq osq
  have HR := Lib.hid (HR.out.kept hbq)
  have hbW := hbW.trans (hbq.mono hbW.size)
  have HR7 := Lib.hid hR7
  have hWs := HR.out.lt
  generalize grow (redrawn W dq) osq = W9 at *
  clear hR7 hbq
  refine (show wpList _ _ _ _ _ _ from ?_)
  simp only [List.drop, Act.put, List.setIfInBounds_toArray, List.set]
  go_wp2_with ((with_reducible refine at_store 57 (.tmp 7) (.tmp 48) ?_); refine wpList_store_own rfl 57 (.tmp 7) (.tmp 48) rfl b7 _ rfl rfl _ _ HR7.out info_piece rfl (by kernel_rfl) W.heap.size hB7 ?_)
  intro w2 r2 _ hs2 hb2
  have R2 := Lib.hid r2
  have HR := Lib.hid (HR.out.below hb2 hWs0)
  have hbW := hbW.trans (hb2.mono (Nat.le_of_lt hWs0))
  have c1 : w2.cell? ⟨b7, 1, none⟩ = some (.int .i64 (x : Int)) := R2.out.cell 1
  have c2 : w2.cell? ⟨b7, 2, none⟩ = some (.int .i64 (y : Int)) := R2.out.cell 2
  have c3 : w2.cell? ⟨b7, 3, none⟩ = some (.string (s.extract 7 s.size)) := R2.out.cell 3
  clear r2 hs2 hb2 HR7
  have hcase : (((x : Int) == (y : Int) - 1) = true) ∨ (((x : Int) == (y : Int) - 1) = false ∧ s.size - 7 = 512) := by
    by_cases h : x + 1 = y
    · exact .inl (beq_iff_eq.2 (by omega))
    · refine .inr ⟨beq_eq_false_iff_ne.2 (by omega), ?_⟩
      rcases f5 with h5 | h5
      · exact absurd h5 h
      · exact h5
  clear f5
  rcases hcase with h5 | ⟨h5, h6⟩
  all_goals
    go_wp2_with (first | ((with_reducible refine at_load 57 (.tmp 7) ?_); refine wpList_load_own rfl 57 (.tmp 7) rfl _ rfl _ _ _ R2.out Try.underlying57 rfl info_piece ?_) | ((with_reducible refine at_store 57 (.tmp 2) (.tmp 87) ?_); refine wpList_store_own rfl 57 (.tmp 2) (.tmp 87) rfl w.heap.size _ rfl rfl _ _ HR.out info_piece rfl (by kernel_rfl) w.heap.size (Nat.le_refl _) ?_))
    intro w3 r3 _ _ hb3
    have R3 := Lib.hid r3
    clear r3
    go_wp2_with fail
    refine bodyPost_ret (results_row_tmp2 Try.results16 _ _ w.heap.size _ _ _ rfl R3.out Try.underlying57 rfl info_piece) rfl ?_
    exact ⟨rfl, hbW.trans hb3⟩
end Go.Proofs.Ytdkgjbakbnhmaaa
