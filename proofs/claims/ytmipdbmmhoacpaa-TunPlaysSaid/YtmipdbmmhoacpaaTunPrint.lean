/- tun.Print: what is printed of a datagram. By an AI agent. -/
import Derived.Test.YtmipdbmmhoacpaaTunGram
import Derived.Test.YtmipdbmmhoacpaaGrowKit
import Derived.Deep.DeepCutAuto
namespace Go.Proofs.Ytmipdbmmhoacpaa
open Go.RowKit Go.Sort Grow

theorem size_alloc' (w : World) (o : Obj) : (w.alloc o).heap.size = w.heap.size + 1 := by simp

set_option maxRecDepth 100000 in
set_option maxHeartbeats 1000000 in
theorem print_sealed (n : Nat) (b : ByteArray) (w : World) (hn : n < 18446744073709551616) (h16 : 16 ≤ b.size) (hm : b.size ≤ 100000) :
    Calls Try.prog 10 #[.agg #[.int .i64 3, .int .u64 n, .string b]] w fun e w' => e = .returned (.tuple #[.string (⟨(3 :: Oct.be 8 n).toArray⟩ ++ b), .int .i64 0]) ∧ Below w.heap.size w w' := by
  have E := fun w => eight_any n w hn
  have hl := Oct.be_length 8 n
  generalize Oct.be 8 n = s8 at E hl ⊢
  have E := Lib.hid E
  have q1 : ¬ 9223372036854775807 < 1 + s8.length := by omega
  have q2 : ¬ 9223372036854775807 < s8.length + 1 + b.size := by omega
  have HS := run_string_one (w.alloc (.cells #[.int .i64 3, .int .u64 n, .string b] 29)) 3
  rw [size_alloc'] at HS
  go_enter Try.func10, Try.ntmps10
  go_upto_region 3 with fail
  generalize hW : World.alloc _ _ = W
  have hbW : Below w.heap.size w W := by rw [← hW]; exact ((Below.refl _ _).alloc (Nat.le_refl _) _).alloc (by simp) _
  have c1 : W.cell? ⟨w.heap.size, 1, none⟩ = some (.int .u64 n) := by subst hW; go_simp
  have c2 : W.cell? ⟨w.heap.size, 2, none⟩ = some (.string b) := by subst hW; go_simp
  clear hW
  have k1 := cell_regrown c1
  have k2 := cell_regrown c2
  refine wp_region_mix 8 (by kernel_rfl) (by kernel_rfl) (by kernel_rfl) ?_
  (refine mix_step (by kernel_rfl) (by kernel_rfl) (fun K hK => ?_); go_simp; (try (simp only [↓IntWalk.iteOmega]; go_simp)); (first | (refine hK _ ?_; clear hK K) | (apply Exists.intro; refine ⟨fun _ => ?_, hK _ ?_⟩; (first | fail); clear hK K)))
  (refine mix_step (by kernel_rfl) (by kernel_rfl) (fun K hK => ?_); go_simp; (try (simp only [↓IntWalk.iteOmega]; go_simp)); (first | (refine hK _ ?_; clear hK K) | (apply Exists.intro; refine ⟨fun _ => ?_, hK _ ?_⟩; (first | fail); clear hK K)))
  (refine mix_step (by kernel_rfl) (by kernel_rfl) (fun K hK => ?_); go_simp; (try (simp only [↓IntWalk.iteOmega]; go_simp)); (first | (refine hK _ ?_; clear hK K) | (apply Exists.intro; refine ⟨fun _ => ?_, hK _ ?_⟩; (first | fail); clear hK K)))
  (refine mix_step (by kernel_rfl) (by kernel_rfl) (fun K hK => ?_); go_simp; (try (simp only [↓IntWalk.iteOmega]; go_simp)); (first | (refine hK _ ?_; clear hK K) | (apply Exists.intro; refine ⟨fun _ => ?_, hK _ ?_⟩; (first | exact E.out _); clear hK K)))
  (refine mix_step (by kernel_rfl) (by kernel_rfl) (fun K hK => ?_); go_simp; (try (simp only [↓IntWalk.iteOmega]; go_simp)); (first | (refine hK _ ?_; clear hK K) | (apply Exists.intro; refine ⟨fun _ => ?_, hK _ ?_⟩; (first | fail); clear hK K)))
  (refine mix_step (by kernel_rfl) (by kernel_rfl) (fun K hK => ?_); go_simp; (try (simp only [↓IntWalk.iteOmega]; go_simp)); (first | (refine hK _ ?_; clear hK K) | (apply Exists.intro; refine ⟨fun _ => ?_, hK _ ?_⟩; (first | fail); clear hK K)))
  (refine mix_step (by kernel_rfl) (by kernel_rfl) (fun K hK => ?_); go_simp; (try (simp only [↓IntWalk.iteOmega]; go_simp)); (first | (refine hK _ ?_; clear hK K) | (apply Exists.intro; refine ⟨fun _ => ?_, hK _ ?_⟩; (first | fail); clear hK K)))
  (refine mix_step (by kernel_rfl) (by kernel_rfl) (fun K hK => ?_); go_simp; (try (simp only [↓IntWalk.iteOmega]; go_simp)); (first | (refine hK _ ?_; clear hK K) | (apply Exists.intro; refine ⟨fun _ => ?_, hK _ ?_⟩; (first | fail); clear hK K)))
  refine mix_nil ?_
  rintro ⟨dq, osq⟩
  have hb3 := below_regrown W dq osq
  have hbW := hbW.trans (hb3.mono hbW.size)
  generalize grow (redrawn W dq) osq = W9 at *
  refine (show wpList _ _ _ _ _ _ from ?_)
  simp only [List.drop, Act.put, List.setIfInBounds_toArray, List.set]
  go_wp2_with fail
  go_ret2
  exact ⟨rfl, hbW⟩

set_option maxHeartbeats 1000000 in
theorem print_short (k : Int) (b : ByteArray) (w : World) (hk : k = 1 ∨ k = 2) (h48 : b.size = 48) :
    Calls Try.prog 10 #[.agg #[.int .i64 k, .int .u64 0, .string b]] w fun e w' => e = .returned (.tuple #[.string (⟨#[UInt8.ofNat k.toNat]⟩ ++ b), .int .i64 0]) ∧ Below w.heap.size w w' := by
  have HS := fun x => run_string_one (w.alloc (.cells #[.int .i64 k, .int .u64 0, .string b] 29)) x
  simp only [size_alloc'] at HS
  have q1 : ¬ 9223372036854775807 < 1 + b.size := by omega
  rcases hk with rfl | rfl
  all_goals
    go_enter Try.func10, Try.ntmps10
    go_wp2_with fail
    go_ret2
    exact ⟨rfl, ((Below.refl _ _).alloc (Nat.le_refl _) _).alloc (by simp) _⟩

set_option maxHeartbeats 1000000 in
theorem print_none (k : Int) (n : Nat) (b : ByteArray) (w : World) (h1 : ¬ (k = 3 ∧ 16 ≤ b.size)) (h2 : ¬ ((k = 1 ∨ k = 2) ∧ b.size = 48 ∧ n = 0)) :
    Calls Try.prog 10 #[.agg #[.int .i64 k, .int .u64 n, .string b]] w fun e w' => e = .returned (.tuple #[.string ⟨#[]⟩, .int .i64 3]) ∧ Below w.heap.size w w' := by
  have HS := fun x => run_string_one (w.alloc (.cells #[.int .i64 k, .int .u64 n, .string b] 29)) x
  simp only [size_alloc'] at HS
  have key : (k = 3 ∧ b.size < 16) ∨ (¬ k = 3 ∧ ¬ k = 1 ∧ ¬ k = 2) ∨ (k = 1 ∧ ¬ b.size = 48) ∨ (k = 2 ∧ ¬ b.size = 48) ∨ (k = 1 ∧ b.size = 48 ∧ ¬ n = 0) ∨ (k = 2 ∧ b.size = 48 ∧ ¬ n = 0) := by omega
  clear h1 h2
  rcases key with ⟨rfl, h⟩ | ⟨h, h2, h3⟩ | ⟨rfl, h⟩ | ⟨rfl, h⟩ | ⟨rfl, h, h2⟩ | ⟨rfl, h, h2⟩
  all_goals
    go_enter Try.func10, Try.ntmps10
    go_wp2_with fail
    go_ret2
    exact ⟨rfl, ((Below.refl _ _).alloc (Nat.le_refl _) _).alloc (by simp) _⟩
end Go.Proofs.Ytmipdbmmhoacpaa
