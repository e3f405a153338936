/- causeyref12.Eight, Print: by definition. By an AI agent. -/
import Derived.Test.YtmipdbmmhoacpaaTunLaw
namespace Go.Proofs.Ytmipdbmmhoacpaa
open Go.RowKit Go.Sort Grow

set_option maxRecDepth 100000 in
set_option maxHeartbeats 1000000 in
theorem refEight_any (n : Nat) (w : World) (hn : n < 18446744073709551616) :
    Calls Try.prog 23 #[.int .u64 n] w fun e w' => e = .returned (.string ⟨(Oct.be 8 n).toArray⟩) ∧ Below w.heap.size w w' := by
  go_enter Try.func23, Try.ntmps23
  go_wp2
  go_loopw [0, 3, 4] (fun v s i wr => ∃ j m : Nat, ∃ b : ByteArray, j ≤ 8 ∧ Hid (m < 18446744073709551616) ∧ Hid (m = n / 256 ^ j) ∧ i = .int .i64 j ∧ v = .int .u64 m ∧ s = .string b ∧ Hid (b = ⟨(Oct.be j n).toArray⟩) ∧ Below w.heap.size w wr) (fun _ _ i _ => 8 - (intOf i).toNat)
  case atStart => exact ⟨0, n, _, Nat.zero_le _, hn, by show _ = _; simp, rfl, rfl, rfl, rfl, Below.refl _ _⟩
  case round =>
    rename_i wr
    obtain ⟨j, m, b, hj, hm, hme, rfl, rfl, rfl, hb, hbel⟩ := hrel
    by_cases hlt : j < 8
    · have hbs : b.size = j := by rw [hb.out]; simp [ByteArray.size, Oct.be_length]
      have q : ¬ 9223372036854775807 < 1 + b.size := by omega
      clear hbs
      have HS := fun x => run_string_one wr x
      go_wp2
      have hmm := hm.out
      refine ⟨⟨j + 1, m / 256, _, by omega, ?_, ?_, by go_num, by rw [IntKind.wrap_u64]; congr 1; omega, rfl, ?_, hbel.alloc hbel.size _⟩, by simp [intOf]; omega⟩
      · show _ < _
        omega
      · show _ = _
        rw [hme.out, Oct.div_pow]
      · show _ = _
        have e : UInt8.ofNat (m % 256) = UInt8.ofNat (n / 256 ^ j) := by
          rw [← hme.out]
          exact UInt8.toNat_inj.1 (by rw [UInt8.toNat_ofNat', UInt8.toNat_ofNat']; omega)
        rw [hb.out, e, ← Oct.be_cons]
    · obtain rfl : j = 8 := by omega
      go_wp2
      go_ret
      have hb := hb.out
      subst hb
      exact ⟨rfl, hbel⟩

set_option maxRecDepth 100000 in
set_option maxHeartbeats 1000000 in
theorem refPrint_sealed (n : Nat) (b : ByteArray) (w : World) (hn : n < 18446744073709551616) (h16 : 16 ≤ b.size) (hm : b.size ≤ 100000) :
    Calls Try.prog 12 #[.agg #[.int .i64 3, .int .u64 n, .string b]] w fun e w' => e = .returned (.tuple #[.string (⟨(3 :: Oct.be 8 n).toArray⟩ ++ b), .bool true]) ∧ Below w.heap.size w w' := by
  have E := fun w => refEight_any n w hn
  have hl := Oct.be_length 8 n
  generalize Oct.be 8 n = s8 at E hl ⊢
  have E := Lib.hid E
  have q1 : ¬ 9223372036854775807 < 1 + s8.length := by omega
  have q2 : ¬ 9223372036854775807 < s8.length + 1 + b.size := by omega
  go_enter Try.func12, Try.ntmps12
  go_upto_region 2 with fail
  generalize hW : World.alloc _ _ = W
  have hbW : Below w.heap.size w W := by rw [← hW]; exact (Below.refl _ _).alloc (Nat.le_refl _) _
  have c1 : W.cell? ⟨w.heap.size, 1, none⟩ = some (.int .u64 n) := by subst hW; go_simp
  have c2 : W.cell? ⟨w.heap.size, 2, none⟩ = some (.string b) := by subst hW; go_simp
  clear hW
  have k1 := cell_regrown c1
  have k2 := cell_regrown c2
  refine wp_region_mix 7 (by kernel_rfl) (by kernel_rfl) (by kernel_rfl) ?_
  (refine mix_step (by kernel_rfl) (by kernel_rfl) (fun K hK => ?_); go_simp; (try (simp only [↓IntWalk.iteOmega]; go_simp)); (first | (refine hK _ ?_; clear hK K) | (apply Exists.intro; refine ⟨fun _ => ?_, hK _ ?_⟩; (first | fail); clear hK K)))
  (refine mix_step (by kernel_rfl) (by kernel_rfl) (fun K hK => ?_); go_simp; (try (simp only [↓IntWalk.iteOmega]; go_simp)); (first | (refine hK _ ?_; clear hK K) | (apply Exists.intro; refine ⟨fun _ => ?_, hK _ ?_⟩; (first | fail); clear hK K)))
  (refine mix_step (by kernel_rfl) (by kernel_rfl) (fun K hK => ?_); go_simp; (try (simp only [↓IntWalk.iteOmega]; go_simp)); (first | (refine hK _ ?_; clear hK K) | (apply Exists.intro; refine ⟨fun _ => ?_, hK _ ?_⟩; (first | exact E.out _); clear hK K)))
  (refine mix_step (by kernel_rfl) (by kernel_rfl) (fun K hK => ?_); go_simp; (try (simp only [↓IntWalk.iteOmega]; go_simp)); (first | (refine hK _ ?_; clear hK K) | (apply Exists.intro; refine ⟨fun _ => ?_, hK _ ?_⟩; (first | fail); clear hK K)))
  (refine mix_step (by kernel_rfl) (by kernel_rfl) (fun K hK => ?_); go_simp; (try (simp only [↓IntWalk.iteOmega]; go_simp)); (first | (refine hK _ ?_; clear hK K) | (apply Exists.intro; refine ⟨fun _ => ?_, hK _ ?_⟩; (first | fail); clear hK K)))
  (refine mix_step (by kernel_rfl) (by kernel_rfl) (fun K hK => ?_); go_simp; (try (simp only [↓IntWalk.iteOmega]; go_simp)); (first | (refine hK _ ?_; clear hK K) | (apply Exists.intro; refine ⟨fun _ => ?_, hK _ ?_⟩; (first | fail); clear hK K)))
  (refine mix_step (by kernel_rfl) (by kernel_rfl) (fun K hK => ?_); go_simp; (try (simp only [↓IntWalk.iteOmega]; go_simp)); (first | (refine hK _ ?_; clear hK K) | (apply Exists.intro; refine ⟨fun _ => ?_, hK _ ?_⟩; (first | fail); clear hK K)))
  refine mix_nil ?_
  rintro ⟨dq, osq⟩
  have hb3 := below_regrown W dq osq
  have hbW := hbW.trans (hb3.mono hbW.size)
  generalize grow (redrawn W dq) osq = W9 at *
  refine (show wpList _ _ _ _ _ _ from ?_)
  simp only [List.drop, Act.put, List.setIfInBounds_toArray, List.set]
  go_wp2_with fail
  go_ret2
  exact ⟨rfl, hbW⟩

set_option maxHeartbeats 1000000 in
theorem refPrint_short (k : Int) (b : ByteArray) (w : World) (hk : k = 1 ∨ k = 2) (h48 : b.size = 48) :
    Calls Try.prog 12 #[.agg #[.int .i64 k, .int .u64 0, .string b]] w fun e w' => e = .returned (.tuple #[.string (⟨#[UInt8.ofNat k.toNat]⟩ ++ b), .bool true]) ∧ Below w.heap.size w w' := by
  have HS := fun x => run_string_one (w.alloc (.cells #[.int .i64 k, .int .u64 0, .string b] 24)) x
  simp only [size_alloc'] at HS
  have q1 : ¬ 9223372036854775807 < 1 + b.size := by omega
  rcases hk with rfl | rfl
  all_goals
    go_enter Try.func12, Try.ntmps12
    go_wp2_with fail
    go_ret2
    exact ⟨rfl, ((Below.refl _ _).alloc (Nat.le_refl _) _).alloc (by simp) _⟩

set_option maxHeartbeats 1000000 in
theorem refPrint_none (k : Int) (n : Nat) (b : ByteArray) (w : World) (h1 : ¬ (k = 3 ∧ 16 ≤ b.size)) (h2 : ¬ ((k = 1 ∨ k = 2) ∧ b.size = 48 ∧ n = 0)) :
    Calls Try.prog 12 #[.agg #[.int .i64 k, .int .u64 n, .string b]] w fun e w' => e = .returned (.tuple #[.string ⟨#[]⟩, .bool false]) ∧ Below w.heap.size w w' := by
  have key : (k = 3 ∧ b.size < 16) ∨ (¬ k = 3 ∧ ¬ k = 1 ∧ ¬ k = 2) ∨ (k = 1 ∧ ¬ b.size = 48) ∨ (k = 2 ∧ ¬ b.size = 48) ∨ (k = 1 ∧ b.size = 48 ∧ ¬ n = 0) ∨ (k = 2 ∧ b.size = 48 ∧ ¬ n = 0) := by omega
  clear h1 h2
  rcases key with ⟨rfl, h⟩ | ⟨h, h2, h3⟩ | ⟨rfl, h⟩ | ⟨rfl, h⟩ | ⟨rfl, h, h2⟩ | ⟨rfl, h, h2⟩
  all_goals
    go_enter Try.func12, Try.ntmps12
    go_wp2_with fail
    go_ret2
    exact ⟨rfl, (Below.refl _ _).alloc (Nat.le_refl _) _⟩

def Tun.RefPrintIs (k : Int) (n : Nat) (b t : ByteArray) (ok : Bool) : Prop := ∀ w, Calls Try.prog 12 #[Tun.gram k n b] w fun x w' => x = .returned (.tuple #[.string t, .bool ok]) ∧ Below w.heap.size w w'

theorem Tun.print_both (k : Int) (n : Nat) (b : ByteArray) (hn : n < 18446744073709551616) (hb : b.size ≤ 2000) :
    ∃ t, (Tun.PrintIs k n b t 0 ∧ Tun.RefPrintIs k n b t true) ∨ (Tun.PrintIs k n b t 3 ∧ Tun.RefPrintIs k n b t false) := by
  by_cases h1 : k = 3 ∧ 16 ≤ b.size
  · obtain ⟨rfl, h16⟩ := h1
    exact ⟨_, .inl ⟨fun w => print_sealed n b w hn h16 (by omega), fun w => refPrint_sealed n b w hn h16 (by omega)⟩⟩
  · by_cases h2 : (k = 1 ∨ k = 2) ∧ b.size = 48 ∧ n = 0
    · obtain ⟨hk, h48, rfl⟩ := h2
      exact ⟨_, .inl ⟨fun w => print_short k b w hk h48, fun w => refPrint_short k b w hk h48⟩⟩
    · exact ⟨_, .inr ⟨fun w => print_none k n b w h1 h2, fun w => refPrint_none k n b w h1 h2⟩⟩
end Go.Proofs.Ytmipdbmmhoacpaa
