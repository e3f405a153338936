/- bpdu.Print. By an AI agent. -/
import Derived.Test.YtdhiaidbpjjljaaBpduFlags
namespace Go.Proofs.Ytdhiaidbpjjljaa
open Go.RowKit Go.Sort Grow

namespace Bpdu
/-- a word's bytes -/
def text (r b : Nat → UInt8) (co po ag ma he de : Int) (ch ak : Bool) : List UInt8 :=
  [66, 66, 3, 0, 0, 0, 0] ++ ([fl ch ak] ++ ([r 0, r 1, r 2, r 3, r 4, r 5, r 6, r 7] ++ (Oct.four co ++ ([b 0, b 1, b 2, b 3, b 4, b 5, b 6, b 7] ++ (Oct.two po ++ (Oct.two ag ++ (Oct.two ma ++ (Oct.two he ++ Oct.two de))))))))
end Bpdu

theorem four_length (n : Int) : (Oct.four n).length ≤ 4 := by
  unfold Oct.four; split
  · rw [Oct.be_length]; omega
  · simp
theorem two_length (n : Int) : (Oct.two n).length ≤ 2 := by
  unfold Oct.two; split
  · rw [Oct.be_length]; omega
  · simp

set_option maxRecDepth 20000 in
set_option maxHeartbeats 4000000 in
theorem print_bad (r b : Nat → UInt8) (co po ag ma he de : Int) (ch ak : Bool) (w : World) (hbad : Bpdu.right co po ag ma he de = false) :
    Calls Try.prog 33 #[.agg #[.int .u8 ((r 0).toNat : Int), .int .u8 ((r 1).toNat : Int), .int .u8 ((r 2).toNat : Int), .int .u8 ((r 3).toNat : Int), .int .u8 ((r 4).toNat : Int), .int .u8 ((r 5).toNat : Int), .int .u8 ((r 6).toNat : Int), .int .u8 ((r 7).toNat : Int), .int .u8 ((b 0).toNat : Int), .int .u8 ((b 1).toNat : Int), .int .u8 ((b 2).toNat : Int), .int .u8 ((b 3).toNat : Int), .int .u8 ((b 4).toNat : Int), .int .u8 ((b 5).toNat : Int), .int .u8 ((b 6).toNat : Int), .int .u8 ((b 7).toNat : Int), .int .i64 co, .int .i64 po, .int .i64 ag, .int .i64 ma, .int .i64 he, .int .i64 de, .bool ch, .bool ak]] w fun e w' => e = .returned (.tuple #[.string ⟨#[]⟩, .int .i64 3]) ∧ Below w.heap.size w w' := by
  have W1 := fun w b hc => within_any 4294967295 [co] b 1 w hc (by simp)
  have W2 := fun w b hc => within_any 65535 [po, ag, ma, he, de] b 5 w hc (by simp)
  unfold Bpdu.right at hbad
  generalize Bpdu.inB 4294967295 [co] = c1 at W1 hbad
  generalize Bpdu.inB 65535 [po, ag, ma, he, de] = c2 at W2 hbad
  have W1 := Lib.hid W1
  have W2 := Lib.hid W2
  have key : c1 = false ∨ c1 = true ∧ c2 = false ∨ c1 = true ∧ c2 = true ∧ ma ≤ ag := by
    cases c1 <;> cases c2 <;> simp at hbad ⊢
    exact hbad
  clear hbad
  rcases key with rfl | ⟨rfl, rfl⟩ | ⟨rfl, rfl, hle⟩
  all_goals
    go_enter Try.func33, Try.ntmps33
    go_wp2_with fail
    refine (W1.out _ _ ?_).mono ?_
    · intro i hi
      obtain rfl : i = 0 := by simpa using hi
      go_simp
    rintro e w1 ⟨rfl, rfl⟩
    go_wp2_with fail
    try
      refine (W2.out _ _ ?_).mono ?_
      · intro i hi
        have hi : i < 5 := hi
        rcases (show i = 0 ∨ i = 1 ∨ i = 2 ∨ i = 3 ∨ i = 4 from by omega) with rfl | rfl | rfl | rfl | rfl <;> go_simp
      rintro e w1 ⟨rfl, rfl⟩
      go_wp2_with fail
    go_ret2
    first
      | exact ⟨rfl, ((Below.refl _ _).alloc (Nat.le_refl _) _).alloc (by simp) _⟩
      | exact ⟨rfl, (((Below.refl _ _).alloc (Nat.le_refl _) _).alloc (by simp) _).alloc (by simp; omega) _⟩

set_option maxRecDepth 20000 in
set_option maxHeartbeats 4000000 in
theorem print_good (r b : Nat → UInt8) (co po ag ma he de : Int) (ch ak : Bool) (w : World) (hgood : Bpdu.right co po ag ma he de = true) :
    Calls Try.prog 33 #[.agg #[.int .u8 ((r 0).toNat : Int), .int .u8 ((r 1).toNat : Int), .int .u8 ((r 2).toNat : Int), .int .u8 ((r 3).toNat : Int), .int .u8 ((r 4).toNat : Int), .int .u8 ((r 5).toNat : Int), .int .u8 ((r 6).toNat : Int), .int .u8 ((r 7).toNat : Int), .int .u8 ((b 0).toNat : Int), .int .u8 ((b 1).toNat : Int), .int .u8 ((b 2).toNat : Int), .int .u8 ((b 3).toNat : Int), .int .u8 ((b 4).toNat : Int), .int .u8 ((b 5).toNat : Int), .int .u8 ((b 6).toNat : Int), .int .u8 ((b 7).toNat : Int), .int .i64 co, .int .i64 po, .int .i64 ag, .int .i64 ma, .int .i64 he, .int .i64 de, .bool ch, .bool ak]] w fun e w' => e = .returned (.tuple #[.string ⟨(Bpdu.text r b co po ag ma he de ch ak).toArray⟩, .int .i64 0]) ∧ Below w.heap.size w w' := by
  have W1 := fun w b hc => within_any 4294967295 [co] b 1 w hc (by simp)
  have W2 := fun w b hc => within_any 65535 [po, ag, ma, he, de] b 5 w hc (by simp)
  unfold Bpdu.right at hgood
  simp only [Bool.and_eq_true, decide_eq_true_eq] at hgood
  obtain ⟨⟨g1, g2⟩, g3⟩ := hgood
  rw [g1] at W1
  rw [g2] at W2
  clear g1 g2
  have W1 := Lib.hid W1
  have W2 := Lib.hid W2
  have l1 := four_length co
  have l2 := two_length po
  have l3 := two_length ag
  have l4 := two_length ma
  have l5 := two_length he
  have l6 := two_length de
  go_enter Try.func33, Try.ntmps33
  go_wp2_with fail
  refine (W1.out _ _ ?_).mono ?_
  · intro i hi
    obtain rfl : i = 0 := by simpa using hi
    go_simp
  rintro e w1 ⟨rfl, rfl⟩
  go_wp2_with fail
  refine (W2.out _ _ ?_).mono ?_
  · intro i hi
    have hi : i < 5 := hi
    rcases (show i = 0 ∨ i = 1 ∨ i = 2 ∨ i = 3 ∨ i = 4 from by omega) with rfl | rfl | rfl | rfl | rfl <;> go_simp
  rintro e w1 ⟨rfl, rfl⟩
  go_wp2_with fail
  generalize hW : ((w.alloc _).alloc _).alloc _ = W
  have hbW : Below w.heap.size w W := by rw [← hW]; exact (((Below.refl _ _).alloc (Nat.le_refl _) _).alloc (by simp) _).alloc (by simp; omega) _
  have r1 : RowIs W w.heap.size 45 #[.int .u8 ((r 0).toNat : Int), .int .u8 ((r 1).toNat : Int), .int .u8 ((r 2).toNat : Int), .int .u8 ((r 3).toNat : Int), .int .u8 ((r 4).toNat : Int), .int .u8 ((r 5).toNat : Int), .int .u8 ((r 6).toNat : Int), .int .u8 ((r 7).toNat : Int), .int .u8 ((b 0).toNat : Int), .int .u8 ((b 1).toNat : Int), .int .u8 ((b 2).toNat : Int), .int .u8 ((b 3).toNat : Int), .int .u8 ((b 4).toNat : Int), .int .u8 ((b 5).toNat : Int), .int .u8 ((b 6).toNat : Int), .int .u8 ((b 7).toNat : Int), .int .i64 co, .int .i64 po, .int .i64 ag, .int .i64 ma, .int .i64 he, .int .i64 de, .bool ch, .bool ak] := by rw [← hW]; exact ((rowIs_new w _ _).alloc _).alloc _
  clear hW
  have R1 := Lib.hid r1
  have sR := fun (p : Regrown) => run_string_at Try.underlying92 Try.underlying5 Try.underlying9 (grow (redrawn W p.d) p.os) [r 0, r 1, r 2, r 3, r 4, r 5, r 6, r 7] 8 w.heap.size 0 8 rfl (fun i hi => cell_regrown (by
    rw [R1.out.cell]
    rcases (show i = 0 ∨ i = 1 ∨ i = 2 ∨ i = 3 ∨ i = 4 ∨ i = 5 ∨ i = 6 ∨ i = 7 from by simp at hi; omega) with rfl | rfl | rfl | rfl | rfl | rfl | rfl | rfl <;> rfl) p.d p.os)
  have sB := fun (p : Regrown) => run_string_at Try.underlying92 Try.underlying5 Try.underlying9 (grow (redrawn W p.d) p.os) [b 0, b 1, b 2, b 3, b 4, b 5, b 6, b 7] 8 w.heap.size 8 8 rfl (fun i hi => cell_regrown (by
    rw [R1.out.cell]
    rcases (show i = 0 ∨ i = 1 ∨ i = 2 ∨ i = 3 ∨ i = 4 ∨ i = 5 ∨ i = 6 ∨ i = 7 from by simp at hi; omega) with rfl | rfl | rfl | rfl | rfl | rfl | rfl | rfl <;> rfl) p.d p.os)
  clear r1
  have k16 := cell_regrown (show W.cell? ⟨w.heap.size, 16, none⟩ = some (.int .i64 co) from R1.out.cell 16)
  have k17 := cell_regrown (show W.cell? ⟨w.heap.size, 17, none⟩ = some (.int .i64 po) from R1.out.cell 17)
  have k18 := cell_regrown (show W.cell? ⟨w.heap.size, 18, none⟩ = some (.int .i64 ag) from R1.out.cell 18)
  have k19 := cell_regrown (show W.cell? ⟨w.heap.size, 19, none⟩ = some (.int .i64 ma) from R1.out.cell 19)
  have k20 := cell_regrown (show W.cell? ⟨w.heap.size, 20, none⟩ = some (.int .i64 he) from R1.out.cell 20)
  have k21 := cell_regrown (show W.cell? ⟨w.heap.size, 21, none⟩ = some (.int .i64 de) from R1.out.cell 21)
  have k22 := cell_regrown (show W.cell? ⟨w.heap.size, 22, none⟩ = some (.bool ch) from R1.out.cell 22)
  have k23 := cell_regrown (show W.cell? ⟨w.heap.size, 23, none⟩ = some (.bool ak) from R1.out.cell 23)
  refine wp_region_mix 39 (by kernel_rfl) (by kernel_rfl) (by kernel_rfl) ?_
  refine mix_exact (.agg #[.int .u8 ((r 0).toNat : Int), .int .u8 ((r 1).toNat : Int), .int .u8 ((r 2).toNat : Int), .int .u8 ((r 3).toNat : Int), .int .u8 ((r 4).toNat : Int), .int .u8 ((r 5).toNat : Int), .int .u8 ((r 6).toNat : Int), .int .u8 ((r 7).toNat : Int), .int .u8 ((b 0).toNat : Int), .int .u8 ((b 1).toNat : Int), .int .u8 ((b 2).toNat : Int), .int .u8 ((b 3).toNat : Int), .int .u8 ((b 4).toNat : Int), .int .u8 ((b 5).toNat : Int), .int .u8 ((b 6).toNat : Int), .int .u8 ((b 7).toNat : Int), .int .i64 co, .int .i64 po, .int .i64 ag, .int .i64 ma, .int .i64 he, .int .i64 de, .bool ch, .bool ak]) rfl (exact_load_row rfl rfl (by simp) R1.out Try.underlying45 rfl info_word) ?_
  repeat (refine mix_step (by kernel_rfl) (by kernel_rfl) (fun K hK => ?_); go_simp; (try (simp only [↓IntWalk.iteOmega]; go_simp)); (first | (refine hK _ ?_; clear hK K) | (apply Exists.intro; refine ⟨fun _ => ?_, hK _ ?_⟩; (first | exact two_any _ _ | exact four_any _ _ | exact flags_any r b co po ag ma he de ch ak _); clear hK K)))
  refine mix_special _ 33 rfl rfl (stable_row _ _ _ _) (owes_buildSlice (cells := #[.int .u8 ((Bpdu.fl ch ak).toNat : Int)]) rfl (by simp) Try.underlying92 (sz := 1) (z := .int .u8 0) (by kernel_rfl) (by decide) (by decide) (by kernel_rfl)) ?_
  refine mix_exact (.string ⟨#[Bpdu.fl ch ak]⟩) rfl (exact_string (B := W.heap.size) (t := 5) (l := [Bpdu.fl ch ak]) rfl (by simp [byteVals]) Try.underlying92 Try.underlying5 Try.underlying9) ?_
  repeat (refine mix_step (by kernel_rfl) (by kernel_rfl) (fun K hK => ?_); go_simp; (try (simp only [↓IntWalk.iteOmega]; go_simp)); (first | (refine hK _ ?_; clear hK K) | (apply Exists.intro; refine ⟨fun _ => ?_, hK _ ?_⟩; (first | exact two_any _ _ | exact four_any _ _ | exact flags_any r b co po ag ma he de ch ak _); clear hK K)))
  refine mix_nil ?_
  rintro ⟨dq, osq⟩ u33 -
  have hb1 := below_regrown W dq osq
  have hbW := hbW.trans (hb1.mono hbW.size)
  generalize grow (redrawn W dq) osq = W9 at *
  refine (show wpList _ _ _ _ _ _ from ?_)
  simp only [List.drop, Act.put, List.setIfInBounds_toArray, List.set]
  go_wp2_with fail
  go_ret2
  refine ⟨?_, hbW⟩
  refine congrArg (fun x : ByteArray => Ending.returned (Value.tuple #[Value.string x, Value.int .i64 0])) (ByteArray.ext ?_)
  simp [Bpdu.text, ByteArray.data_append]
end Go.Proofs.Ytdhiaidbpjjljaa
