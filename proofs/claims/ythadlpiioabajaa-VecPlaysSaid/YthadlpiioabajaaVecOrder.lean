/- The walk of VecOrder. By an AI agent. -/
import Derived.Test.YthadlpiioabajaaVec
import Derived.Test.YthadlpiioabajaaVecCosts
namespace Go.Proofs.Ythadlpiioabajaa
open Go.RowKit Go.Sort Grow

/-- are two vectors the same? -/
def Vec.eqV (r : List UInt8) (c : Int) (b : List UInt8) (p : Int) (r' : List UInt8) (c' : Int) (b' : List UInt8) (p' : Int) : Bool := eqB r r' && (c == c' && (eqB b b' && p == p'))
theorem Vec.eqV_iff (r : List UInt8) (c : Int) (b : List UInt8) (p : Int) (r' : List UInt8) (c' : Int) (b' : List UInt8) (p' : Int) : Vec.eqV r c b p r' c' b' p' = true ↔ r = r' ∧ c = c' ∧ b = b' ∧ p = p' := by
  simp [Vec.eqV, eqB]

theorem Vec.order (r0 : List UInt8) (c0 : Int) (b0 : List UInt8) (p0 : Int) (r1 : List UInt8) (c1 : Int) (b1 : List UInt8) (p1 : Int) (r2 : List UInt8) (c2 : Int) (b2 : List UInt8) (p2 : Int) :
    (better r0 c0 b0 p0 r1 c1 b1 p1 = true ∧ better r1 c1 b1 p1 r0 c0 b0 p0 = false ∧ eqV r0 c0 b0 p0 r1 c1 b1 p1 = false ∧ better r1 c1 b1 p1 r2 c2 b2 p2 = false) ∨
    (better r0 c0 b0 p0 r1 c1 b1 p1 = true ∧ better r1 c1 b1 p1 r0 c0 b0 p0 = false ∧ eqV r0 c0 b0 p0 r1 c1 b1 p1 = false ∧ better r1 c1 b1 p1 r2 c2 b2 p2 = true ∧ better r0 c0 b0 p0 r2 c2 b2 p2 = true) ∨
    (better r0 c0 b0 p0 r1 c1 b1 p1 = false ∧ better r1 c1 b1 p1 r0 c0 b0 p0 = true ∧ eqV r0 c0 b0 p0 r1 c1 b1 p1 = false) ∨
    (better r0 c0 b0 p0 r1 c1 b1 p1 = false ∧ better r1 c1 b1 p1 r0 c0 b0 p0 = false ∧ eqV r0 c0 b0 p0 r1 c1 b1 p1 = true) := by
  have ne1 : better r0 c0 b0 p0 r1 c1 b1 p1 = true → eqV r0 c0 b0 p0 r1 c1 b1 p1 = false := by
    intro h
    cases he : eqV r0 c0 b0 p0 r1 c1 b1 p1
    · rfl
    · obtain ⟨rfl, rfl, rfl, rfl⟩ := (eqV_iff ..).1 he
      rw [better_irrefl] at h
      cases h
  have ne2 : better r1 c1 b1 p1 r0 c0 b0 p0 = true → eqV r0 c0 b0 p0 r1 c1 b1 p1 = false := by
    intro h
    cases he : eqV r0 c0 b0 p0 r1 c1 b1 p1
    · rfl
    · obtain ⟨rfl, rfl, rfl, rfl⟩ := (eqV_iff ..).1 he
      rw [better_irrefl] at h
      cases h
  cases h : better r0 c0 b0 p0 r1 c1 b1 p1
  · cases h2 : better r1 c1 b1 p1 r0 c0 b0 p0
    · exact .inr (.inr (.inr ⟨rfl, rfl, (eqV_iff ..).2 (better_total _ _ _ _ _ _ _ _ h h2)⟩))
    · exact .inr (.inr (.inl ⟨rfl, rfl, ne2 h2⟩))
  · cases h2 : better r1 c1 b1 p1 r2 c2 b2 p2
    · exact .inl ⟨rfl, better_asymm h, ne1 h, rfl⟩
    · exact .inr (.inl ⟨rfl, better_asymm h, ne1 h, rfl, better_trans h h2⟩)

set_option maxHeartbeats 2000000 in
set_option maxRecDepth 20000 in
theorem vecOrder_walk (r0 b0 : Nat → UInt8) (c0 p0 : Int) (r1 b1 : Nat → UInt8) (c1 p1 : Int) (r2 b2 : Nat → UInt8) (c2 p2 : Int) (w : World)
    (_ : -9223372036854775808 ≤ c0 ∧ c0 ≤ 9223372036854775807) (_ : -9223372036854775808 ≤ p0 ∧ p0 ≤ 9223372036854775807) (_ : -9223372036854775808 ≤ c1 ∧ c1 ≤ 9223372036854775807) (_ : -9223372036854775808 ≤ p1 ∧ p1 ≤ 9223372036854775807)
    (_ : -9223372036854775808 ≤ c2 ∧ c2 ≤ 9223372036854775807) (_ : -9223372036854775808 ≤ p2 ∧ p2 ≤ 9223372036854775807) :
    Calls Try.prog 5 #[.agg #[.int .u8 ((r0 0).toNat : Int), .int .u8 ((r0 1).toNat : Int), .int .u8 ((r0 2).toNat : Int), .int .u8 ((r0 3).toNat : Int), .int .u8 ((r0 4).toNat : Int), .int .u8 ((r0 5).toNat : Int), .int .u8 ((r0 6).toNat : Int), .int .u8 ((r0 7).toNat : Int), .int .i64 c0, .int .u8 ((b0 0).toNat : Int), .int .u8 ((b0 1).toNat : Int), .int .u8 ((b0 2).toNat : Int), .int .u8 ((b0 3).toNat : Int), .int .u8 ((b0 4).toNat : Int), .int .u8 ((b0 5).toNat : Int), .int .u8 ((b0 6).toNat : Int), .int .u8 ((b0 7).toNat : Int), .int .i64 p0], .agg #[.int .u8 ((r1 0).toNat : Int), .int .u8 ((r1 1).toNat : Int), .int .u8 ((r1 2).toNat : Int), .int .u8 ((r1 3).toNat : Int), .int .u8 ((r1 4).toNat : Int), .int .u8 ((r1 5).toNat : Int), .int .u8 ((r1 6).toNat : Int), .int .u8 ((r1 7).toNat : Int), .int .i64 c1, .int .u8 ((b1 0).toNat : Int), .int .u8 ((b1 1).toNat : Int), .int .u8 ((b1 2).toNat : Int), .int .u8 ((b1 3).toNat : Int), .int .u8 ((b1 4).toNat : Int), .int .u8 ((b1 5).toNat : Int), .int .u8 ((b1 6).toNat : Int), .int .u8 ((b1 7).toNat : Int), .int .i64 p1], .agg #[.int .u8 ((r2 0).toNat : Int), .int .u8 ((r2 1).toNat : Int), .int .u8 ((r2 2).toNat : Int), .int .u8 ((r2 3).toNat : Int), .int .u8 ((r2 4).toNat : Int), .int .u8 ((r2 5).toNat : Int), .int .u8 ((r2 6).toNat : Int), .int .u8 ((r2 7).toNat : Int), .int .i64 c2, .int .u8 ((b2 0).toNat : Int), .int .u8 ((b2 1).toNat : Int), .int .u8 ((b2 2).toNat : Int), .int .u8 ((b2 3).toNat : Int), .int .u8 ((b2 4).toNat : Int), .int .u8 ((b2 5).toNat : Int), .int .u8 ((b2 6).toNat : Int), .int .u8 ((b2 7).toNat : Int), .int .i64 p2]] w fun e w' => e = .returned (.bool true) ∧ Below w.heap.size w w' := by
  have O := Vec.order [r0 0, r0 1, r0 2, r0 3, r0 4, r0 5, r0 6, r0 7] c0 [b0 0, b0 1, b0 2, b0 3, b0 4, b0 5, b0 6, b0 7] p0 [r1 0, r1 1, r1 2, r1 3, r1 4, r1 5, r1 6, r1 7] c1 [b1 0, b1 1, b1 2, b1 3, b1 4, b1 5, b1 6, b1 7] p1 [r2 0, r2 1, r2 2, r2 3, r2 4, r2 5, r2 6, r2 7] c2 [b2 0, b2 1, b2 2, b2 3, b2 4, b2 5, b2 6, b2 7] p2
  have I := Vec.better_irrefl [r0 0, r0 1, r0 2, r0 3, r0 4, r0 5, r0 6, r0 7] c0 [b0 0, b0 1, b0 2, b0 3, b0 4, b0 5, b0 6, b0 7] p0
  have C00 := fun w => better_any r0 b0 r0 b0 c0 p0 c0 p0 w
  have C01 := fun w => better_any r0 b0 r1 b1 c0 p0 c1 p1 w
  have C10 := fun w => better_any r1 b1 r0 b0 c1 p1 c0 p0 w
  have C12 := fun w => better_any r1 b1 r2 b2 c1 p1 c2 p2 w
  have C02 := fun w => better_any r0 b0 r2 b2 c0 p0 c2 p2 w
  have E01 := fun w => run_equalIn_vec 9997 r0 b0 r1 b1 c0 p0 c1 p1 w
  rw [I] at C00
  clear I
  change ∀ w, (Op.equalIn _ _ _ _).run _ w = .ok (Vec.eqV [r0 0, r0 1, r0 2, r0 3, r0 4, r0 5, r0 6, r0 7] c0 [b0 0, b0 1, b0 2, b0 3, b0 4, b0 5, b0 6, b0 7] p0 [r1 0, r1 1, r1 2, r1 3, r1 4, r1 5, r1 6, r1 7] c1 [b1 0, b1 1, b1 2, b1 3, b1 4, b1 5, b1 6, b1 7] p1) w at E01
  generalize Vec.eqV [r0 0, r0 1, r0 2, r0 3, r0 4, r0 5, r0 6, r0 7] c0 [b0 0, b0 1, b0 2, b0 3, b0 4, b0 5, b0 6, b0 7] p0 [r1 0, r1 1, r1 2, r1 3, r1 4, r1 5, r1 6, r1 7] c1 [b1 0, b1 1, b1 2, b1 3, b1 4, b1 5, b1 6, b1 7] p1 = e at O E01
  generalize Vec.better [r0 0, r0 1, r0 2, r0 3, r0 4, r0 5, r0 6, r0 7] c0 [b0 0, b0 1, b0 2, b0 3, b0 4, b0 5, b0 6, b0 7] p0 [r1 0, r1 1, r1 2, r1 3, r1 4, r1 5, r1 6, r1 7] c1 [b1 0, b1 1, b1 2, b1 3, b1 4, b1 5, b1 6, b1 7] p1 = t01 at O C01
  generalize Vec.better [r1 0, r1 1, r1 2, r1 3, r1 4, r1 5, r1 6, r1 7] c1 [b1 0, b1 1, b1 2, b1 3, b1 4, b1 5, b1 6, b1 7] p1 [r0 0, r0 1, r0 2, r0 3, r0 4, r0 5, r0 6, r0 7] c0 [b0 0, b0 1, b0 2, b0 3, b0 4, b0 5, b0 6, b0 7] p0 = t10 at O C10
  generalize Vec.better [r1 0, r1 1, r1 2, r1 3, r1 4, r1 5, r1 6, r1 7] c1 [b1 0, b1 1, b1 2, b1 3, b1 4, b1 5, b1 6, b1 7] p1 [r2 0, r2 1, r2 2, r2 3, r2 4, r2 5, r2 6, r2 7] c2 [b2 0, b2 1, b2 2, b2 3, b2 4, b2 5, b2 6, b2 7] p2 = t12 at O C12
  generalize Vec.better [r0 0, r0 1, r0 2, r0 3, r0 4, r0 5, r0 6, r0 7] c0 [b0 0, b0 1, b0 2, b0 3, b0 4, b0 5, b0 6, b0 7] p0 [r2 0, r2 1, r2 2, r2 3, r2 4, r2 5, r2 6, r2 7] c2 [b2 0, b2 1, b2 2, b2 3, b2 4, b2 5, b2 6, b2 7] p2 = t02 at O C02
  have C00 := Lib.hid C00
  have C01 := Lib.hid C01
  have C10 := Lib.hid C10
  have C12 := Lib.hid C12
  have C02 := Lib.hid C02
  have E01 := Lib.hid E01
  have O := Lib.hid O
  go_enter Try.func5, Try.ntmps5
  go_upto_region 1 with fail
  generalize hW : World.alloc _ _ = W
  have hbW : Below w.heap.size w W := by rw [← hW]; exact (((Below.refl _ _).alloc (Nat.le_refl _) _).alloc (by simp) _).alloc (by simp; omega) _
  have Q0 : Hid (RowIs W w.heap.size 29 #[.int .u8 ((r0 0).toNat : Int), .int .u8 ((r0 1).toNat : Int), .int .u8 ((r0 2).toNat : Int), .int .u8 ((r0 3).toNat : Int), .int .u8 ((r0 4).toNat : Int), .int .u8 ((r0 5).toNat : Int), .int .u8 ((r0 6).toNat : Int), .int .u8 ((r0 7).toNat : Int), .int .i64 c0, .int .u8 ((b0 0).toNat : Int), .int .u8 ((b0 1).toNat : Int), .int .u8 ((b0 2).toNat : Int), .int .u8 ((b0 3).toNat : Int), .int .u8 ((b0 4).toNat : Int), .int .u8 ((b0 5).toNat : Int), .int .u8 ((b0 6).toNat : Int), .int .u8 ((b0 7).toNat : Int), .int .i64 p0]) := by subst hW; exact ((rowIs_new w _ _).alloc _).alloc _
  have Q1 : Hid (RowIs W (w.heap.size + 1) 29 #[.int .u8 ((r1 0).toNat : Int), .int .u8 ((r1 1).toNat : Int), .int .u8 ((r1 2).toNat : Int), .int .u8 ((r1 3).toNat : Int), .int .u8 ((r1 4).toNat : Int), .int .u8 ((r1 5).toNat : Int), .int .u8 ((r1 6).toNat : Int), .int .u8 ((r1 7).toNat : Int), .int .i64 c1, .int .u8 ((b1 0).toNat : Int), .int .u8 ((b1 1).toNat : Int), .int .u8 ((b1 2).toNat : Int), .int .u8 ((b1 3).toNat : Int), .int .u8 ((b1 4).toNat : Int), .int .u8 ((b1 5).toNat : Int), .int .u8 ((b1 6).toNat : Int), .int .u8 ((b1 7).toNat : Int), .int .i64 p1]) := by subst hW; exact (rowIs_new1 w _ _ _).alloc _
  have Q2 : Hid (RowIs W (w.heap.size + 2) 29 #[.int .u8 ((r2 0).toNat : Int), .int .u8 ((r2 1).toNat : Int), .int .u8 ((r2 2).toNat : Int), .int .u8 ((r2 3).toNat : Int), .int .u8 ((r2 4).toNat : Int), .int .u8 ((r2 5).toNat : Int), .int .u8 ((r2 6).toNat : Int), .int .u8 ((r2 7).toNat : Int), .int .i64 c2, .int .u8 ((b2 0).toNat : Int), .int .u8 ((b2 1).toNat : Int), .int .u8 ((b2 2).toNat : Int), .int .u8 ((b2 3).toNat : Int), .int .u8 ((b2 4).toNat : Int), .int .u8 ((b2 5).toNat : Int), .int .u8 ((b2 6).toNat : Int), .int .u8 ((b2 7).toNat : Int), .int .i64 p2]) := by subst hW; exact rowIs_new2 w _ _ _ _
  clear hW
  refine wp_region_mixA bel_ok 9 (by kernel_rfl) (by kernel_rfl) (by kernel_rfl) ?_
  refine mix_exact (.agg #[.int .u8 ((r0 0).toNat : Int), .int .u8 ((r0 1).toNat : Int), .int .u8 ((r0 2).toNat : Int), .int .u8 ((r0 3).toNat : Int), .int .u8 ((r0 4).toNat : Int), .int .u8 ((r0 5).toNat : Int), .int .u8 ((r0 6).toNat : Int), .int .u8 ((r0 7).toNat : Int), .int .i64 c0, .int .u8 ((b0 0).toNat : Int), .int .u8 ((b0 1).toNat : Int), .int .u8 ((b0 2).toNat : Int), .int .u8 ((b0 3).toNat : Int), .int .u8 ((b0 4).toNat : Int), .int .u8 ((b0 5).toNat : Int), .int .u8 ((b0 6).toNat : Int), .int .u8 ((b0 7).toNat : Int), .int .i64 p0]) rfl (exact_load_row rfl rfl (by simp) Q0.out Try.underlying29 rfl (by kernel_rfl)) ?_
  (refine mix_step (by kernel_rfl) (by kernel_rfl) (fun K hK => ?_); go_simp; (first | (refine hK _ ?_; clear hK K) | (apply Exists.intro; refine ⟨fun _ => ?_, hK _ ?_⟩; (exact vof_any _ _ _ _ _); clear hK K)))
  refine mix_exact (.agg #[.int .u8 ((r1 0).toNat : Int), .int .u8 ((r1 1).toNat : Int), .int .u8 ((r1 2).toNat : Int), .int .u8 ((r1 3).toNat : Int), .int .u8 ((r1 4).toNat : Int), .int .u8 ((r1 5).toNat : Int), .int .u8 ((r1 6).toNat : Int), .int .u8 ((r1 7).toNat : Int), .int .i64 c1, .int .u8 ((b1 0).toNat : Int), .int .u8 ((b1 1).toNat : Int), .int .u8 ((b1 2).toNat : Int), .int .u8 ((b1 3).toNat : Int), .int .u8 ((b1 4).toNat : Int), .int .u8 ((b1 5).toNat : Int), .int .u8 ((b1 6).toNat : Int), .int .u8 ((b1 7).toNat : Int), .int .i64 p1]) rfl (exact_load_row rfl rfl (by simp) Q1.out Try.underlying29 rfl (by kernel_rfl)) ?_
  (refine mix_step (by kernel_rfl) (by kernel_rfl) (fun K hK => ?_); go_simp; (first | (refine hK _ ?_; clear hK K) | (apply Exists.intro; refine ⟨fun _ => ?_, hK _ ?_⟩; (exact vof_any _ _ _ _ _); clear hK K)))
  refine mix_exact (.agg #[.int .u8 ((r2 0).toNat : Int), .int .u8 ((r2 1).toNat : Int), .int .u8 ((r2 2).toNat : Int), .int .u8 ((r2 3).toNat : Int), .int .u8 ((r2 4).toNat : Int), .int .u8 ((r2 5).toNat : Int), .int .u8 ((r2 6).toNat : Int), .int .u8 ((r2 7).toNat : Int), .int .i64 c2, .int .u8 ((b2 0).toNat : Int), .int .u8 ((b2 1).toNat : Int), .int .u8 ((b2 2).toNat : Int), .int .u8 ((b2 3).toNat : Int), .int .u8 ((b2 4).toNat : Int), .int .u8 ((b2 5).toNat : Int), .int .u8 ((b2 6).toNat : Int), .int .u8 ((b2 7).toNat : Int), .int .i64 p2]) rfl (exact_load_row rfl rfl (by simp) Q2.out Try.underlying29 rfl (by kernel_rfl)) ?_
  (refine mix_step (by kernel_rfl) (by kernel_rfl) (fun K hK => ?_); go_simp; (first | (refine hK _ ?_; clear hK K) | (apply Exists.intro; refine ⟨fun _ => ?_, hK _ ?_⟩; (exact vof_any _ _ _ _ _); clear hK K)))
  refine mix_special _ 7 rfl rfl (stable_new _ _ _) (owes_alloc (cs := #[.int .u8 0, .int .u8 0, .int .u8 0, .int .u8 0, .int .u8 0, .int .u8 0, .int .u8 0, .int .u8 0, .int .i64 0, .int .u8 0, .int .u8 0, .int .u8 0, .int .u8 0, .int .u8 0, .int .u8 0, .int .u8 0, .int .u8 0, .int .i64 0]) rfl (by kernel_rfl)) ?_
  refine mix_special _ 8 rfl rfl (stable_new _ _ _) (owes_alloc (cs := #[.int .u8 0, .int .u8 0, .int .u8 0, .int .u8 0, .int .u8 0, .int .u8 0, .int .u8 0, .int .u8 0, .int .i64 0, .int .u8 0, .int .u8 0, .int .u8 0, .int .u8 0, .int .u8 0, .int .u8 0, .int .u8 0, .int .u8 0, .int .i64 0]) rfl (by kernel_rfl)) ?_
  refine mix_special _ 9 rfl rfl (stable_new _ _ _) (owes_alloc (cs := #[.int .u8 0, .int .u8 0, .int .u8 0, .int .u8 0, .int .u8 0, .int .u8 0, .int .u8 0, .int .u8 0, .int .i64 0, .int .u8 0, .int .u8 0, .int .u8 0, .int .u8 0, .int .u8 0, .int .u8 0, .int .u8 0, .int .u8 0, .int .i64 0]) rfl (by kernel_rfl)) ?_
  refine mix_nil ?_
  rintro ⟨dq, osq⟩ u7 ⟨g7, rfl, hg7, r7⟩ u8 ⟨g8, rfl, hg8, r8⟩ u9 ⟨g9, rfl, hg9, r9⟩ hap
  have n78 : g7 ≠ g8 := by
    have h := hap 6 7 7 8 (by decide) (by decide) (by decide) rfl rfl rfl rfl
    intro e; subst e; exact h rfl
  have n79 : g7 ≠ g9 := by
    have h := hap 6 8 7 9 (by decide) (by decide) (by decide) rfl rfl rfl rfl
    intro e; subst e; exact h rfl
  have n89 : g8 ≠ g9 := by
    have h := hap 7 8 8 9 (by decide) (by decide) (by decide) rfl rfl rfl rfl
    intro e; subst e; exact h rfl
  clear hap
  have hb1 := below_regrown W dq osq
  have hlt := Q2.out.lt
  have Q0 := Q0.out.kept hb1
  have Q1 := Q1.out.kept hb1
  clear Q2
  have hbW := hbW.trans (hb1.mono hbW.size)
  clear hb1
  generalize grow (redrawn W dq) osq = W9 at *
  refine (show wpList _ _ _ _ _ _ from ?_)
  simp only [List.drop, Act.put, List.setIfInBounds_toArray, List.set]
  refine at_store 32 (.tmp 7) (.tmp 11) ?_
  refine wpList_store_own rfl _ _ _ rfl g7 _ rfl rfl _ _ r7 (by kernel_rfl) rfl (by kernel_rfl) w.heap.size (by omega) ?_
  intro wa r7 hka _ hb
  have r8 : RowIs wa g8 32 #[.int .u8 0, .int .u8 0, .int .u8 0, .int .u8 0, .int .u8 0, .int .u8 0, .int .u8 0, .int .u8 0, .int .i64 0, .int .u8 0, .int .u8 0, .int .u8 0, .int .u8 0, .int .u8 0, .int .u8 0, .int .u8 0, .int .u8 0, .int .i64 0] := (hka g8 (by omega)).trans r8
  have r9 : RowIs wa g9 32 #[.int .u8 0, .int .u8 0, .int .u8 0, .int .u8 0, .int .u8 0, .int .u8 0, .int .u8 0, .int .u8 0, .int .i64 0, .int .u8 0, .int .u8 0, .int .u8 0, .int .u8 0, .int .u8 0, .int .u8 0, .int .u8 0, .int .u8 0, .int .i64 0] := (hka g9 (by omega)).trans r9
  have Q0 : RowIs wa w.heap.size 29 #[.int .u8 ((r0 0).toNat : Int), .int .u8 ((r0 1).toNat : Int), .int .u8 ((r0 2).toNat : Int), .int .u8 ((r0 3).toNat : Int), .int .u8 ((r0 4).toNat : Int), .int .u8 ((r0 5).toNat : Int), .int .u8 ((r0 6).toNat : Int), .int .u8 ((r0 7).toNat : Int), .int .i64 c0, .int .u8 ((b0 0).toNat : Int), .int .u8 ((b0 1).toNat : Int), .int .u8 ((b0 2).toNat : Int), .int .u8 ((b0 3).toNat : Int), .int .u8 ((b0 4).toNat : Int), .int .u8 ((b0 5).toNat : Int), .int .u8 ((b0 6).toNat : Int), .int .u8 ((b0 7).toNat : Int), .int .i64 p0] := (hka _ (by omega)).trans Q0
  have Q1 : RowIs wa (w.heap.size + 1) 29 #[.int .u8 ((r1 0).toNat : Int), .int .u8 ((r1 1).toNat : Int), .int .u8 ((r1 2).toNat : Int), .int .u8 ((r1 3).toNat : Int), .int .u8 ((r1 4).toNat : Int), .int .u8 ((r1 5).toNat : Int), .int .u8 ((r1 6).toNat : Int), .int .u8 ((r1 7).toNat : Int), .int .i64 c1, .int .u8 ((b1 0).toNat : Int), .int .u8 ((b1 1).toNat : Int), .int .u8 ((b1 2).toNat : Int), .int .u8 ((b1 3).toNat : Int), .int .u8 ((b1 4).toNat : Int), .int .u8 ((b1 5).toNat : Int), .int .u8 ((b1 6).toNat : Int), .int .u8 ((b1 7).toNat : Int), .int .i64 p1] := (hka _ (by omega)).trans Q1
  have hbW := hbW.trans hb
  clear hb hka

  simp only [Act.put, List.setIfInBounds_toArray, List.set]
  refine at_store 32 (.tmp 8) (.tmp 13) ?_
  refine wpList_store_own rfl _ _ _ rfl g8 _ rfl rfl _ _ r8 (by kernel_rfl) rfl (by kernel_rfl) w.heap.size (by omega) ?_
  intro wb r8 hka _ hb
  have r7 : RowIs wb g7 32 #[.int .u8 ((r0 0).toNat : Int), .int .u8 ((r0 1).toNat : Int), .int .u8 ((r0 2).toNat : Int), .int .u8 ((r0 3).toNat : Int), .int .u8 ((r0 4).toNat : Int), .int .u8 ((r0 5).toNat : Int), .int .u8 ((r0 6).toNat : Int), .int .u8 ((r0 7).toNat : Int), .int .i64 c0, .int .u8 ((b0 0).toNat : Int), .int .u8 ((b0 1).toNat : Int), .int .u8 ((b0 2).toNat : Int), .int .u8 ((b0 3).toNat : Int), .int .u8 ((b0 4).toNat : Int), .int .u8 ((b0 5).toNat : Int), .int .u8 ((b0 6).toNat : Int), .int .u8 ((b0 7).toNat : Int), .int .i64 p0] := (hka g7 (by omega)).trans r7
  have r9 : RowIs wb g9 32 #[.int .u8 0, .int .u8 0, .int .u8 0, .int .u8 0, .int .u8 0, .int .u8 0, .int .u8 0, .int .u8 0, .int .i64 0, .int .u8 0, .int .u8 0, .int .u8 0, .int .u8 0, .int .u8 0, .int .u8 0, .int .u8 0, .int .u8 0, .int .i64 0] := (hka g9 (by omega)).trans r9
  have Q0 : RowIs wb w.heap.size 29 #[.int .u8 ((r0 0).toNat : Int), .int .u8 ((r0 1).toNat : Int), .int .u8 ((r0 2).toNat : Int), .int .u8 ((r0 3).toNat : Int), .int .u8 ((r0 4).toNat : Int), .int .u8 ((r0 5).toNat : Int), .int .u8 ((r0 6).toNat : Int), .int .u8 ((r0 7).toNat : Int), .int .i64 c0, .int .u8 ((b0 0).toNat : Int), .int .u8 ((b0 1).toNat : Int), .int .u8 ((b0 2).toNat : Int), .int .u8 ((b0 3).toNat : Int), .int .u8 ((b0 4).toNat : Int), .int .u8 ((b0 5).toNat : Int), .int .u8 ((b0 6).toNat : Int), .int .u8 ((b0 7).toNat : Int), .int .i64 p0] := (hka _ (by omega)).trans Q0
  have Q1 : RowIs wb (w.heap.size + 1) 29 #[.int .u8 ((r1 0).toNat : Int), .int .u8 ((r1 1).toNat : Int), .int .u8 ((r1 2).toNat : Int), .int .u8 ((r1 3).toNat : Int), .int .u8 ((r1 4).toNat : Int), .int .u8 ((r1 5).toNat : Int), .int .u8 ((r1 6).toNat : Int), .int .u8 ((r1 7).toNat : Int), .int .i64 c1, .int .u8 ((b1 0).toNat : Int), .int .u8 ((b1 1).toNat : Int), .int .u8 ((b1 2).toNat : Int), .int .u8 ((b1 3).toNat : Int), .int .u8 ((b1 4).toNat : Int), .int .u8 ((b1 5).toNat : Int), .int .u8 ((b1 6).toNat : Int), .int .u8 ((b1 7).toNat : Int), .int .i64 p1] := (hka _ (by omega)).trans Q1
  have hbW := hbW.trans hb
  clear hb hka
  simp only [Act.put, List.setIfInBounds_toArray, List.set]
  refine at_store 32 (.tmp 9) (.tmp 15) ?_
  refine wpList_store_own rfl _ _ _ rfl g9 _ rfl rfl _ _ r9 (by kernel_rfl) rfl (by kernel_rfl) w.heap.size (by omega) ?_
  intro wc r9 hka _ hb
  have R7 : Hid (RowIs wc g7 32 #[.int .u8 ((r0 0).toNat : Int), .int .u8 ((r0 1).toNat : Int), .int .u8 ((r0 2).toNat : Int), .int .u8 ((r0 3).toNat : Int), .int .u8 ((r0 4).toNat : Int), .int .u8 ((r0 5).toNat : Int), .int .u8 ((r0 6).toNat : Int), .int .u8 ((r0 7).toNat : Int), .int .i64 c0, .int .u8 ((b0 0).toNat : Int), .int .u8 ((b0 1).toNat : Int), .int .u8 ((b0 2).toNat : Int), .int .u8 ((b0 3).toNat : Int), .int .u8 ((b0 4).toNat : Int), .int .u8 ((b0 5).toNat : Int), .int .u8 ((b0 6).toNat : Int), .int .u8 ((b0 7).toNat : Int), .int .i64 p0]) := (hka g7 (by omega)).trans r7
  have R8 : Hid (RowIs wc g8 32 #[.int .u8 ((r1 0).toNat : Int), .int .u8 ((r1 1).toNat : Int), .int .u8 ((r1 2).toNat : Int), .int .u8 ((r1 3).toNat : Int), .int .u8 ((r1 4).toNat : Int), .int .u8 ((r1 5).toNat : Int), .int .u8 ((r1 6).toNat : Int), .int .u8 ((r1 7).toNat : Int), .int .i64 c1, .int .u8 ((b1 0).toNat : Int), .int .u8 ((b1 1).toNat : Int), .int .u8 ((b1 2).toNat : Int), .int .u8 ((b1 3).toNat : Int), .int .u8 ((b1 4).toNat : Int), .int .u8 ((b1 5).toNat : Int), .int .u8 ((b1 6).toNat : Int), .int .u8 ((b1 7).toNat : Int), .int .i64 p1]) := (hka g8 (by omega)).trans r8
  have R9 := Lib.hid r9
  have R3 : Hid (RowIs wc w.heap.size 29 #[.int .u8 ((r0 0).toNat : Int), .int .u8 ((r0 1).toNat : Int), .int .u8 ((r0 2).toNat : Int), .int .u8 ((r0 3).toNat : Int), .int .u8 ((r0 4).toNat : Int), .int .u8 ((r0 5).toNat : Int), .int .u8 ((r0 6).toNat : Int), .int .u8 ((r0 7).toNat : Int), .int .i64 c0, .int .u8 ((b0 0).toNat : Int), .int .u8 ((b0 1).toNat : Int), .int .u8 ((b0 2).toNat : Int), .int .u8 ((b0 3).toNat : Int), .int .u8 ((b0 4).toNat : Int), .int .u8 ((b0 5).toNat : Int), .int .u8 ((b0 6).toNat : Int), .int .u8 ((b0 7).toNat : Int), .int .i64 p0]) := (hka _ (by omega)).trans Q0
  have R4 : Hid (RowIs wc (w.heap.size + 1) 29 #[.int .u8 ((r1 0).toNat : Int), .int .u8 ((r1 1).toNat : Int), .int .u8 ((r1 2).toNat : Int), .int .u8 ((r1 3).toNat : Int), .int .u8 ((r1 4).toNat : Int), .int .u8 ((r1 5).toNat : Int), .int .u8 ((r1 6).toNat : Int), .int .u8 ((r1 7).toNat : Int), .int .i64 c1, .int .u8 ((b1 0).toNat : Int), .int .u8 ((b1 1).toNat : Int), .int .u8 ((b1 2).toNat : Int), .int .u8 ((b1 3).toNat : Int), .int .u8 ((b1 4).toNat : Int), .int .u8 ((b1 5).toNat : Int), .int .u8 ((b1 6).toNat : Int), .int .u8 ((b1 7).toNat : Int), .int .i64 p1]) := (hka _ (by omega)).trans Q1
  have hbW := hbW.trans hb
  clear hb hka Q0 Q1 r7 r8 r9 n78 n79 n89 hlt hg7 hg8 hg9
  rcases O.out with ⟨rfl, rfl, rfl, rfl⟩ | ⟨rfl, rfl, rfl, rfl, rfl⟩ | ⟨rfl, rfl, rfl⟩ | ⟨rfl, rfl, rfl⟩
  · skip
    have E01 := E01.out
    go_wp2_with fail
    refine (awake_any _).mono ?_
    rintro e w' ⟨rfl, rfl⟩
    go_wp2_with (first | ((with_reducible refine at_load 32 (.tmp 7) ?_); refine wpList_load_own rfl 32 (.tmp 7) rfl g7 rfl _ _ _ R7.out Try.underlying32 rfl (by kernel_rfl) ?_) | ((with_reducible refine at_load 32 (.tmp 8) ?_); refine wpList_load_own rfl 32 (.tmp 8) rfl g8 rfl _ _ _ R8.out Try.underlying32 rfl (by kernel_rfl) ?_) | ((with_reducible refine at_load 32 (.tmp 9) ?_); refine wpList_load_own rfl 32 (.tmp 9) rfl g9 rfl _ _ _ R9.out Try.underlying32 rfl (by kernel_rfl) ?_) | ((with_reducible refine at_load 29 (.tmp 3) ?_); refine wpList_load_own rfl 29 (.tmp 3) rfl (w.heap.size) rfl _ _ _ R3.out Try.underlying29 rfl (by kernel_rfl) ?_) | ((with_reducible refine at_load 29 (.tmp 4) ?_); refine wpList_load_own rfl 29 (.tmp 4) rfl (w.heap.size + 1) rfl _ _ _ R4.out Try.underlying29 rfl (by kernel_rfl) ?_))
    refine (C00.out _).mono ?_
    rintro e w' ⟨rfl, hb⟩
    have R7 := Lib.hid (R7.out.kept hb)
    have R8 := Lib.hid (R8.out.kept hb)
    have R9 := Lib.hid (R9.out.kept hb)
    have R3 := Lib.hid (R3.out.kept hb)
    have R4 := Lib.hid (R4.out.kept hb)
    have hbW := hbW.trans (hb.mono hbW.size)
    clear hb
    go_wp2_with (first | ((with_reducible refine at_load 32 (.tmp 7) ?_); refine wpList_load_own rfl 32 (.tmp 7) rfl g7 rfl _ _ _ R7.out Try.underlying32 rfl (by kernel_rfl) ?_) | ((with_reducible refine at_load 32 (.tmp 8) ?_); refine wpList_load_own rfl 32 (.tmp 8) rfl g8 rfl _ _ _ R8.out Try.underlying32 rfl (by kernel_rfl) ?_) | ((with_reducible refine at_load 32 (.tmp 9) ?_); refine wpList_load_own rfl 32 (.tmp 9) rfl g9 rfl _ _ _ R9.out Try.underlying32 rfl (by kernel_rfl) ?_) | ((with_reducible refine at_load 29 (.tmp 3) ?_); refine wpList_load_own rfl 29 (.tmp 3) rfl (w.heap.size) rfl _ _ _ R3.out Try.underlying29 rfl (by kernel_rfl) ?_) | ((with_reducible refine at_load 29 (.tmp 4) ?_); refine wpList_load_own rfl 29 (.tmp 4) rfl (w.heap.size + 1) rfl _ _ _ R4.out Try.underlying29 rfl (by kernel_rfl) ?_))
    refine (C01.out _).mono ?_
    rintro e w' ⟨rfl, hb⟩
    have R7 := Lib.hid (R7.out.kept hb)
    have R8 := Lib.hid (R8.out.kept hb)
    have R9 := Lib.hid (R9.out.kept hb)
    have R3 := Lib.hid (R3.out.kept hb)
    have R4 := Lib.hid (R4.out.kept hb)
    have hbW := hbW.trans (hb.mono hbW.size)
    clear hb
    go_wp2_with (first | ((with_reducible refine at_load 32 (.tmp 7) ?_); refine wpList_load_own rfl 32 (.tmp 7) rfl g7 rfl _ _ _ R7.out Try.underlying32 rfl (by kernel_rfl) ?_) | ((with_reducible refine at_load 32 (.tmp 8) ?_); refine wpList_load_own rfl 32 (.tmp 8) rfl g8 rfl _ _ _ R8.out Try.underlying32 rfl (by kernel_rfl) ?_) | ((with_reducible refine at_load 32 (.tmp 9) ?_); refine wpList_load_own rfl 32 (.tmp 9) rfl g9 rfl _ _ _ R9.out Try.underlying32 rfl (by kernel_rfl) ?_) | ((with_reducible refine at_load 29 (.tmp 3) ?_); refine wpList_load_own rfl 29 (.tmp 3) rfl (w.heap.size) rfl _ _ _ R3.out Try.underlying29 rfl (by kernel_rfl) ?_) | ((with_reducible refine at_load 29 (.tmp 4) ?_); refine wpList_load_own rfl 29 (.tmp 4) rfl (w.heap.size + 1) rfl _ _ _ R4.out Try.underlying29 rfl (by kernel_rfl) ?_))
    refine (C10.out _).mono ?_
    rintro e w' ⟨rfl, hb⟩
    have R7 := Lib.hid (R7.out.kept hb)
    have R8 := Lib.hid (R8.out.kept hb)
    have R9 := Lib.hid (R9.out.kept hb)
    have R3 := Lib.hid (R3.out.kept hb)
    have R4 := Lib.hid (R4.out.kept hb)
    have hbW := hbW.trans (hb.mono hbW.size)
    clear hb
    go_wp2_with (first | ((with_reducible refine at_load 32 (.tmp 7) ?_); refine wpList_load_own rfl 32 (.tmp 7) rfl g7 rfl _ _ _ R7.out Try.underlying32 rfl (by kernel_rfl) ?_) | ((with_reducible refine at_load 32 (.tmp 8) ?_); refine wpList_load_own rfl 32 (.tmp 8) rfl g8 rfl _ _ _ R8.out Try.underlying32 rfl (by kernel_rfl) ?_) | ((with_reducible refine at_load 32 (.tmp 9) ?_); refine wpList_load_own rfl 32 (.tmp 9) rfl g9 rfl _ _ _ R9.out Try.underlying32 rfl (by kernel_rfl) ?_) | ((with_reducible refine at_load 29 (.tmp 3) ?_); refine wpList_load_own rfl 29 (.tmp 3) rfl (w.heap.size) rfl _ _ _ R3.out Try.underlying29 rfl (by kernel_rfl) ?_) | ((with_reducible refine at_load 29 (.tmp 4) ?_); refine wpList_load_own rfl 29 (.tmp 4) rfl (w.heap.size + 1) rfl _ _ _ R4.out Try.underlying29 rfl (by kernel_rfl) ?_))
    refine (C01.out _).mono ?_
    rintro e w' ⟨rfl, hb⟩
    have R7 := Lib.hid (R7.out.kept hb)
    have R8 := Lib.hid (R8.out.kept hb)
    have R9 := Lib.hid (R9.out.kept hb)
    have R3 := Lib.hid (R3.out.kept hb)
    have R4 := Lib.hid (R4.out.kept hb)
    have hbW := hbW.trans (hb.mono hbW.size)
    clear hb
    go_wp2_with (first | ((with_reducible refine at_load 32 (.tmp 7) ?_); refine wpList_load_own rfl 32 (.tmp 7) rfl g7 rfl _ _ _ R7.out Try.underlying32 rfl (by kernel_rfl) ?_) | ((with_reducible refine at_load 32 (.tmp 8) ?_); refine wpList_load_own rfl 32 (.tmp 8) rfl g8 rfl _ _ _ R8.out Try.underlying32 rfl (by kernel_rfl) ?_) | ((with_reducible refine at_load 32 (.tmp 9) ?_); refine wpList_load_own rfl 32 (.tmp 9) rfl g9 rfl _ _ _ R9.out Try.underlying32 rfl (by kernel_rfl) ?_) | ((with_reducible refine at_load 29 (.tmp 3) ?_); refine wpList_load_own rfl 29 (.tmp 3) rfl (w.heap.size) rfl _ _ _ R3.out Try.underlying29 rfl (by kernel_rfl) ?_) | ((with_reducible refine at_load 29 (.tmp 4) ?_); refine wpList_load_own rfl 29 (.tmp 4) rfl (w.heap.size + 1) rfl _ _ _ R4.out Try.underlying29 rfl (by kernel_rfl) ?_))
    refine (C01.out _).mono ?_
    rintro e w' ⟨rfl, hb⟩
    have R7 := Lib.hid (R7.out.kept hb)
    have R8 := Lib.hid (R8.out.kept hb)
    have R9 := Lib.hid (R9.out.kept hb)
    have R3 := Lib.hid (R3.out.kept hb)
    have R4 := Lib.hid (R4.out.kept hb)
    have hbW := hbW.trans (hb.mono hbW.size)
    clear hb
    go_wp2_with (first | ((with_reducible refine at_load 32 (.tmp 7) ?_); refine wpList_load_own rfl 32 (.tmp 7) rfl g7 rfl _ _ _ R7.out Try.underlying32 rfl (by kernel_rfl) ?_) | ((with_reducible refine at_load 32 (.tmp 8) ?_); refine wpList_load_own rfl 32 (.tmp 8) rfl g8 rfl _ _ _ R8.out Try.underlying32 rfl (by kernel_rfl) ?_) | ((with_reducible refine at_load 32 (.tmp 9) ?_); refine wpList_load_own rfl 32 (.tmp 9) rfl g9 rfl _ _ _ R9.out Try.underlying32 rfl (by kernel_rfl) ?_) | ((with_reducible refine at_load 29 (.tmp 3) ?_); refine wpList_load_own rfl 29 (.tmp 3) rfl (w.heap.size) rfl _ _ _ R3.out Try.underlying29 rfl (by kernel_rfl) ?_) | ((with_reducible refine at_load 29 (.tmp 4) ?_); refine wpList_load_own rfl 29 (.tmp 4) rfl (w.heap.size + 1) rfl _ _ _ R4.out Try.underlying29 rfl (by kernel_rfl) ?_))
    refine (C12.out _).mono ?_
    rintro e w' ⟨rfl, hb⟩
    have R7 := Lib.hid (R7.out.kept hb)
    have R8 := Lib.hid (R8.out.kept hb)
    have R9 := Lib.hid (R9.out.kept hb)
    have R3 := Lib.hid (R3.out.kept hb)
    have R4 := Lib.hid (R4.out.kept hb)
    have hbW := hbW.trans (hb.mono hbW.size)
    clear hb
    go_wp2_with (first | ((with_reducible refine at_load 32 (.tmp 7) ?_); refine wpList_load_own rfl 32 (.tmp 7) rfl g7 rfl _ _ _ R7.out Try.underlying32 rfl (by kernel_rfl) ?_) | ((with_reducible refine at_load 32 (.tmp 8) ?_); refine wpList_load_own rfl 32 (.tmp 8) rfl g8 rfl _ _ _ R8.out Try.underlying32 rfl (by kernel_rfl) ?_) | ((with_reducible refine at_load 32 (.tmp 9) ?_); refine wpList_load_own rfl 32 (.tmp 9) rfl g9 rfl _ _ _ R9.out Try.underlying32 rfl (by kernel_rfl) ?_) | ((with_reducible refine at_load 29 (.tmp 3) ?_); refine wpList_load_own rfl 29 (.tmp 3) rfl (w.heap.size) rfl _ _ _ R3.out Try.underlying29 rfl (by kernel_rfl) ?_) | ((with_reducible refine at_load 29 (.tmp 4) ?_); refine wpList_load_own rfl 29 (.tmp 4) rfl (w.heap.size + 1) rfl _ _ _ R4.out Try.underlying29 rfl (by kernel_rfl) ?_))
    go_ret
    exact ⟨rfl, hbW⟩
  · skip
    have E01 := E01.out
    go_wp2_with fail
    refine (awake_any _).mono ?_
    rintro e w' ⟨rfl, rfl⟩
    go_wp2_with (first | ((with_reducible refine at_load 32 (.tmp 7) ?_); refine wpList_load_own rfl 32 (.tmp 7) rfl g7 rfl _ _ _ R7.out Try.underlying32 rfl (by kernel_rfl) ?_) | ((with_reducible refine at_load 32 (.tmp 8) ?_); refine wpList_load_own rfl 32 (.tmp 8) rfl g8 rfl _ _ _ R8.out Try.underlying32 rfl (by kernel_rfl) ?_) | ((with_reducible refine at_load 32 (.tmp 9) ?_); refine wpList_load_own rfl 32 (.tmp 9) rfl g9 rfl _ _ _ R9.out Try.underlying32 rfl (by kernel_rfl) ?_) | ((with_reducible refine at_load 29 (.tmp 3) ?_); refine wpList_load_own rfl 29 (.tmp 3) rfl (w.heap.size) rfl _ _ _ R3.out Try.underlying29 rfl (by kernel_rfl) ?_) | ((with_reducible refine at_load 29 (.tmp 4) ?_); refine wpList_load_own rfl 29 (.tmp 4) rfl (w.heap.size + 1) rfl _ _ _ R4.out Try.underlying29 rfl (by kernel_rfl) ?_))
    refine (C00.out _).mono ?_
    rintro e w' ⟨rfl, hb⟩
    have R7 := Lib.hid (R7.out.kept hb)
    have R8 := Lib.hid (R8.out.kept hb)
    have R9 := Lib.hid (R9.out.kept hb)
    have R3 := Lib.hid (R3.out.kept hb)
    have R4 := Lib.hid (R4.out.kept hb)
    have hbW := hbW.trans (hb.mono hbW.size)
    clear hb
    go_wp2_with (first | ((with_reducible refine at_load 32 (.tmp 7) ?_); refine wpList_load_own rfl 32 (.tmp 7) rfl g7 rfl _ _ _ R7.out Try.underlying32 rfl (by kernel_rfl) ?_) | ((with_reducible refine at_load 32 (.tmp 8) ?_); refine wpList_load_own rfl 32 (.tmp 8) rfl g8 rfl _ _ _ R8.out Try.underlying32 rfl (by kernel_rfl) ?_) | ((with_reducible refine at_load 32 (.tmp 9) ?_); refine wpList_load_own rfl 32 (.tmp 9) rfl g9 rfl _ _ _ R9.out Try.underlying32 rfl (by kernel_rfl) ?_) | ((with_reducible refine at_load 29 (.tmp 3) ?_); refine wpList_load_own rfl 29 (.tmp 3) rfl (w.heap.size) rfl _ _ _ R3.out Try.underlying29 rfl (by kernel_rfl) ?_) | ((with_reducible refine at_load 29 (.tmp 4) ?_); refine wpList_load_own rfl 29 (.tmp 4) rfl (w.heap.size + 1) rfl _ _ _ R4.out Try.underlying29 rfl (by kernel_rfl) ?_))
    refine (C01.out _).mono ?_
    rintro e w' ⟨rfl, hb⟩
    have R7 := Lib.hid (R7.out.kept hb)
    have R8 := Lib.hid (R8.out.kept hb)
    have R9 := Lib.hid (R9.out.kept hb)
    have R3 := Lib.hid (R3.out.kept hb)
    have R4 := Lib.hid (R4.out.kept hb)
    have hbW := hbW.trans (hb.mono hbW.size)
    clear hb
    go_wp2_with (first | ((with_reducible refine at_load 32 (.tmp 7) ?_); refine wpList_load_own rfl 32 (.tmp 7) rfl g7 rfl _ _ _ R7.out Try.underlying32 rfl (by kernel_rfl) ?_) | ((with_reducible refine at_load 32 (.tmp 8) ?_); refine wpList_load_own rfl 32 (.tmp 8) rfl g8 rfl _ _ _ R8.out Try.underlying32 rfl (by kernel_rfl) ?_) | ((with_reducible refine at_load 32 (.tmp 9) ?_); refine wpList_load_own rfl 32 (.tmp 9) rfl g9 rfl _ _ _ R9.out Try.underlying32 rfl (by kernel_rfl) ?_) | ((with_reducible refine at_load 29 (.tmp 3) ?_); refine wpList_load_own rfl 29 (.tmp 3) rfl (w.heap.size) rfl _ _ _ R3.out Try.underlying29 rfl (by kernel_rfl) ?_) | ((with_reducible refine at_load 29 (.tmp 4) ?_); refine wpList_load_own rfl 29 (.tmp 4) rfl (w.heap.size + 1) rfl _ _ _ R4.out Try.underlying29 rfl (by kernel_rfl) ?_))
    refine (C10.out _).mono ?_
    rintro e w' ⟨rfl, hb⟩
    have R7 := Lib.hid (R7.out.kept hb)
    have R8 := Lib.hid (R8.out.kept hb)
    have R9 := Lib.hid (R9.out.kept hb)
    have R3 := Lib.hid (R3.out.kept hb)
    have R4 := Lib.hid (R4.out.kept hb)
    have hbW := hbW.trans (hb.mono hbW.size)
    clear hb
    go_wp2_with (first | ((with_reducible refine at_load 32 (.tmp 7) ?_); refine wpList_load_own rfl 32 (.tmp 7) rfl g7 rfl _ _ _ R7.out Try.underlying32 rfl (by kernel_rfl) ?_) | ((with_reducible refine at_load 32 (.tmp 8) ?_); refine wpList_load_own rfl 32 (.tmp 8) rfl g8 rfl _ _ _ R8.out Try.underlying32 rfl (by kernel_rfl) ?_) | ((with_reducible refine at_load 32 (.tmp 9) ?_); refine wpList_load_own rfl 32 (.tmp 9) rfl g9 rfl _ _ _ R9.out Try.underlying32 rfl (by kernel_rfl) ?_) | ((with_reducible refine at_load 29 (.tmp 3) ?_); refine wpList_load_own rfl 29 (.tmp 3) rfl (w.heap.size) rfl _ _ _ R3.out Try.underlying29 rfl (by kernel_rfl) ?_) | ((with_reducible refine at_load 29 (.tmp 4) ?_); refine wpList_load_own rfl 29 (.tmp 4) rfl (w.heap.size + 1) rfl _ _ _ R4.out Try.underlying29 rfl (by kernel_rfl) ?_))
    refine (C01.out _).mono ?_
    rintro e w' ⟨rfl, hb⟩
    have R7 := Lib.hid (R7.out.kept hb)
    have R8 := Lib.hid (R8.out.kept hb)
    have R9 := Lib.hid (R9.out.kept hb)
    have R3 := Lib.hid (R3.out.kept hb)
    have R4 := Lib.hid (R4.out.kept hb)
    have hbW := hbW.trans (hb.mono hbW.size)
    clear hb
    go_wp2_with (first | ((with_reducible refine at_load 32 (.tmp 7) ?_); refine wpList_load_own rfl 32 (.tmp 7) rfl g7 rfl _ _ _ R7.out Try.underlying32 rfl (by kernel_rfl) ?_) | ((with_reducible refine at_load 32 (.tmp 8) ?_); refine wpList_load_own rfl 32 (.tmp 8) rfl g8 rfl _ _ _ R8.out Try.underlying32 rfl (by kernel_rfl) ?_) | ((with_reducible refine at_load 32 (.tmp 9) ?_); refine wpList_load_own rfl 32 (.tmp 9) rfl g9 rfl _ _ _ R9.out Try.underlying32 rfl (by kernel_rfl) ?_) | ((with_reducible refine at_load 29 (.tmp 3) ?_); refine wpList_load_own rfl 29 (.tmp 3) rfl (w.heap.size) rfl _ _ _ R3.out Try.underlying29 rfl (by kernel_rfl) ?_) | ((with_reducible refine at_load 29 (.tmp 4) ?_); refine wpList_load_own rfl 29 (.tmp 4) rfl (w.heap.size + 1) rfl _ _ _ R4.out Try.underlying29 rfl (by kernel_rfl) ?_))
    refine (C01.out _).mono ?_
    rintro e w' ⟨rfl, hb⟩
    have R7 := Lib.hid (R7.out.kept hb)
    have R8 := Lib.hid (R8.out.kept hb)
    have R9 := Lib.hid (R9.out.kept hb)
    have R3 := Lib.hid (R3.out.kept hb)
    have R4 := Lib.hid (R4.out.kept hb)
    have hbW := hbW.trans (hb.mono hbW.size)
    clear hb
    go_wp2_with (first | ((with_reducible refine at_load 32 (.tmp 7) ?_); refine wpList_load_own rfl 32 (.tmp 7) rfl g7 rfl _ _ _ R7.out Try.underlying32 rfl (by kernel_rfl) ?_) | ((with_reducible refine at_load 32 (.tmp 8) ?_); refine wpList_load_own rfl 32 (.tmp 8) rfl g8 rfl _ _ _ R8.out Try.underlying32 rfl (by kernel_rfl) ?_) | ((with_reducible refine at_load 32 (.tmp 9) ?_); refine wpList_load_own rfl 32 (.tmp 9) rfl g9 rfl _ _ _ R9.out Try.underlying32 rfl (by kernel_rfl) ?_) | ((with_reducible refine at_load 29 (.tmp 3) ?_); refine wpList_load_own rfl 29 (.tmp 3) rfl (w.heap.size) rfl _ _ _ R3.out Try.underlying29 rfl (by kernel_rfl) ?_) | ((with_reducible refine at_load 29 (.tmp 4) ?_); refine wpList_load_own rfl 29 (.tmp 4) rfl (w.heap.size + 1) rfl _ _ _ R4.out Try.underlying29 rfl (by kernel_rfl) ?_))
    refine (C12.out _).mono ?_
    rintro e w' ⟨rfl, hb⟩
    have R7 := Lib.hid (R7.out.kept hb)
    have R8 := Lib.hid (R8.out.kept hb)
    have R9 := Lib.hid (R9.out.kept hb)
    have R3 := Lib.hid (R3.out.kept hb)
    have R4 := Lib.hid (R4.out.kept hb)
    have hbW := hbW.trans (hb.mono hbW.size)
    clear hb
    go_wp2_with (first | ((with_reducible refine at_load 32 (.tmp 7) ?_); refine wpList_load_own rfl 32 (.tmp 7) rfl g7 rfl _ _ _ R7.out Try.underlying32 rfl (by kernel_rfl) ?_) | ((with_reducible refine at_load 32 (.tmp 8) ?_); refine wpList_load_own rfl 32 (.tmp 8) rfl g8 rfl _ _ _ R8.out Try.underlying32 rfl (by kernel_rfl) ?_) | ((with_reducible refine at_load 32 (.tmp 9) ?_); refine wpList_load_own rfl 32 (.tmp 9) rfl g9 rfl _ _ _ R9.out Try.underlying32 rfl (by kernel_rfl) ?_) | ((with_reducible refine at_load 29 (.tmp 3) ?_); refine wpList_load_own rfl 29 (.tmp 3) rfl (w.heap.size) rfl _ _ _ R3.out Try.underlying29 rfl (by kernel_rfl) ?_) | ((with_reducible refine at_load 29 (.tmp 4) ?_); refine wpList_load_own rfl 29 (.tmp 4) rfl (w.heap.size + 1) rfl _ _ _ R4.out Try.underlying29 rfl (by kernel_rfl) ?_))
    refine (C02.out _).mono ?_
    rintro e w' ⟨rfl, hb⟩
    have R7 := Lib.hid (R7.out.kept hb)
    have R8 := Lib.hid (R8.out.kept hb)
    have R9 := Lib.hid (R9.out.kept hb)
    have R3 := Lib.hid (R3.out.kept hb)
    have R4 := Lib.hid (R4.out.kept hb)
    have hbW := hbW.trans (hb.mono hbW.size)
    clear hb
    go_wp2_with (first | ((with_reducible refine at_load 32 (.tmp 7) ?_); refine wpList_load_own rfl 32 (.tmp 7) rfl g7 rfl _ _ _ R7.out Try.underlying32 rfl (by kernel_rfl) ?_) | ((with_reducible refine at_load 32 (.tmp 8) ?_); refine wpList_load_own rfl 32 (.tmp 8) rfl g8 rfl _ _ _ R8.out Try.underlying32 rfl (by kernel_rfl) ?_) | ((with_reducible refine at_load 32 (.tmp 9) ?_); refine wpList_load_own rfl 32 (.tmp 9) rfl g9 rfl _ _ _ R9.out Try.underlying32 rfl (by kernel_rfl) ?_) | ((with_reducible refine at_load 29 (.tmp 3) ?_); refine wpList_load_own rfl 29 (.tmp 3) rfl (w.heap.size) rfl _ _ _ R3.out Try.underlying29 rfl (by kernel_rfl) ?_) | ((with_reducible refine at_load 29 (.tmp 4) ?_); refine wpList_load_own rfl 29 (.tmp 4) rfl (w.heap.size + 1) rfl _ _ _ R4.out Try.underlying29 rfl (by kernel_rfl) ?_))
    go_ret
    exact ⟨rfl, hbW⟩
  · skip
    have E01 := E01.out
    go_wp2_with fail
    refine (awake_any _).mono ?_
    rintro e w' ⟨rfl, rfl⟩
    go_wp2_with (first | ((with_reducible refine at_load 32 (.tmp 7) ?_); refine wpList_load_own rfl 32 (.tmp 7) rfl g7 rfl _ _ _ R7.out Try.underlying32 rfl (by kernel_rfl) ?_) | ((with_reducible refine at_load 32 (.tmp 8) ?_); refine wpList_load_own rfl 32 (.tmp 8) rfl g8 rfl _ _ _ R8.out Try.underlying32 rfl (by kernel_rfl) ?_) | ((with_reducible refine at_load 32 (.tmp 9) ?_); refine wpList_load_own rfl 32 (.tmp 9) rfl g9 rfl _ _ _ R9.out Try.underlying32 rfl (by kernel_rfl) ?_) | ((with_reducible refine at_load 29 (.tmp 3) ?_); refine wpList_load_own rfl 29 (.tmp 3) rfl (w.heap.size) rfl _ _ _ R3.out Try.underlying29 rfl (by kernel_rfl) ?_) | ((with_reducible refine at_load 29 (.tmp 4) ?_); refine wpList_load_own rfl 29 (.tmp 4) rfl (w.heap.size + 1) rfl _ _ _ R4.out Try.underlying29 rfl (by kernel_rfl) ?_))
    refine (C00.out _).mono ?_
    rintro e w' ⟨rfl, hb⟩
    have R7 := Lib.hid (R7.out.kept hb)
    have R8 := Lib.hid (R8.out.kept hb)
    have R9 := Lib.hid (R9.out.kept hb)
    have R3 := Lib.hid (R3.out.kept hb)
    have R4 := Lib.hid (R4.out.kept hb)
    have hbW := hbW.trans (hb.mono hbW.size)
    clear hb
    go_wp2_with (first | ((with_reducible refine at_load 32 (.tmp 7) ?_); refine wpList_load_own rfl 32 (.tmp 7) rfl g7 rfl _ _ _ R7.out Try.underlying32 rfl (by kernel_rfl) ?_) | ((with_reducible refine at_load 32 (.tmp 8) ?_); refine wpList_load_own rfl 32 (.tmp 8) rfl g8 rfl _ _ _ R8.out Try.underlying32 rfl (by kernel_rfl) ?_) | ((with_reducible refine at_load 32 (.tmp 9) ?_); refine wpList_load_own rfl 32 (.tmp 9) rfl g9 rfl _ _ _ R9.out Try.underlying32 rfl (by kernel_rfl) ?_) | ((with_reducible refine at_load 29 (.tmp 3) ?_); refine wpList_load_own rfl 29 (.tmp 3) rfl (w.heap.size) rfl _ _ _ R3.out Try.underlying29 rfl (by kernel_rfl) ?_) | ((with_reducible refine at_load 29 (.tmp 4) ?_); refine wpList_load_own rfl 29 (.tmp 4) rfl (w.heap.size + 1) rfl _ _ _ R4.out Try.underlying29 rfl (by kernel_rfl) ?_))
    refine (C01.out _).mono ?_
    rintro e w' ⟨rfl, hb⟩
    have R7 := Lib.hid (R7.out.kept hb)
    have R8 := Lib.hid (R8.out.kept hb)
    have R9 := Lib.hid (R9.out.kept hb)
    have R3 := Lib.hid (R3.out.kept hb)
    have R4 := Lib.hid (R4.out.kept hb)
    have hbW := hbW.trans (hb.mono hbW.size)
    clear hb
    go_wp2_with (first | ((with_reducible refine at_load 32 (.tmp 7) ?_); refine wpList_load_own rfl 32 (.tmp 7) rfl g7 rfl _ _ _ R7.out Try.underlying32 rfl (by kernel_rfl) ?_) | ((with_reducible refine at_load 32 (.tmp 8) ?_); refine wpList_load_own rfl 32 (.tmp 8) rfl g8 rfl _ _ _ R8.out Try.underlying32 rfl (by kernel_rfl) ?_) | ((with_reducible refine at_load 32 (.tmp 9) ?_); refine wpList_load_own rfl 32 (.tmp 9) rfl g9 rfl _ _ _ R9.out Try.underlying32 rfl (by kernel_rfl) ?_) | ((with_reducible refine at_load 29 (.tmp 3) ?_); refine wpList_load_own rfl 29 (.tmp 3) rfl (w.heap.size) rfl _ _ _ R3.out Try.underlying29 rfl (by kernel_rfl) ?_) | ((with_reducible refine at_load 29 (.tmp 4) ?_); refine wpList_load_own rfl 29 (.tmp 4) rfl (w.heap.size + 1) rfl _ _ _ R4.out Try.underlying29 rfl (by kernel_rfl) ?_))
    refine (C01.out _).mono ?_
    rintro e w' ⟨rfl, hb⟩
    have R7 := Lib.hid (R7.out.kept hb)
    have R8 := Lib.hid (R8.out.kept hb)
    have R9 := Lib.hid (R9.out.kept hb)
    have R3 := Lib.hid (R3.out.kept hb)
    have R4 := Lib.hid (R4.out.kept hb)
    have hbW := hbW.trans (hb.mono hbW.size)
    clear hb
    go_wp2_with (first | ((with_reducible refine at_load 32 (.tmp 7) ?_); refine wpList_load_own rfl 32 (.tmp 7) rfl g7 rfl _ _ _ R7.out Try.underlying32 rfl (by kernel_rfl) ?_) | ((with_reducible refine at_load 32 (.tmp 8) ?_); refine wpList_load_own rfl 32 (.tmp 8) rfl g8 rfl _ _ _ R8.out Try.underlying32 rfl (by kernel_rfl) ?_) | ((with_reducible refine at_load 32 (.tmp 9) ?_); refine wpList_load_own rfl 32 (.tmp 9) rfl g9 rfl _ _ _ R9.out Try.underlying32 rfl (by kernel_rfl) ?_) | ((with_reducible refine at_load 29 (.tmp 3) ?_); refine wpList_load_own rfl 29 (.tmp 3) rfl (w.heap.size) rfl _ _ _ R3.out Try.underlying29 rfl (by kernel_rfl) ?_) | ((with_reducible refine at_load 29 (.tmp 4) ?_); refine wpList_load_own rfl 29 (.tmp 4) rfl (w.heap.size + 1) rfl _ _ _ R4.out Try.underlying29 rfl (by kernel_rfl) ?_))
    refine (C10.out _).mono ?_
    rintro e w' ⟨rfl, hb⟩
    have R7 := Lib.hid (R7.out.kept hb)
    have R8 := Lib.hid (R8.out.kept hb)
    have R9 := Lib.hid (R9.out.kept hb)
    have R3 := Lib.hid (R3.out.kept hb)
    have R4 := Lib.hid (R4.out.kept hb)
    have hbW := hbW.trans (hb.mono hbW.size)
    clear hb
    go_wp2_with (first | ((with_reducible refine at_load 32 (.tmp 7) ?_); refine wpList_load_own rfl 32 (.tmp 7) rfl g7 rfl _ _ _ R7.out Try.underlying32 rfl (by kernel_rfl) ?_) | ((with_reducible refine at_load 32 (.tmp 8) ?_); refine wpList_load_own rfl 32 (.tmp 8) rfl g8 rfl _ _ _ R8.out Try.underlying32 rfl (by kernel_rfl) ?_) | ((with_reducible refine at_load 32 (.tmp 9) ?_); refine wpList_load_own rfl 32 (.tmp 9) rfl g9 rfl _ _ _ R9.out Try.underlying32 rfl (by kernel_rfl) ?_) | ((with_reducible refine at_load 29 (.tmp 3) ?_); refine wpList_load_own rfl 29 (.tmp 3) rfl (w.heap.size) rfl _ _ _ R3.out Try.underlying29 rfl (by kernel_rfl) ?_) | ((with_reducible refine at_load 29 (.tmp 4) ?_); refine wpList_load_own rfl 29 (.tmp 4) rfl (w.heap.size + 1) rfl _ _ _ R4.out Try.underlying29 rfl (by kernel_rfl) ?_))
    refine (C01.out _).mono ?_
    rintro e w' ⟨rfl, hb⟩
    have R7 := Lib.hid (R7.out.kept hb)
    have R8 := Lib.hid (R8.out.kept hb)
    have R9 := Lib.hid (R9.out.kept hb)
    have R3 := Lib.hid (R3.out.kept hb)
    have R4 := Lib.hid (R4.out.kept hb)
    have hbW := hbW.trans (hb.mono hbW.size)
    clear hb
    go_wp2_with (first | ((with_reducible refine at_load 32 (.tmp 7) ?_); refine wpList_load_own rfl 32 (.tmp 7) rfl g7 rfl _ _ _ R7.out Try.underlying32 rfl (by kernel_rfl) ?_) | ((with_reducible refine at_load 32 (.tmp 8) ?_); refine wpList_load_own rfl 32 (.tmp 8) rfl g8 rfl _ _ _ R8.out Try.underlying32 rfl (by kernel_rfl) ?_) | ((with_reducible refine at_load 32 (.tmp 9) ?_); refine wpList_load_own rfl 32 (.tmp 9) rfl g9 rfl _ _ _ R9.out Try.underlying32 rfl (by kernel_rfl) ?_) | ((with_reducible refine at_load 29 (.tmp 3) ?_); refine wpList_load_own rfl 29 (.tmp 3) rfl (w.heap.size) rfl _ _ _ R3.out Try.underlying29 rfl (by kernel_rfl) ?_) | ((with_reducible refine at_load 29 (.tmp 4) ?_); refine wpList_load_own rfl 29 (.tmp 4) rfl (w.heap.size + 1) rfl _ _ _ R4.out Try.underlying29 rfl (by kernel_rfl) ?_))
    go_ret
    exact ⟨rfl, hbW⟩
  · skip
    have E01 := E01.out
    go_wp2_with fail
    refine (awake_any _).mono ?_
    rintro e w' ⟨rfl, rfl⟩
    go_wp2_with (first | ((with_reducible refine at_load 32 (.tmp 7) ?_); refine wpList_load_own rfl 32 (.tmp 7) rfl g7 rfl _ _ _ R7.out Try.underlying32 rfl (by kernel_rfl) ?_) | ((with_reducible refine at_load 32 (.tmp 8) ?_); refine wpList_load_own rfl 32 (.tmp 8) rfl g8 rfl _ _ _ R8.out Try.underlying32 rfl (by kernel_rfl) ?_) | ((with_reducible refine at_load 32 (.tmp 9) ?_); refine wpList_load_own rfl 32 (.tmp 9) rfl g9 rfl _ _ _ R9.out Try.underlying32 rfl (by kernel_rfl) ?_) | ((with_reducible refine at_load 29 (.tmp 3) ?_); refine wpList_load_own rfl 29 (.tmp 3) rfl (w.heap.size) rfl _ _ _ R3.out Try.underlying29 rfl (by kernel_rfl) ?_) | ((with_reducible refine at_load 29 (.tmp 4) ?_); refine wpList_load_own rfl 29 (.tmp 4) rfl (w.heap.size + 1) rfl _ _ _ R4.out Try.underlying29 rfl (by kernel_rfl) ?_))
    refine (C00.out _).mono ?_
    rintro e w' ⟨rfl, hb⟩
    have R7 := Lib.hid (R7.out.kept hb)
    have R8 := Lib.hid (R8.out.kept hb)
    have R9 := Lib.hid (R9.out.kept hb)
    have R3 := Lib.hid (R3.out.kept hb)
    have R4 := Lib.hid (R4.out.kept hb)
    have hbW := hbW.trans (hb.mono hbW.size)
    clear hb
    go_wp2_with (first | ((with_reducible refine at_load 32 (.tmp 7) ?_); refine wpList_load_own rfl 32 (.tmp 7) rfl g7 rfl _ _ _ R7.out Try.underlying32 rfl (by kernel_rfl) ?_) | ((with_reducible refine at_load 32 (.tmp 8) ?_); refine wpList_load_own rfl 32 (.tmp 8) rfl g8 rfl _ _ _ R8.out Try.underlying32 rfl (by kernel_rfl) ?_) | ((with_reducible refine at_load 32 (.tmp 9) ?_); refine wpList_load_own rfl 32 (.tmp 9) rfl g9 rfl _ _ _ R9.out Try.underlying32 rfl (by kernel_rfl) ?_) | ((with_reducible refine at_load 29 (.tmp 3) ?_); refine wpList_load_own rfl 29 (.tmp 3) rfl (w.heap.size) rfl _ _ _ R3.out Try.underlying29 rfl (by kernel_rfl) ?_) | ((with_reducible refine at_load 29 (.tmp 4) ?_); refine wpList_load_own rfl 29 (.tmp 4) rfl (w.heap.size + 1) rfl _ _ _ R4.out Try.underlying29 rfl (by kernel_rfl) ?_))
    refine (C01.out _).mono ?_
    rintro e w' ⟨rfl, hb⟩
    have R7 := Lib.hid (R7.out.kept hb)
    have R8 := Lib.hid (R8.out.kept hb)
    have R9 := Lib.hid (R9.out.kept hb)
    have R3 := Lib.hid (R3.out.kept hb)
    have R4 := Lib.hid (R4.out.kept hb)
    have hbW := hbW.trans (hb.mono hbW.size)
    clear hb
    go_wp2_with (first | ((with_reducible refine at_load 32 (.tmp 7) ?_); refine wpList_load_own rfl 32 (.tmp 7) rfl g7 rfl _ _ _ R7.out Try.underlying32 rfl (by kernel_rfl) ?_) | ((with_reducible refine at_load 32 (.tmp 8) ?_); refine wpList_load_own rfl 32 (.tmp 8) rfl g8 rfl _ _ _ R8.out Try.underlying32 rfl (by kernel_rfl) ?_) | ((with_reducible refine at_load 32 (.tmp 9) ?_); refine wpList_load_own rfl 32 (.tmp 9) rfl g9 rfl _ _ _ R9.out Try.underlying32 rfl (by kernel_rfl) ?_) | ((with_reducible refine at_load 29 (.tmp 3) ?_); refine wpList_load_own rfl 29 (.tmp 3) rfl (w.heap.size) rfl _ _ _ R3.out Try.underlying29 rfl (by kernel_rfl) ?_) | ((with_reducible refine at_load 29 (.tmp 4) ?_); refine wpList_load_own rfl 29 (.tmp 4) rfl (w.heap.size + 1) rfl _ _ _ R4.out Try.underlying29 rfl (by kernel_rfl) ?_))
    refine (C01.out _).mono ?_
    rintro e w' ⟨rfl, hb⟩
    have R7 := Lib.hid (R7.out.kept hb)
    have R8 := Lib.hid (R8.out.kept hb)
    have R9 := Lib.hid (R9.out.kept hb)
    have R3 := Lib.hid (R3.out.kept hb)
    have R4 := Lib.hid (R4.out.kept hb)
    have hbW := hbW.trans (hb.mono hbW.size)
    clear hb
    go_wp2_with (first | ((with_reducible refine at_load 32 (.tmp 7) ?_); refine wpList_load_own rfl 32 (.tmp 7) rfl g7 rfl _ _ _ R7.out Try.underlying32 rfl (by kernel_rfl) ?_) | ((with_reducible refine at_load 32 (.tmp 8) ?_); refine wpList_load_own rfl 32 (.tmp 8) rfl g8 rfl _ _ _ R8.out Try.underlying32 rfl (by kernel_rfl) ?_) | ((with_reducible refine at_load 32 (.tmp 9) ?_); refine wpList_load_own rfl 32 (.tmp 9) rfl g9 rfl _ _ _ R9.out Try.underlying32 rfl (by kernel_rfl) ?_) | ((with_reducible refine at_load 29 (.tmp 3) ?_); refine wpList_load_own rfl 29 (.tmp 3) rfl (w.heap.size) rfl _ _ _ R3.out Try.underlying29 rfl (by kernel_rfl) ?_) | ((with_reducible refine at_load 29 (.tmp 4) ?_); refine wpList_load_own rfl 29 (.tmp 4) rfl (w.heap.size + 1) rfl _ _ _ R4.out Try.underlying29 rfl (by kernel_rfl) ?_))
    go_ret
    exact ⟨rfl, hbW⟩
end Go.Proofs.Ythadlpiioabajaa
