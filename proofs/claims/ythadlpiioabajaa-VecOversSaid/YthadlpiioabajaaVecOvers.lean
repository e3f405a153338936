/- The walk of VecOvers. By an AI agent. -/
import Derived.Test.YthadlpiioabajaaVecOrder
namespace Go.Proofs.Ythadlpiioabajaa
open Go.RowKit Go.Sort Grow

theorem Vec.held_id (n : Int) (h0 : 0 ≤ n) (h1 : n ≤ 1099511627776) : Vec.held n = n := by unfold Vec.held; omega

theorem Vec.overs (r0 : List UInt8) (c0 : Int) (b0 : List UInt8) (p0 : Int) (r1 : List UInt8) (c1 : Int) (b1 : List UInt8) (p1 : Int) (cost : Int) (bb : List UInt8) (pp : Int) (h : ¬ (r0 = r1 ∧ c0 = c1)) :
    better r0 (c0 + cost) bb pp r1 (c1 + cost) bb pp = better r0 c0 b0 p0 r1 c1 b1 p1 := by
  rw [Bool.eq_iff_iff, better_iff, better_iff, Ord.lt_irrefl]
  constructor
  · rintro (h1 | ⟨rfl, h1⟩)
    · exact .inl h1
    · rcases h1 with h1 | ⟨h1, _⟩
      · exact .inr ⟨rfl, .inl (by omega)⟩
      · exact absurd ⟨rfl, by omega⟩ h
  · rintro (h1 | ⟨rfl, h1⟩)
    · exact .inl h1
    · rcases h1 with h1 | ⟨h1, _⟩
      · exact .inr ⟨rfl, .inl (by omega)⟩
      · exact absurd ⟨rfl, by omega⟩ h

theorem run_equalIn_pvec (d : Nat) (r b r' b' : Nat → UInt8) (c p c' p' : Int) (w : World) :
    (Op.equalIn (d + 1 + 1 + 1) 32 (.agg #[.int .u8 ((r 0).toNat : Int), .int .u8 ((r 1).toNat : Int), .int .u8 ((r 2).toNat : Int), .int .u8 ((r 3).toNat : Int), .int .u8 ((r 4).toNat : Int), .int .u8 ((r 5).toNat : Int), .int .u8 ((r 6).toNat : Int), .int .u8 ((r 7).toNat : Int), .int .i64 c, .int .u8 ((b 0).toNat : Int), .int .u8 ((b 1).toNat : Int), .int .u8 ((b 2).toNat : Int), .int .u8 ((b 3).toNat : Int), .int .u8 ((b 4).toNat : Int), .int .u8 ((b 5).toNat : Int), .int .u8 ((b 6).toNat : Int), .int .u8 ((b 7).toNat : Int), .int .i64 p]) (.agg #[.int .u8 ((r' 0).toNat : Int), .int .u8 ((r' 1).toNat : Int), .int .u8 ((r' 2).toNat : Int), .int .u8 ((r' 3).toNat : Int), .int .u8 ((r' 4).toNat : Int), .int .u8 ((r' 5).toNat : Int), .int .u8 ((r' 6).toNat : Int), .int .u8 ((r' 7).toNat : Int), .int .i64 c', .int .u8 ((b' 0).toNat : Int), .int .u8 ((b' 1).toNat : Int), .int .u8 ((b' 2).toNat : Int), .int .u8 ((b' 3).toNat : Int), .int .u8 ((b' 4).toNat : Int), .int .u8 ((b' 5).toNat : Int), .int .u8 ((b' 6).toNat : Int), .int .u8 ((b' 7).toNat : Int), .int .i64 p'])).run Try.prog w = .ok (Vec.eqV [r 0, r 1, r 2, r 3, r 4, r 5, r 6, r 7] c [b 0, b 1, b 2, b 3, b 4, b 5, b 6, b 7] p [r' 0, r' 1, r' 2, r' 3, r' 4, r' 5, r' 6, r' 7] c' [b' 0, b' 1, b' 2, b' 3, b' 4, b' 5, b' 6, b' 7] p') w := by
  unfold Vec.eqV
  have m1 := run_equalIn_id d r r' w
  have m2 := run_equalIn_id d b b' w
  generalize eqB [r 0, r 1, r 2, r 3, r 4, r 5, r 6, r 7] [r' 0, r' 1, r' 2, r' 3, r' 4, r' 5, r' 6, r' 7] = e1 at m1 ⊢
  generalize eqB [b 0, b 1, b 2, b 3, b 4, b 5, b 6, b 7] [b' 0, b' 1, b' 2, b' 3, b' 4, b' 5, b' 6, b' 7] = e2 at m2 ⊢
  have k3 : (c == c') = decide (c = c') := by rw [Bool.eq_iff_iff]; simp
  have k4 : (p == p') = decide (p = p') := by rw [Bool.eq_iff_iff]; simp
  rw [k3, k4]
  by_cases h3 : c = c' <;> by_cases h4 : p = p' <;> cases e1 <;> cases e2 <;> go_simp

set_option maxHeartbeats 2000000 in
set_option maxRecDepth 20000 in
theorem vecOvers_out (r0 b0 : Nat → UInt8) (c0 p0 : Int) (r1 b1 : Nat → UInt8) (c1 p1 : Int) (cost : Int) (bb : Nat → UInt8) (pp : Int) (w : World) (h : c0 < 0 ∨ (0 ≤ c0 ∧ c1 < 0) ∨ (0 ≤ c0 ∧ 0 ≤ c1 ∧ 1073741824 < c0) ∨ (0 ≤ c0 ∧ 0 ≤ c1 ∧ c0 ≤ 1073741824 ∧ 1073741824 < c1)) :
    Calls Try.prog 6 #[.agg #[.int .u8 ((r0 0).toNat : Int), .int .u8 ((r0 1).toNat : Int), .int .u8 ((r0 2).toNat : Int), .int .u8 ((r0 3).toNat : Int), .int .u8 ((r0 4).toNat : Int), .int .u8 ((r0 5).toNat : Int), .int .u8 ((r0 6).toNat : Int), .int .u8 ((r0 7).toNat : Int), .int .i64 c0, .int .u8 ((b0 0).toNat : Int), .int .u8 ((b0 1).toNat : Int), .int .u8 ((b0 2).toNat : Int), .int .u8 ((b0 3).toNat : Int), .int .u8 ((b0 4).toNat : Int), .int .u8 ((b0 5).toNat : Int), .int .u8 ((b0 6).toNat : Int), .int .u8 ((b0 7).toNat : Int), .int .i64 p0], .agg #[.int .u8 ((r1 0).toNat : Int), .int .u8 ((r1 1).toNat : Int), .int .u8 ((r1 2).toNat : Int), .int .u8 ((r1 3).toNat : Int), .int .u8 ((r1 4).toNat : Int), .int .u8 ((r1 5).toNat : Int), .int .u8 ((r1 6).toNat : Int), .int .u8 ((r1 7).toNat : Int), .int .i64 c1, .int .u8 ((b1 0).toNat : Int), .int .u8 ((b1 1).toNat : Int), .int .u8 ((b1 2).toNat : Int), .int .u8 ((b1 3).toNat : Int), .int .u8 ((b1 4).toNat : Int), .int .u8 ((b1 5).toNat : Int), .int .u8 ((b1 6).toNat : Int), .int .u8 ((b1 7).toNat : Int), .int .i64 p1], .int .u16 cost, .agg #[.int .u8 ((bb 0).toNat : Int), .int .u8 ((bb 1).toNat : Int), .int .u8 ((bb 2).toNat : Int), .int .u8 ((bb 3).toNat : Int), .int .u8 ((bb 4).toNat : Int), .int .u8 ((bb 5).toNat : Int), .int .u8 ((bb 6).toNat : Int), .int .u8 ((bb 7).toNat : Int)], .int .i64 pp] w fun e w' => e = .returned (.bool true) ∧ Below w.heap.size w w' := by
  rcases h with h | ⟨h1, h2⟩ | ⟨h1, h2, h3⟩ | ⟨h1, h2, h3, h4⟩
  all_goals
    go_enter Try.func6, Try.ntmps6
    go_upto_region 1 with fail
    generalize hW : World.alloc _ _ = W
    have hbW : Below w.heap.size w W := by rw [← hW]; exact (((Below.refl _ _).alloc (Nat.le_refl _) _).alloc (by simp) _).alloc (by simp; omega) _
    have Q0 : Hid (RowIs W w.heap.size 29 #[.int .u8 ((r0 0).toNat : Int), .int .u8 ((r0 1).toNat : Int), .int .u8 ((r0 2).toNat : Int), .int .u8 ((r0 3).toNat : Int), .int .u8 ((r0 4).toNat : Int), .int .u8 ((r0 5).toNat : Int), .int .u8 ((r0 6).toNat : Int), .int .u8 ((r0 7).toNat : Int), .int .i64 c0, .int .u8 ((b0 0).toNat : Int), .int .u8 ((b0 1).toNat : Int), .int .u8 ((b0 2).toNat : Int), .int .u8 ((b0 3).toNat : Int), .int .u8 ((b0 4).toNat : Int), .int .u8 ((b0 5).toNat : Int), .int .u8 ((b0 6).toNat : Int), .int .u8 ((b0 7).toNat : Int), .int .i64 p0]) := by subst hW; exact ((rowIs_new w _ _).alloc _).alloc _
    have Q1 : Hid (RowIs W (w.heap.size + 1) 29 #[.int .u8 ((r1 0).toNat : Int), .int .u8 ((r1 1).toNat : Int), .int .u8 ((r1 2).toNat : Int), .int .u8 ((r1 3).toNat : Int), .int .u8 ((r1 4).toNat : Int), .int .u8 ((r1 5).toNat : Int), .int .u8 ((r1 6).toNat : Int), .int .u8 ((r1 7).toNat : Int), .int .i64 c1, .int .u8 ((b1 0).toNat : Int), .int .u8 ((b1 1).toNat : Int), .int .u8 ((b1 2).toNat : Int), .int .u8 ((b1 3).toNat : Int), .int .u8 ((b1 4).toNat : Int), .int .u8 ((b1 5).toNat : Int), .int .u8 ((b1 6).toNat : Int), .int .u8 ((b1 7).toNat : Int), .int .i64 p1]) := by subst hW; exact (rowIs_new1 w _ _ _).alloc _
    clear hW
    have k0 := Q0.out.cell 8
    have k1 := Q1.out.cell 8
    simp at k0 k1
    go_wp2_with fail
    refine (awake_any _).mono ?_
    rintro e w' ⟨rfl, rfl⟩
    go_wp2_with fail
    refine (awake_any _).mono ?_
    rintro e w' ⟨rfl, rfl⟩
    go_wp2_with fail
    go_ret
    exact ⟨rfl, hbW⟩

set_option maxHeartbeats 2000000 in
set_option maxRecDepth 20000 in
theorem vecOvers_in (r0 b0 : Nat → UInt8) (c0 p0 : Int) (r1 b1 : Nat → UInt8) (c1 p1 : Int) (cost : Int) (bb : Nat → UInt8) (pp : Int) (w : World) (hk : 0 ≤ cost ∧ cost ≤ 65535) (h0 : 0 ≤ c0 ∧ c0 ≤ 1073741824) (h1 : 0 ≤ c1 ∧ c1 ≤ 1073741824) :
    Calls Try.prog 6 #[.agg #[.int .u8 ((r0 0).toNat : Int), .int .u8 ((r0 1).toNat : Int), .int .u8 ((r0 2).toNat : Int), .int .u8 ((r0 3).toNat : Int), .int .u8 ((r0 4).toNat : Int), .int .u8 ((r0 5).toNat : Int), .int .u8 ((r0 6).toNat : Int), .int .u8 ((r0 7).toNat : Int), .int .i64 c0, .int .u8 ((b0 0).toNat : Int), .int .u8 ((b0 1).toNat : Int), .int .u8 ((b0 2).toNat : Int), .int .u8 ((b0 3).toNat : Int), .int .u8 ((b0 4).toNat : Int), .int .u8 ((b0 5).toNat : Int), .int .u8 ((b0 6).toNat : Int), .int .u8 ((b0 7).toNat : Int), .int .i64 p0], .agg #[.int .u8 ((r1 0).toNat : Int), .int .u8 ((r1 1).toNat : Int), .int .u8 ((r1 2).toNat : Int), .int .u8 ((r1 3).toNat : Int), .int .u8 ((r1 4).toNat : Int), .int .u8 ((r1 5).toNat : Int), .int .u8 ((r1 6).toNat : Int), .int .u8 ((r1 7).toNat : Int), .int .i64 c1, .int .u8 ((b1 0).toNat : Int), .int .u8 ((b1 1).toNat : Int), .int .u8 ((b1 2).toNat : Int), .int .u8 ((b1 3).toNat : Int), .int .u8 ((b1 4).toNat : Int), .int .u8 ((b1 5).toNat : Int), .int .u8 ((b1 6).toNat : Int), .int .u8 ((b1 7).toNat : Int), .int .i64 p1], .int .u16 cost, .agg #[.int .u8 ((bb 0).toNat : Int), .int .u8 ((bb 1).toNat : Int), .int .u8 ((bb 2).toNat : Int), .int .u8 ((bb 3).toNat : Int), .int .u8 ((bb 4).toNat : Int), .int .u8 ((bb 5).toNat : Int), .int .u8 ((bb 6).toNat : Int), .int .u8 ((bb 7).toNat : Int)], .int .i64 pp] w fun e w' => e = .returned (.bool true) ∧ Below w.heap.size w w' := by
  have O0 := fun w => over_any r0 b0 bb c0 p0 cost pp w
  have O1 := fun w => over_any r1 b1 bb c1 p1 cost pp w
  rw [Vec.held_id c0 (by omega) (by omega), Vec.held_id cost (by omega) (by omega)] at O0
  rw [Vec.held_id c1 (by omega) (by omega), Vec.held_id cost (by omega) (by omega)] at O1
  have O0 := Lib.hid O0
  have O1 := Lib.hid O1
  have CX := fun w => better_any r0 bb r1 bb (c0 + cost) pp (c1 + cost) pp w
  have CA := fun w => better_any r0 b0 r1 b1 c0 p0 c1 p1 w
  have EX := fun w => run_equalIn_pvec 9997 r0 bb r1 bb (c0 + cost) pp (c1 + cost) pp w
  have ER := fun w => run_equalIn_id8 9998 r0 r1 w
  have EB := fun w => run_equalIn_id 9998 bb bb w
  have hBB : eqB [bb 0, bb 1, bb 2, bb 3, bb 4, bb 5, bb 6, bb 7] [bb 0, bb 1, bb 2, bb 3, bb 4, bb 5, bb 6, bb 7] = true := eqB_true.2 rfl
  rw [hBB] at EB
  clear hBB
  have key : (eqB [r0 0, r0 1, r0 2, r0 3, r0 4, r0 5, r0 6, r0 7] [r1 0, r1 1, r1 2, r1 3, r1 4, r1 5, r1 6, r1 7] = true ∧ c0 = c1 ∧ Vec.eqV [r0 0, r0 1, r0 2, r0 3, r0 4, r0 5, r0 6, r0 7] (c0 + cost) [bb 0, bb 1, bb 2, bb 3, bb 4, bb 5, bb 6, bb 7] pp [r1 0, r1 1, r1 2, r1 3, r1 4, r1 5, r1 6, r1 7] (c1 + cost) [bb 0, bb 1, bb 2, bb 3, bb 4, bb 5, bb 6, bb 7] pp = true) ∨ ((eqB [r0 0, r0 1, r0 2, r0 3, r0 4, r0 5, r0 6, r0 7] [r1 0, r1 1, r1 2, r1 3, r1 4, r1 5, r1 6, r1 7] = false ∨ (eqB [r0 0, r0 1, r0 2, r0 3, r0 4, r0 5, r0 6, r0 7] [r1 0, r1 1, r1 2, r1 3, r1 4, r1 5, r1 6, r1 7] = true ∧ ¬ c0 = c1)) ∧ Vec.better [r0 0, r0 1, r0 2, r0 3, r0 4, r0 5, r0 6, r0 7] (c0 + cost) [bb 0, bb 1, bb 2, bb 3, bb 4, bb 5, bb 6, bb 7] pp [r1 0, r1 1, r1 2, r1 3, r1 4, r1 5, r1 6, r1 7] (c1 + cost) [bb 0, bb 1, bb 2, bb 3, bb 4, bb 5, bb 6, bb 7] pp = Vec.better [r0 0, r0 1, r0 2, r0 3, r0 4, r0 5, r0 6, r0 7] c0 [b0 0, b0 1, b0 2, b0 3, b0 4, b0 5, b0 6, b0 7] p0 [r1 0, r1 1, r1 2, r1 3, r1 4, r1 5, r1 6, r1 7] c1 [b1 0, b1 1, b1 2, b1 3, b1 4, b1 5, b1 6, b1 7] p1) := by
    by_cases q : [r0 0, r0 1, r0 2, r0 3, r0 4, r0 5, r0 6, r0 7] = [r1 0, r1 1, r1 2, r1 3, r1 4, r1 5, r1 6, r1 7]
    · by_cases q2 : c0 = c1
      · exact .inl ⟨eqB_true.2 q, q2, (Vec.eqV_iff ..).2 ⟨q, by rw [q2], rfl, rfl⟩⟩
      · exact .inr ⟨.inr ⟨eqB_true.2 q, q2⟩, Vec.overs _ _ _ _ _ _ _ _ _ _ _ fun h => q2 h.2⟩
    · exact .inr ⟨.inl (eqB_false.2 q), Vec.overs _ _ _ _ _ _ _ _ _ _ _ fun h => q h.1⟩
  generalize Vec.eqV [r0 0, r0 1, r0 2, r0 3, r0 4, r0 5, r0 6, r0 7] (c0 + cost) [bb 0, bb 1, bb 2, bb 3, bb 4, bb 5, bb 6, bb 7] pp [r1 0, r1 1, r1 2, r1 3, r1 4, r1 5, r1 6, r1 7] (c1 + cost) [bb 0, bb 1, bb 2, bb 3, bb 4, bb 5, bb 6, bb 7] pp = ex at key EX
  generalize Vec.better [r0 0, r0 1, r0 2, r0 3, r0 4, r0 5, r0 6, r0 7] (c0 + cost) [bb 0, bb 1, bb 2, bb 3, bb 4, bb 5, bb 6, bb 7] pp [r1 0, r1 1, r1 2, r1 3, r1 4, r1 5, r1 6, r1 7] (c1 + cost) [bb 0, bb 1, bb 2, bb 3, bb 4, bb 5, bb 6, bb 7] pp = bx at key CX
  generalize Vec.better [r0 0, r0 1, r0 2, r0 3, r0 4, r0 5, r0 6, r0 7] c0 [b0 0, b0 1, b0 2, b0 3, b0 4, b0 5, b0 6, b0 7] p0 [r1 0, r1 1, r1 2, r1 3, r1 4, r1 5, r1 6, r1 7] c1 [b1 0, b1 1, b1 2, b1 3, b1 4, b1 5, b1 6, b1 7] p1 = ba at key CA
  generalize eqB [r0 0, r0 1, r0 2, r0 3, r0 4, r0 5, r0 6, r0 7] [r1 0, r1 1, r1 2, r1 3, r1 4, r1 5, r1 6, r1 7] = er at key ER
  have CX := Lib.hid CX
  have CA := Lib.hid CA
  have EX := Lib.hid EX
  have ER := Lib.hid ER
  have EB := Lib.hid EB
  have key := Lib.hid key
  go_enter Try.func6, Try.ntmps6
  go_upto_region 1 with fail
  generalize hW : World.alloc _ _ = W
  have hbW : Below w.heap.size w W := by rw [← hW]; exact (((Below.refl _ _).alloc (Nat.le_refl _) _).alloc (by simp) _).alloc (by simp; omega) _
  have Q0 : Hid (RowIs W w.heap.size 29 #[.int .u8 ((r0 0).toNat : Int), .int .u8 ((r0 1).toNat : Int), .int .u8 ((r0 2).toNat : Int), .int .u8 ((r0 3).toNat : Int), .int .u8 ((r0 4).toNat : Int), .int .u8 ((r0 5).toNat : Int), .int .u8 ((r0 6).toNat : Int), .int .u8 ((r0 7).toNat : Int), .int .i64 c0, .int .u8 ((b0 0).toNat : Int), .int .u8 ((b0 1).toNat : Int), .int .u8 ((b0 2).toNat : Int), .int .u8 ((b0 3).toNat : Int), .int .u8 ((b0 4).toNat : Int), .int .u8 ((b0 5).toNat : Int), .int .u8 ((b0 6).toNat : Int), .int .u8 ((b0 7).toNat : Int), .int .i64 p0]) := by subst hW; exact ((rowIs_new w _ _).alloc _).alloc _
  have Q1 : Hid (RowIs W (w.heap.size + 1) 29 #[.int .u8 ((r1 0).toNat : Int), .int .u8 ((r1 1).toNat : Int), .int .u8 ((r1 2).toNat : Int), .int .u8 ((r1 3).toNat : Int), .int .u8 ((r1 4).toNat : Int), .int .u8 ((r1 5).toNat : Int), .int .u8 ((r1 6).toNat : Int), .int .u8 ((r1 7).toNat : Int), .int .i64 c1, .int .u8 ((b1 0).toNat : Int), .int .u8 ((b1 1).toNat : Int), .int .u8 ((b1 2).toNat : Int), .int .u8 ((b1 3).toNat : Int), .int .u8 ((b1 4).toNat : Int), .int .u8 ((b1 5).toNat : Int), .int .u8 ((b1 6).toNat : Int), .int .u8 ((b1 7).toNat : Int), .int .i64 p1]) := by subst hW; exact (rowIs_new1 w _ _ _).alloc _
  have Q2 : Hid (RowIs W (w.heap.size + 2) 30 #[.int .u8 ((bb 0).toNat : Int), .int .u8 ((bb 1).toNat : Int), .int .u8 ((bb 2).toNat : Int), .int .u8 ((bb 3).toNat : Int), .int .u8 ((bb 4).toNat : Int), .int .u8 ((bb 5).toNat : Int), .int .u8 ((bb 6).toNat : Int), .int .u8 ((bb 7).toNat : Int)]) := by subst hW; exact rowIs_new2 w _ _ _ _
  clear hW
  have k0 := Q0.out.cell 8
  have k1 := Q1.out.cell 8
  simp at k0 k1
  go_wp2_with fail
  refine (awake_any _).mono ?_
  rintro e w' ⟨rfl, rfl⟩
  go_upto_region 3 with fail
  clear k0 k1
  have hw1 := IntWalk.i64_in cost (by omega)
  have hw2 := IntWalk.i64_in (c0 + cost) (by omega)
  refine wp_region_mixA bel_ok 16 (by kernel_rfl) (by kernel_rfl) (by kernel_rfl) ?_
  refine mix_exact (.agg #[.int .u8 ((r0 0).toNat : Int), .int .u8 ((r0 1).toNat : Int), .int .u8 ((r0 2).toNat : Int), .int .u8 ((r0 3).toNat : Int), .int .u8 ((r0 4).toNat : Int), .int .u8 ((r0 5).toNat : Int), .int .u8 ((r0 6).toNat : Int), .int .u8 ((r0 7).toNat : Int), .int .i64 c0, .int .u8 ((b0 0).toNat : Int), .int .u8 ((b0 1).toNat : Int), .int .u8 ((b0 2).toNat : Int), .int .u8 ((b0 3).toNat : Int), .int .u8 ((b0 4).toNat : Int), .int .u8 ((b0 5).toNat : Int), .int .u8 ((b0 6).toNat : Int), .int .u8 ((b0 7).toNat : Int), .int .i64 p0]) rfl (exact_load_row rfl rfl (by simp) Q0.out Try.underlying29 rfl (by kernel_rfl)) ?_
  (refine mix_step (by kernel_rfl) (by kernel_rfl) (fun K hK => ?_); go_simp; (try (simp only [↓IntWalk.iteOmega]; go_simp)); (first | (refine hK _ ?_; clear hK K) | (apply Exists.intro; refine ⟨fun _ => ?_, hK _ ?_⟩; (first | exact vof_any _ _ _ _ _); clear hK K)))
  (refine mix_step (by kernel_rfl) (by kernel_rfl) (fun K hK => ?_); go_simp; (try (simp only [↓IntWalk.iteOmega]; go_simp)); (first | (refine hK _ ?_; clear hK K) | (apply Exists.intro; refine ⟨fun _ => ?_, hK _ ?_⟩; (first | fail); clear hK K)))
  (refine mix_step (by kernel_rfl) (by kernel_rfl) (fun K hK => ?_); go_simp; (try (simp only [↓IntWalk.iteOmega]; go_simp)); (first | (refine hK _ ?_; clear hK K) | (apply Exists.intro; refine ⟨fun _ => ?_, hK _ ?_⟩; (first | fail); clear hK K)))
  refine mix_exact (.agg #[.int .u8 ((bb 0).toNat : Int), .int .u8 ((bb 1).toNat : Int), .int .u8 ((bb 2).toNat : Int), .int .u8 ((bb 3).toNat : Int), .int .u8 ((bb 4).toNat : Int), .int .u8 ((bb 5).toNat : Int), .int .u8 ((bb 6).toNat : Int), .int .u8 ((bb 7).toNat : Int)]) rfl (exact_load_row rfl rfl (by simp) Q2.out Try.underlying30 rfl (by kernel_rfl)) ?_
  (refine mix_step (by kernel_rfl) (by kernel_rfl) (fun K hK => ?_); go_simp; (try (simp only [↓IntWalk.iteOmega]; go_simp)); (first | (refine hK _ ?_; clear hK K) | (apply Exists.intro; refine ⟨fun _ => ?_, hK _ ?_⟩; (first | fail); clear hK K)))
  (refine mix_step (by kernel_rfl) (by kernel_rfl) (fun K hK => ?_); go_simp; (try (simp only [↓IntWalk.iteOmega]; go_simp)); (first | (refine hK _ ?_; clear hK K) | (apply Exists.intro; refine ⟨fun _ => ?_, hK _ ?_⟩; (first | exact O0.out _); clear hK K)))
  refine mix_exact (.agg #[.int .u8 ((r1 0).toNat : Int), .int .u8 ((r1 1).toNat : Int), .int .u8 ((r1 2).toNat : Int), .int .u8 ((r1 3).toNat : Int), .int .u8 ((r1 4).toNat : Int), .int .u8 ((r1 5).toNat : Int), .int .u8 ((r1 6).toNat : Int), .int .u8 ((r1 7).toNat : Int), .int .i64 c1, .int .u8 ((b1 0).toNat : Int), .int .u8 ((b1 1).toNat : Int), .int .u8 ((b1 2).toNat : Int), .int .u8 ((b1 3).toNat : Int), .int .u8 ((b1 4).toNat : Int), .int .u8 ((b1 5).toNat : Int), .int .u8 ((b1 6).toNat : Int), .int .u8 ((b1 7).toNat : Int), .int .i64 p1]) rfl (exact_load_row rfl rfl (by simp) Q1.out Try.underlying29 rfl (by kernel_rfl)) ?_
  (refine mix_step (by kernel_rfl) (by kernel_rfl) (fun K hK => ?_); go_simp; (try (simp only [↓IntWalk.iteOmega]; go_simp)); (first | (refine hK _ ?_; clear hK K) | (apply Exists.intro; refine ⟨fun _ => ?_, hK _ ?_⟩; (first | exact vof_any _ _ _ _ _); clear hK K)))
  (refine mix_step (by kernel_rfl) (by kernel_rfl) (fun K hK => ?_); go_simp; (try (simp only [↓IntWalk.iteOmega]; go_simp)); (first | (refine hK _ ?_; clear hK K) | (apply Exists.intro; refine ⟨fun _ => ?_, hK _ ?_⟩; (first | fail); clear hK K)))
  (refine mix_step (by kernel_rfl) (by kernel_rfl) (fun K hK => ?_); go_simp; (try (simp only [↓IntWalk.iteOmega]; go_simp)); (first | (refine hK _ ?_; clear hK K) | (apply Exists.intro; refine ⟨fun _ => ?_, hK _ ?_⟩; (first | fail); clear hK K)))
  refine mix_exact (.agg #[.int .u8 ((bb 0).toNat : Int), .int .u8 ((bb 1).toNat : Int), .int .u8 ((bb 2).toNat : Int), .int .u8 ((bb 3).toNat : Int), .int .u8 ((bb 4).toNat : Int), .int .u8 ((bb 5).toNat : Int), .int .u8 ((bb 6).toNat : Int), .int .u8 ((bb 7).toNat : Int)]) rfl (exact_load_row rfl rfl (by simp) Q2.out Try.underlying30 rfl (by kernel_rfl)) ?_
  (refine mix_step (by kernel_rfl) (by kernel_rfl) (fun K hK => ?_); go_simp; (try (simp only [↓IntWalk.iteOmega]; go_simp)); (first | (refine hK _ ?_; clear hK K) | (apply Exists.intro; refine ⟨fun _ => ?_, hK _ ?_⟩; (first | fail); clear hK K)))
  (refine mix_step (by kernel_rfl) (by kernel_rfl) (fun K hK => ?_); go_simp; (try (simp only [↓IntWalk.iteOmega]; go_simp)); (first | (refine hK _ ?_; clear hK K) | (apply Exists.intro; refine ⟨fun _ => ?_, hK _ ?_⟩; (first | exact O1.out _); clear hK K)))
  refine mix_special _ 11 rfl rfl (stable_new _ _ _) (owes_alloc (cs := #[.int .u8 0, .int .u8 0, .int .u8 0, .int .u8 0, .int .u8 0, .int .u8 0, .int .u8 0, .int .u8 0, .int .i64 0, .int .u8 0, .int .u8 0, .int .u8 0, .int .u8 0, .int .u8 0, .int .u8 0, .int .u8 0, .int .u8 0, .int .i64 0]) rfl (by kernel_rfl)) ?_
  refine mix_special _ 12 rfl rfl (stable_new _ _ _) (owes_alloc (cs := #[.int .u8 0, .int .u8 0, .int .u8 0, .int .u8 0, .int .u8 0, .int .u8 0, .int .u8 0, .int .u8 0, .int .i64 0, .int .u8 0, .int .u8 0, .int .u8 0, .int .u8 0, .int .u8 0, .int .u8 0, .int .u8 0, .int .u8 0, .int .i64 0]) rfl (by kernel_rfl)) ?_
  refine mix_nil ?_
  rintro ⟨dq, osq⟩ u7 ⟨g7, rfl, hg7, r7⟩ u8 ⟨g8, rfl, hg8, r8⟩ hap
  have n78 : g7 ≠ g8 := by
    have h := hap 14 15 11 12 (by decide) (by decide) (by decide) rfl rfl rfl rfl
    intro e; subst e; exact h rfl
  clear hap
  have hb1 := below_regrown W dq osq
  have hlt := Q2.out.lt
  have Q0 := Q0.out.kept hb1
  have Q1 := Q1.out.kept hb1
  have Q2 := Q2.out.kept hb1
  have hbW := hbW.trans (hb1.mono hbW.size)
  clear hb1
  generalize grow (redrawn W dq) osq = W9 at *
  refine (show wpList _ _ _ _ _ _ from ?_)
  simp only [List.drop, Act.put, List.setIfInBounds_toArray, List.set]
  refine at_store 32 (.tmp 11) (.tmp 42) ?_
  refine wpList_store_own rfl _ _ _ rfl g7 _ rfl rfl _ _ r7 (by kernel_rfl) rfl (by kernel_rfl) w.heap.size (by omega) ?_
  intro wa r7 hka _ hb
  have r8 : RowIs wa g8 32 #[.int .u8 0, .int .u8 0, .int .u8 0, .int .u8 0, .int .u8 0, .int .u8 0, .int .u8 0, .int .u8 0, .int .i64 0, .int .u8 0, .int .u8 0, .int .u8 0, .int .u8 0, .int .u8 0, .int .u8 0, .int .u8 0, .int .u8 0, .int .i64 0] := (hka g8 (by omega)).trans r8
  have Q0 : RowIs wa w.heap.size 29 #[.int .u8 ((r0 0).toNat : Int), .int .u8 ((r0 1).toNat : Int), .int .u8 ((r0 2).toNat : Int), .int .u8 ((r0 3).toNat : Int), .int .u8 ((r0 4).toNat : Int), .int .u8 ((r0 5).toNat : Int), .int .u8 ((r0 6).toNat : Int), .int .u8 ((r0 7).toNat : Int), .int .i64 c0, .int .u8 ((b0 0).toNat : Int), .int .u8 ((b0 1).toNat : Int), .int .u8 ((b0 2).toNat : Int), .int .u8 ((b0 3).toNat : Int), .int .u8 ((b0 4).toNat : Int), .int .u8 ((b0 5).toNat : Int), .int .u8 ((b0 6).toNat : Int), .int .u8 ((b0 7).toNat : Int), .int .i64 p0] := (hka _ (by omega)).trans Q0
  have Q1 : RowIs wa (w.heap.size + 1) 29 #[.int .u8 ((r1 0).toNat : Int), .int .u8 ((r1 1).toNat : Int), .int .u8 ((r1 2).toNat : Int), .int .u8 ((r1 3).toNat : Int), .int .u8 ((r1 4).toNat : Int), .int .u8 ((r1 5).toNat : Int), .int .u8 ((r1 6).toNat : Int), .int .u8 ((r1 7).toNat : Int), .int .i64 c1, .int .u8 ((b1 0).toNat : Int), .int .u8 ((b1 1).toNat : Int), .int .u8 ((b1 2).toNat : Int), .int .u8 ((b1 3).toNat : Int), .int .u8 ((b1 4).toNat : Int), .int .u8 ((b1 5).toNat : Int), .int .u8 ((b1 6).toNat : Int), .int .u8 ((b1 7).toNat : Int), .int .i64 p1] := (hka _ (by omega)).trans Q1
  have Q2 : RowIs wa (w.heap.size + 2) 30 #[.int .u8 ((bb 0).toNat : Int), .int .u8 ((bb 1).toNat : Int), .int .u8 ((bb 2).toNat : Int), .int .u8 ((bb 3).toNat : Int), .int .u8 ((bb 4).toNat : Int), .int .u8 ((bb 5).toNat : Int), .int .u8 ((bb 6).toNat : Int), .int .u8 ((bb 7).toNat : Int)] := (hka _ (by omega)).trans Q2
  have hbW := hbW.trans hb
  clear hb hka
  simp only [Act.put, List.setIfInBounds_toArray, List.set]
  refine at_store 32 (.tmp 12) (.tmp 49) ?_
  refine wpList_store_own rfl _ _ _ rfl g8 _ rfl rfl _ _ r8 (by kernel_rfl) rfl (by kernel_rfl) w.heap.size (by omega) ?_
  intro wc r8 hka _ hb
  have R7 : Hid (RowIs wc g7 32 #[.int .u8 ((r0 0).toNat : Int), .int .u8 ((r0 1).toNat : Int), .int .u8 ((r0 2).toNat : Int), .int .u8 ((r0 3).toNat : Int), .int .u8 ((r0 4).toNat : Int), .int .u8 ((r0 5).toNat : Int), .int .u8 ((r0 6).toNat : Int), .int .u8 ((r0 7).toNat : Int), .int .i64 (c0 + cost), .int .u8 ((bb 0).toNat : Int), .int .u8 ((bb 1).toNat : Int), .int .u8 ((bb 2).toNat : Int), .int .u8 ((bb 3).toNat : Int), .int .u8 ((bb 4).toNat : Int), .int .u8 ((bb 5).toNat : Int), .int .u8 ((bb 6).toNat : Int), .int .u8 ((bb 7).toNat : Int), .int .i64 pp]) := (hka g7 (by omega)).trans r7
  have R8 : Hid (RowIs wc g8 32 #[.int .u8 ((r1 0).toNat : Int), .int .u8 ((r1 1).toNat : Int), .int .u8 ((r1 2).toNat : Int), .int .u8 ((r1 3).toNat : Int), .int .u8 ((r1 4).toNat : Int), .int .u8 ((r1 5).toNat : Int), .int .u8 ((r1 6).toNat : Int), .int .u8 ((r1 7).toNat : Int), .int .i64 (c1 + cost), .int .u8 ((bb 0).toNat : Int), .int .u8 ((bb 1).toNat : Int), .int .u8 ((bb 2).toNat : Int), .int .u8 ((bb 3).toNat : Int), .int .u8 ((bb 4).toNat : Int), .int .u8 ((bb 5).toNat : Int), .int .u8 ((bb 6).toNat : Int), .int .u8 ((bb 7).toNat : Int), .int .i64 pp]) := r8
  have R3 : Hid (RowIs wc w.heap.size 29 #[.int .u8 ((r0 0).toNat : Int), .int .u8 ((r0 1).toNat : Int), .int .u8 ((r0 2).toNat : Int), .int .u8 ((r0 3).toNat : Int), .int .u8 ((r0 4).toNat : Int), .int .u8 ((r0 5).toNat : Int), .int .u8 ((r0 6).toNat : Int), .int .u8 ((r0 7).toNat : Int), .int .i64 c0, .int .u8 ((b0 0).toNat : Int), .int .u8 ((b0 1).toNat : Int), .int .u8 ((b0 2).toNat : Int), .int .u8 ((b0 3).toNat : Int), .int .u8 ((b0 4).toNat : Int), .int .u8 ((b0 5).toNat : Int), .int .u8 ((b0 6).toNat : Int), .int .u8 ((b0 7).toNat : Int), .int .i64 p0]) := (hka _ (by omega)).trans Q0
  have R4 : Hid (RowIs wc (w.heap.size + 1) 29 #[.int .u8 ((r1 0).toNat : Int), .int .u8 ((r1 1).toNat : Int), .int .u8 ((r1 2).toNat : Int), .int .u8 ((r1 3).toNat : Int), .int .u8 ((r1 4).toNat : Int), .int .u8 ((r1 5).toNat : Int), .int .u8 ((r1 6).toNat : Int), .int .u8 ((r1 7).toNat : Int), .int .i64 c1, .int .u8 ((b1 0).toNat : Int), .int .u8 ((b1 1).toNat : Int), .int .u8 ((b1 2).toNat : Int), .int .u8 ((b1 3).toNat : Int), .int .u8 ((b1 4).toNat : Int), .int .u8 ((b1 5).toNat : Int), .int .u8 ((b1 6).toNat : Int), .int .u8 ((b1 7).toNat : Int), .int .i64 p1]) := (hka _ (by omega)).trans Q1
  have R5 : Hid (RowIs wc (w.heap.size + 2) 30 #[.int .u8 ((bb 0).toNat : Int), .int .u8 ((bb 1).toNat : Int), .int .u8 ((bb 2).toNat : Int), .int .u8 ((bb 3).toNat : Int), .int .u8 ((bb 4).toNat : Int), .int .u8 ((bb 5).toNat : Int), .int .u8 ((bb 6).toNat : Int), .int .u8 ((bb 7).toNat : Int)]) := (hka _ (by omega)).trans Q2
  have hbW := hbW.trans hb
  clear hb hka Q0 Q1 Q2 r7 r8 n78 hlt hg7 hg8
  have ER := ER.out
  have EX := EX.out
  have EB := EB.out
  have k3 := R3.out.cell 8
  have k4 := R4.out.cell 8
  simp at k3 k4
  rcases key.out with ⟨rfl, rfl, rfl⟩ | ⟨rfl | ⟨rfl, hcc⟩, rfl⟩
  · go_wp2_with (first | ((with_reducible refine at_load 27 (.tmp 50) ?_); refine wpList_load_mid rfl 27 (.tmp 50) rfl (w.heap.size) 0 rfl [.int .u8 ((r0 0).toNat : Int), .int .u8 ((r0 1).toNat : Int), .int .u8 ((r0 2).toNat : Int), .int .u8 ((r0 3).toNat : Int), .int .u8 ((r0 4).toNat : Int), .int .u8 ((r0 5).toNat : Int), .int .u8 ((r0 6).toNat : Int), .int .u8 ((r0 7).toNat : Int)] _ (range_of_row R3.out rfl) Try.underlying27 rfl (by kernel_rfl) ?_) | ((with_reducible refine at_load 27 (.tmp 52) ?_); refine wpList_load_mid rfl 27 (.tmp 52) rfl (w.heap.size + 1) 0 rfl [.int .u8 ((r1 0).toNat : Int), .int .u8 ((r1 1).toNat : Int), .int .u8 ((r1 2).toNat : Int), .int .u8 ((r1 3).toNat : Int), .int .u8 ((r1 4).toNat : Int), .int .u8 ((r1 5).toNat : Int), .int .u8 ((r1 6).toNat : Int), .int .u8 ((r1 7).toNat : Int)] _ (range_of_row R4.out rfl) Try.underlying27 rfl (by kernel_rfl) ?_) | ((with_reducible refine at_load 32 (.tmp 11) ?_); refine wpList_load_own rfl 32 (.tmp 11) rfl g7 rfl _ _ _ R7.out Try.underlying32 rfl (by kernel_rfl) ?_) | ((with_reducible refine at_load 32 (.tmp 12) ?_); refine wpList_load_own rfl 32 (.tmp 12) rfl g8 rfl _ _ _ R8.out Try.underlying32 rfl (by kernel_rfl) ?_))
    go_ret
    exact ⟨rfl, hbW⟩
  all_goals
    clear EX
    go_upto_region 6 with (first | ((with_reducible refine at_load 27 (.tmp 50) ?_); refine wpList_load_mid rfl 27 (.tmp 50) rfl (w.heap.size) 0 rfl [.int .u8 ((r0 0).toNat : Int), .int .u8 ((r0 1).toNat : Int), .int .u8 ((r0 2).toNat : Int), .int .u8 ((r0 3).toNat : Int), .int .u8 ((r0 4).toNat : Int), .int .u8 ((r0 5).toNat : Int), .int .u8 ((r0 6).toNat : Int), .int .u8 ((r0 7).toNat : Int)] _ (range_of_row R3.out rfl) Try.underlying27 rfl (by kernel_rfl) ?_) | ((with_reducible refine at_load 27 (.tmp 52) ?_); refine wpList_load_mid rfl 27 (.tmp 52) rfl (w.heap.size + 1) 0 rfl [.int .u8 ((r1 0).toNat : Int), .int .u8 ((r1 1).toNat : Int), .int .u8 ((r1 2).toNat : Int), .int .u8 ((r1 3).toNat : Int), .int .u8 ((r1 4).toNat : Int), .int .u8 ((r1 5).toNat : Int), .int .u8 ((r1 6).toNat : Int), .int .u8 ((r1 7).toNat : Int)] _ (range_of_row R4.out rfl) Try.underlying27 rfl (by kernel_rfl) ?_) | ((with_reducible refine at_load 32 (.tmp 11) ?_); refine wpList_load_own rfl 32 (.tmp 11) rfl g7 rfl _ _ _ R7.out Try.underlying32 rfl (by kernel_rfl) ?_) | ((with_reducible refine at_load 32 (.tmp 12) ?_); refine wpList_load_own rfl 32 (.tmp 12) rfl g8 rfl _ _ _ R8.out Try.underlying32 rfl (by kernel_rfl) ?_))
    clear k3 k4
    have CX := CX.out
    have CA := CA.out
    have k7 := fun (q : Regrown) => cell_regrown (R7.out.cell 8) q.d q.os
    have k8 := fun (q : Regrown) => cell_regrown (R7.out.cell 17) q.d q.os
    have k9 := fun (q : Regrown) => cell_regrown (R3.out.cell 8) q.d q.os
    simp at k7 k8 k9
    refine wp_region_mix 32 (by kernel_rfl) (by kernel_rfl) (by kernel_rfl) ?_
    refine mix_exact (.agg #[.int .u8 ((r0 0).toNat : Int), .int .u8 ((r0 1).toNat : Int), .int .u8 ((r0 2).toNat : Int), .int .u8 ((r0 3).toNat : Int), .int .u8 ((r0 4).toNat : Int), .int .u8 ((r0 5).toNat : Int), .int .u8 ((r0 6).toNat : Int), .int .u8 ((r0 7).toNat : Int), .int .i64 (c0 + cost), .int .u8 ((bb 0).toNat : Int), .int .u8 ((bb 1).toNat : Int), .int .u8 ((bb 2).toNat : Int), .int .u8 ((bb 3).toNat : Int), .int .u8 ((bb 4).toNat : Int), .int .u8 ((bb 5).toNat : Int), .int .u8 ((bb 6).toNat : Int), .int .u8 ((bb 7).toNat : Int), .int .i64 pp]) rfl (exact_load_row rfl rfl (by simp) R7.out Try.underlying32 rfl (by kernel_rfl)) ?_
    refine mix_exact (.agg #[.int .u8 ((r1 0).toNat : Int), .int .u8 ((r1 1).toNat : Int), .int .u8 ((r1 2).toNat : Int), .int .u8 ((r1 3).toNat : Int), .int .u8 ((r1 4).toNat : Int), .int .u8 ((r1 5).toNat : Int), .int .u8 ((r1 6).toNat : Int), .int .u8 ((r1 7).toNat : Int), .int .i64 (c1 + cost), .int .u8 ((bb 0).toNat : Int), .int .u8 ((bb 1).toNat : Int), .int .u8 ((bb 2).toNat : Int), .int .u8 ((bb 3).toNat : Int), .int .u8 ((bb 4).toNat : Int), .int .u8 ((bb 5).toNat : Int), .int .u8 ((bb 6).toNat : Int), .int .u8 ((bb 7).toNat : Int), .int .i64 pp]) rfl (exact_load_row rfl rfl (by simp) R8.out Try.underlying32 rfl (by kernel_rfl)) ?_
    (refine mix_step (by kernel_rfl) (by kernel_rfl) (fun K hK => ?_); go_simp; (try (simp only [↓IntWalk.iteOmega]; go_simp)); (first | (refine hK _ ?_; clear hK K) | (apply Exists.intro; refine ⟨fun _ => ?_, hK _ ?_⟩; (first | exact CX _); clear hK K)))
    refine mix_exact (.agg #[.int .u8 ((r0 0).toNat : Int), .int .u8 ((r0 1).toNat : Int), .int .u8 ((r0 2).toNat : Int), .int .u8 ((r0 3).toNat : Int), .int .u8 ((r0 4).toNat : Int), .int .u8 ((r0 5).toNat : Int), .int .u8 ((r0 6).toNat : Int), .int .u8 ((r0 7).toNat : Int), .int .i64 c0, .int .u8 ((b0 0).toNat : Int), .int .u8 ((b0 1).toNat : Int), .int .u8 ((b0 2).toNat : Int), .int .u8 ((b0 3).toNat : Int), .int .u8 ((b0 4).toNat : Int), .int .u8 ((b0 5).toNat : Int), .int .u8 ((b0 6).toNat : Int), .int .u8 ((b0 7).toNat : Int), .int .i64 p0]) rfl (exact_load_row rfl rfl (by simp) R3.out Try.underlying29 rfl (by kernel_rfl)) ?_
    (refine mix_step (by kernel_rfl) (by kernel_rfl) (fun K hK => ?_); go_simp; (try (simp only [↓IntWalk.iteOmega]; go_simp)); (first | (refine hK _ ?_; clear hK K) | (apply Exists.intro; refine ⟨fun _ => ?_, hK _ ?_⟩; (first | exact vof_any _ _ _ _ _); clear hK K)))
    refine mix_exact (.agg #[.int .u8 ((r1 0).toNat : Int), .int .u8 ((r1 1).toNat : Int), .int .u8 ((r1 2).toNat : Int), .int .u8 ((r1 3).toNat : Int), .int .u8 ((r1 4).toNat : Int), .int .u8 ((r1 5).toNat : Int), .int .u8 ((r1 6).toNat : Int), .int .u8 ((r1 7).toNat : Int), .int .i64 c1, .int .u8 ((b1 0).toNat : Int), .int .u8 ((b1 1).toNat : Int), .int .u8 ((b1 2).toNat : Int), .int .u8 ((b1 3).toNat : Int), .int .u8 ((b1 4).toNat : Int), .int .u8 ((b1 5).toNat : Int), .int .u8 ((b1 6).toNat : Int), .int .u8 ((b1 7).toNat : Int), .int .i64 p1]) rfl (exact_load_row rfl rfl (by simp) R4.out Try.underlying29 rfl (by kernel_rfl)) ?_
    (refine mix_step (by kernel_rfl) (by kernel_rfl) (fun K hK => ?_); go_simp; (try (simp only [↓IntWalk.iteOmega]; go_simp)); (first | (refine hK _ ?_; clear hK K) | (apply Exists.intro; refine ⟨fun _ => ?_, hK _ ?_⟩; (first | exact vof_any _ _ _ _ _); clear hK K)))
    (refine mix_step (by kernel_rfl) (by kernel_rfl) (fun K hK => ?_); go_simp; (try (simp only [↓IntWalk.iteOmega]; go_simp)); (first | (refine hK _ ?_; clear hK K) | (apply Exists.intro; refine ⟨fun _ => ?_, hK _ ?_⟩; (first | exact CA _); clear hK K)))
    (refine mix_step (by kernel_rfl) (by kernel_rfl) (fun K hK => ?_); go_simp; (try (simp only [↓IntWalk.iteOmega]; go_simp)); (first | (refine hK _ ?_; clear hK K) | (apply Exists.intro; refine ⟨fun _ => ?_, hK _ ?_⟩; (first | fail); clear hK K)))
    (refine mix_step (by kernel_rfl) (by kernel_rfl) (fun K hK => ?_); go_simp; (try (simp only [↓IntWalk.iteOmega]; go_simp)); (first | (refine hK _ ?_; clear hK K) | (apply Exists.intro; refine ⟨fun _ => ?_, hK _ ?_⟩; (first | fail); clear hK K)))
    (refine mix_step (by kernel_rfl) (by kernel_rfl) (fun K hK => ?_); go_simp; (try (simp only [↓IntWalk.iteOmega]; go_simp)); (first | (refine hK _ ?_; clear hK K) | (apply Exists.intro; refine ⟨fun _ => ?_, hK _ ?_⟩; (first | fail); clear hK K)))
    (refine mix_step (by kernel_rfl) (by kernel_rfl) (fun K hK => ?_); go_simp; (try (simp only [↓IntWalk.iteOmega]; go_simp)); (first | (refine hK _ ?_; clear hK K) | (apply Exists.intro; refine ⟨fun _ => ?_, hK _ ?_⟩; (first | fail); clear hK K)))
    (refine mix_step (by kernel_rfl) (by kernel_rfl) (fun K hK => ?_); go_simp; (try (simp only [↓IntWalk.iteOmega]; go_simp)); (first | (refine hK _ ?_; clear hK K) | (apply Exists.intro; refine ⟨fun _ => ?_, hK _ ?_⟩; (first | fail); clear hK K)))
    (refine mix_step (by kernel_rfl) (by kernel_rfl) (fun K hK => ?_); go_simp; (try (simp only [↓IntWalk.iteOmega]; go_simp)); (first | (refine hK _ ?_; clear hK K) | (apply Exists.intro; refine ⟨fun _ => ?_, hK _ ?_⟩; (first | fail); clear hK K)))
    (refine mix_step (by kernel_rfl) (by kernel_rfl) (fun K hK => ?_); go_simp; (try (simp only [↓IntWalk.iteOmega]; go_simp)); (first | (refine hK _ ?_; clear hK K) | (apply Exists.intro; refine ⟨fun _ => ?_, hK _ ?_⟩; (first | fail); clear hK K)))
    (refine mix_step (by kernel_rfl) (by kernel_rfl) (fun K hK => ?_); go_simp; (try (simp only [↓IntWalk.iteOmega]; go_simp)); (first | (refine hK _ ?_; clear hK K) | (apply Exists.intro; refine ⟨fun _ => ?_, hK _ ?_⟩; (first | fail); clear hK K)))
    (refine mix_step (by kernel_rfl) (by kernel_rfl) (fun K hK => ?_); go_simp; (try (simp only [↓IntWalk.iteOmega]; go_simp)); (first | (refine hK _ ?_; clear hK K) | (apply Exists.intro; refine ⟨fun _ => ?_, hK _ ?_⟩; (first | fail); clear hK K)))
    (refine mix_step (by kernel_rfl) (by kernel_rfl) (fun K hK => ?_); go_simp; (try (simp only [↓IntWalk.iteOmega]; go_simp)); (first | (refine hK _ ?_; clear hK K) | (apply Exists.intro; refine ⟨fun _ => ?_, hK _ ?_⟩; (first | fail); clear hK K)))
    (refine mix_step (by kernel_rfl) (by kernel_rfl) (fun K hK => ?_); go_simp; (try (simp only [↓IntWalk.iteOmega]; go_simp)); (first | (refine hK _ ?_; clear hK K) | (apply Exists.intro; refine ⟨fun _ => ?_, hK _ ?_⟩; (first | fail); clear hK K)))
    (refine mix_step (by kernel_rfl) (by kernel_rfl) (fun K hK => ?_); go_simp; (try (simp only [↓IntWalk.iteOmega]; go_simp)); (first | (refine hK _ ?_; clear hK K) | (apply Exists.intro; refine ⟨fun _ => ?_, hK _ ?_⟩; (first | fail); clear hK K)))
    (refine mix_step (by kernel_rfl) (by kernel_rfl) (fun K hK => ?_); go_simp; (try (simp only [↓IntWalk.iteOmega]; go_simp)); (first | (refine hK _ ?_; clear hK K) | (apply Exists.intro; refine ⟨fun _ => ?_, hK _ ?_⟩; (first | fail); clear hK K)))
    refine mix_exact (.agg #[.int .u8 ((bb 0).toNat : Int), .int .u8 ((bb 1).toNat : Int), .int .u8 ((bb 2).toNat : Int), .int .u8 ((bb 3).toNat : Int), .int .u8 ((bb 4).toNat : Int), .int .u8 ((bb 5).toNat : Int), .int .u8 ((bb 6).toNat : Int), .int .u8 ((bb 7).toNat : Int)]) rfl (exact_load_mid (sub := [.int .u8 ((bb 0).toNat : Int), .int .u8 ((bb 1).toNat : Int), .int .u8 ((bb 2).toNat : Int), .int .u8 ((bb 3).toNat : Int), .int .u8 ((bb 4).toNat : Int), .int .u8 ((bb 5).toNat : Int), .int .u8 ((bb 6).toNat : Int), .int .u8 ((bb 7).toNat : Int)]) rfl rfl (by simp) R7.out rfl Try.underlying30 rfl (by kernel_rfl)) ?_
    refine mix_exact (.agg #[.int .u8 ((bb 0).toNat : Int), .int .u8 ((bb 1).toNat : Int), .int .u8 ((bb 2).toNat : Int), .int .u8 ((bb 3).toNat : Int), .int .u8 ((bb 4).toNat : Int), .int .u8 ((bb 5).toNat : Int), .int .u8 ((bb 6).toNat : Int), .int .u8 ((bb 7).toNat : Int)]) rfl (exact_load_row rfl rfl (by simp) R5.out Try.underlying30 rfl (by kernel_rfl)) ?_
    (refine mix_step (by kernel_rfl) (by kernel_rfl) (fun K hK => ?_); go_simp; (try (simp only [↓IntWalk.iteOmega]; go_simp)); (first | (refine hK _ ?_; clear hK K) | (apply Exists.intro; refine ⟨fun _ => ?_, hK _ ?_⟩; (first | fail); clear hK K)))
    (refine mix_step (by kernel_rfl) (by kernel_rfl) (fun K hK => ?_); go_simp; (try (simp only [↓IntWalk.iteOmega]; go_simp)); (first | (refine hK _ ?_; clear hK K) | (apply Exists.intro; refine ⟨fun _ => ?_, hK _ ?_⟩; (first | fail); clear hK K)))
    (refine mix_step (by kernel_rfl) (by kernel_rfl) (fun K hK => ?_); go_simp; (try (simp only [↓IntWalk.iteOmega]; go_simp)); (first | (refine hK _ ?_; clear hK K) | (apply Exists.intro; refine ⟨fun _ => ?_, hK _ ?_⟩; (first | fail); clear hK K)))
    (refine mix_step (by kernel_rfl) (by kernel_rfl) (fun K hK => ?_); go_simp; (try (simp only [↓IntWalk.iteOmega]; go_simp)); (first | (refine hK _ ?_; clear hK K) | (apply Exists.intro; refine ⟨fun _ => ?_, hK _ ?_⟩; (first | fail); clear hK K)))
    (refine mix_step (by kernel_rfl) (by kernel_rfl) (fun K hK => ?_); go_simp; (try (simp only [↓IntWalk.iteOmega]; go_simp)); (first | (refine hK _ ?_; clear hK K) | (apply Exists.intro; refine ⟨fun _ => ?_, hK _ ?_⟩; (first | fail); clear hK K)))
    (refine mix_step (by kernel_rfl) (by kernel_rfl) (fun K hK => ?_); go_simp; (try (simp only [↓IntWalk.iteOmega]; go_simp)); (first | (refine hK _ ?_; clear hK K) | (apply Exists.intro; refine ⟨fun _ => ?_, hK _ ?_⟩; (first | fail); clear hK K)))
    (refine mix_step (by kernel_rfl) (by kernel_rfl) (fun K hK => ?_); go_simp; (try (simp only [↓IntWalk.iteOmega]; go_simp)); (first | (refine hK _ ?_; clear hK K) | (apply Exists.intro; refine ⟨fun _ => ?_, hK _ ?_⟩; (first | fail); clear hK K)))
    (refine mix_step (by kernel_rfl) (by kernel_rfl) (fun K hK => ?_); go_simp; (try (simp only [↓IntWalk.iteOmega]; go_simp)); (first | (refine hK _ ?_; clear hK K) | (apply Exists.intro; refine ⟨fun _ => ?_, hK _ ?_⟩; (first | fail); clear hK K)))
    (refine mix_step (by kernel_rfl) (by kernel_rfl) (fun K hK => ?_); go_simp; (try (simp only [↓IntWalk.iteOmega]; go_simp)); (first | (refine hK _ ?_; clear hK K) | (apply Exists.intro; refine ⟨fun _ => ?_, hK _ ?_⟩; (first | fail); clear hK K)))
    refine mix_nil ?_
    rintro ⟨dq, osq⟩
    have hb1 := below_regrown wc dq osq
    have hbW := hbW.trans (hb1.mono hbW.size)
    generalize grow (redrawn wc dq) osq = W9 at *
    refine (show wpList _ _ _ _ _ _ from ?_)
    simp only [List.drop, Act.put, List.setIfInBounds_toArray, List.set]
    go_wp2_with fail
    go_ret
    exact ⟨by simp, hbW⟩

theorem vecOvers_walk (r0 b0 : Nat → UInt8) (c0 p0 : Int) (r1 b1 : Nat → UInt8) (c1 p1 : Int) (cost : Int) (wc : (Lit.int .u16 cost).wf = true) (bb : Nat → UInt8) (pp : Int) (_ : (Lit.int .i64 pp).wf = true) (w : World)
    (_ : -9223372036854775808 ≤ c0 ∧ c0 ≤ 9223372036854775807) (_ : -9223372036854775808 ≤ p0 ∧ p0 ≤ 9223372036854775807) (_ : -9223372036854775808 ≤ c1 ∧ c1 ≤ 9223372036854775807) (_ : -9223372036854775808 ≤ p1 ∧ p1 ≤ 9223372036854775807) :
    Calls Try.prog 6 #[.agg #[.int .u8 ((r0 0).toNat : Int), .int .u8 ((r0 1).toNat : Int), .int .u8 ((r0 2).toNat : Int), .int .u8 ((r0 3).toNat : Int), .int .u8 ((r0 4).toNat : Int), .int .u8 ((r0 5).toNat : Int), .int .u8 ((r0 6).toNat : Int), .int .u8 ((r0 7).toNat : Int), .int .i64 c0, .int .u8 ((b0 0).toNat : Int), .int .u8 ((b0 1).toNat : Int), .int .u8 ((b0 2).toNat : Int), .int .u8 ((b0 3).toNat : Int), .int .u8 ((b0 4).toNat : Int), .int .u8 ((b0 5).toNat : Int), .int .u8 ((b0 6).toNat : Int), .int .u8 ((b0 7).toNat : Int), .int .i64 p0], .agg #[.int .u8 ((r1 0).toNat : Int), .int .u8 ((r1 1).toNat : Int), .int .u8 ((r1 2).toNat : Int), .int .u8 ((r1 3).toNat : Int), .int .u8 ((r1 4).toNat : Int), .int .u8 ((r1 5).toNat : Int), .int .u8 ((r1 6).toNat : Int), .int .u8 ((r1 7).toNat : Int), .int .i64 c1, .int .u8 ((b1 0).toNat : Int), .int .u8 ((b1 1).toNat : Int), .int .u8 ((b1 2).toNat : Int), .int .u8 ((b1 3).toNat : Int), .int .u8 ((b1 4).toNat : Int), .int .u8 ((b1 5).toNat : Int), .int .u8 ((b1 6).toNat : Int), .int .u8 ((b1 7).toNat : Int), .int .i64 p1], .int .u16 cost, .agg #[.int .u8 ((bb 0).toNat : Int), .int .u8 ((bb 1).toNat : Int), .int .u8 ((bb 2).toNat : Int), .int .u8 ((bb 3).toNat : Int), .int .u8 ((bb 4).toNat : Int), .int .u8 ((bb 5).toNat : Int), .int .u8 ((bb 6).toNat : Int), .int .u8 ((bb 7).toNat : Int)], .int .i64 pp] w fun e w' => e = .returned (.bool true) ∧ Below w.heap.size w w' := by
  have hk : 0 ≤ cost ∧ cost ≤ 65535 := by
    simp only [Lit.wf, Bool.and_eq_true, decide_eq_true_eq] at wc
    exact wc
  by_cases h : (0 ≤ c0 ∧ c0 ≤ 1073741824) ∧ (0 ≤ c1 ∧ c1 ≤ 1073741824)
  · exact vecOvers_in r0 b0 c0 p0 r1 b1 c1 p1 cost bb pp w hk h.1 h.2
  · exact vecOvers_out r0 b0 c0 p0 r1 b1 c1 p1 cost bb pp w (by omega)
end Go.Proofs.Ythadlpiioabajaa
