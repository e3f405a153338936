/- Two vectors compared. By an AI agent. -/
import Derived.Test.YthfckdnennfnoaaGreatDoorSpan2
namespace Go.Proofs.YthfckdnennfnoaaGreatDoor
open Go.RowKit Go.Sort Grow

theorem run_equalIn_bid (d : Nat) (a b : Nat → UInt8) (w : World) : (Op.equalIn (d + 1 + 1) 28 (.agg #[.int .u8 ((a 0).toNat : Int), .int .u8 ((a 1).toNat : Int), .int .u8 ((a 2).toNat : Int), .int .u8 ((a 3).toNat : Int), .int .u8 ((a 4).toNat : Int), .int .u8 ((a 5).toNat : Int), .int .u8 ((a 6).toNat : Int), .int .u8 ((a 7).toNat : Int)]) (.agg #[.int .u8 ((b 0).toNat : Int), .int .u8 ((b 1).toNat : Int), .int .u8 ((b 2).toNat : Int), .int .u8 ((b 3).toNat : Int), .int .u8 ((b 4).toNat : Int), .int .u8 ((b 5).toNat : Int), .int .u8 ((b 6).toNat : Int), .int .u8 ((b 7).toNat : Int)])).run Tryz.prog w = .ok (eqB [a 0, a 1, a 2, a 3, a 4, a 5, a 6, a 7] [b 0, b 1, b 2, b 3, b 4, b 5, b 6, b 7]) w :=
  run_equalIn_bytes d 8 Tryz.underlying28 [a 0, a 1, a 2, a 3, a 4, a 5, a 6, a 7] [b 0, b 1, b 2, b 3, b 4, b 5, b 6, b 7] rfl rfl w

set_option maxRecDepth 20000 in
theorem run_equalIn_sv0 (d : Nat) (r b r' b' : Nat → UInt8) (c p c' p' : Int) (w : World) :
    (Op.equalIn (d + 1 + 1 + 1) 136 (.agg #[.int .u8 ((r 0).toNat : Int), .int .u8 ((r 1).toNat : Int), .int .u8 ((r 2).toNat : Int), .int .u8 ((r 3).toNat : Int), .int .u8 ((r 4).toNat : Int), .int .u8 ((r 5).toNat : Int), .int .u8 ((r 6).toNat : Int), .int .u8 ((r 7).toNat : Int), .int .i64 c, .int .u8 ((b 0).toNat : Int), .int .u8 ((b 1).toNat : Int), .int .u8 ((b 2).toNat : Int), .int .u8 ((b 3).toNat : Int), .int .u8 ((b 4).toNat : Int), .int .u8 ((b 5).toNat : Int), .int .u8 ((b 6).toNat : Int), .int .u8 ((b 7).toNat : Int), .int .i64 p]) (.agg #[.int .u8 ((r' 0).toNat : Int), .int .u8 ((r' 1).toNat : Int), .int .u8 ((r' 2).toNat : Int), .int .u8 ((r' 3).toNat : Int), .int .u8 ((r' 4).toNat : Int), .int .u8 ((r' 5).toNat : Int), .int .u8 ((r' 6).toNat : Int), .int .u8 ((r' 7).toNat : Int), .int .i64 c', .int .u8 ((b' 0).toNat : Int), .int .u8 ((b' 1).toNat : Int), .int .u8 ((b' 2).toNat : Int), .int .u8 ((b' 3).toNat : Int), .int .u8 ((b' 4).toNat : Int), .int .u8 ((b' 5).toNat : Int), .int .u8 ((b' 6).toNat : Int), .int .u8 ((b' 7).toNat : Int), .int .i64 p'])).run Tryz.prog w = .ok (eqB [r 0, r 1, r 2, r 3, r 4, r 5, r 6, r 7] [r' 0, r' 1, r' 2, r' 3, r' 4, r' 5, r' 6, r' 7] && (c == c' && (eqB [b 0, b 1, b 2, b 3, b 4, b 5, b 6, b 7] [b' 0, b' 1, b' 2, b' 3, b' 4, b' 5, b' 6, b' 7] && p == p'))) w := by
  have m1 := run_equalIn_bid d r r' w
  have m2 := run_equalIn_bid d b b' w
  generalize eqB [r 0, r 1, r 2, r 3, r 4, r 5, r 6, r 7] [r' 0, r' 1, r' 2, r' 3, r' 4, r' 5, r' 6, r' 7] = e1 at m1 ⊢
  generalize eqB [b 0, b 1, b 2, b 3, b 4, b 5, b 6, b 7] [b' 0, b' 1, b' 2, b' 3, b' 4, b' 5, b' 6, b' 7] = e2 at m2 ⊢
  have k3 : (c == c') = decide (c = c') := by rw [Bool.eq_iff_iff]; simp
  have k4 : (p == p') = decide (p = p') := by rw [Bool.eq_iff_iff]; simp
  rw [k3, k4]
  by_cases h3 : c = c' <;> by_cases h4 : p = p' <;> cases e1 <;> cases e2 <;> go_simp

theorem eqB_id (x y : Id8) : eqB [x.f 0, x.f 1, x.f 2, x.f 3, x.f 4, x.f 5, x.f 6, x.f 7] [y.f 0, y.f 1, y.f 2, y.f 3, y.f 4, y.f 5, y.f 6, y.f 7] = decide (x = y) := by
  by_cases h : x = y
  · rw [decide_eq_true h, h]
    exact eqB_true.2 rfl
  · rw [decide_eq_false h]
    cases he : eqB [x.f 0, x.f 1, x.f 2, x.f 3, x.f 4, x.f 5, x.f 6, x.f 7] [y.f 0, y.f 1, y.f 2, y.f 3, y.f 4, y.f 5, y.f 6, y.f 7]
    · rfl
    · exact absurd (Id8.ext_l (eqB_true.1 he)) h

theorem run_equalIn_sv (d : Nat) (v u : SV) (w : World) : (Op.equalIn (d + 1 + 1 + 1) 136 (.agg v.cells) (.agg u.cells)).run Tryz.prog w = .ok (decide (v = u)) w := by
  refine (run_equalIn_sv0 d v.r.f v.b.f u.r.f u.b.f v.c v.p u.c u.p w).trans ?_
  congr 1
  rw [eqB_id, eqB_id]
  have k3 : (v.c == u.c) = decide (v.c = u.c) := by rw [Bool.eq_iff_iff]; simp
  have k4 : (v.p == u.p) = decide (v.p = u.p) := by rw [Bool.eq_iff_iff]; simp
  rw [k3, k4]
  by_cases h1 : v.r = u.r <;> by_cases h2 : v.c = u.c <;> by_cases h3 : v.b = u.b <;> by_cases h4 : v.p = u.p
  all_goals first
    | (rw [decide_eq_true (SV.ext_of h1 h2 h3 h4)]; simp [h1, h2, h3, h4])
    | (rw [decide_eq_false (p := v = u) (fun e => by subst e; simp at *)]; simp [h1, h2, h3, h4])
end Go.Proofs.YthfckdnennfnoaaGreatDoor
