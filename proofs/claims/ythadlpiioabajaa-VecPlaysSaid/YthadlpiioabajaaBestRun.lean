/- Slices of vectors: append, part, read. By an AI agent. -/
import Derived.Test.YthadlpiioabajaaBestLaw
import Derived.Test.YthadlpiioabajaaVecOrder
import Derived.Deep.AppendLies
namespace Go.Proofs.Ythadlpiioabajaa
open Go.RowKit Go.Sort Grow

theorem info_pvec : ∃ i z, Try.prog.info? 32 = some i ∧ i.zero = some z ∧ i.size = 18 ∧ i.bytes = 32 ∧ z.cells.size = 18 := by
  have h : (Try.prog.info? 32).map (fun i => (i.zero.map (·.cells.size), i.size, i.bytes)) = some (some 18, 18, 32) := by kernel_rfl
  obtain ⟨i, hi, h⟩ := Option.map_eq_some_iff.1 h
  simp only [Prod.mk.injEq] at h
  obtain ⟨z, hz, h18⟩ := Option.map_eq_some_iff.1 h.1
  exact ⟨i, z, hi, hz, h.2.1, h.2.2, h18⟩

theorem owns_later {w w' : World} {base : Nat} {e : TypeId} {size : Nat} {v : Value} {n : Nat} {xs : List Value} (h : w.ownsRow base e size v n xs) (hb : Below w.heap.size w w') : w'.ownsRow base e size v n xs := by
  refine ⟨h.1, ?_⟩
  rcases h.2 with h | ⟨g, cap, cur, hv, hg, hc, h⟩
  · exact .inl h
  · exact .inr ⟨g, cap, cur, hv, hg, (hb.block g (Array.getElem?_eq_some_iff.1 hc).1).trans hc, h⟩

namespace Vec
def all (vs : List D) : List Value := vs.flatMap D.cells
theorem cells_length (v : D) : v.cells.length = 18 := rfl
theorem all_length (vs : List D) : (all vs).length = vs.length * 18 := by
  induction vs with
  | nil => rfl
  | cons v vs ih => simp only [all, List.flatMap_cons, List.length_append, cells_length, List.length_cons] at ih ⊢; omega
theorem all_snoc (vs : List D) (v : D) : all (vs ++ [v]) = all vs ++ v.cells := by simp [all]
theorem all_get : ∀ (vs : List D) (i : Nat) (h : i < vs.length) (j : Nat), j < 18 → (all vs)[i * 18 + j]? = vs[i].cells[j]?
  | v :: vs, 0, _, j, hj => by
    simp only [all, List.flatMap_cons, Nat.zero_mul, Nat.zero_add, List.getElem_cons_zero]
    rw [List.getElem?_append_left (by rw [cells_length]; exact hj)]
  | v :: vs, i + 1, h, j, hj => by
    have ih := all_get vs i (by simpa using h) j hj
    simp only [all, List.flatMap_cons, List.getElem_cons_succ]
    rw [List.getElem?_append_right (by rw [cells_length]; omega), cells_length, show (i + 1) * 18 + j - 18 = i * 18 + j by omega]
    exact ih

theorem at_of_owns {w : World} {base : Nat} {v : Value} {vs : List D} (h : w.ownsRow base 32 18 v vs.length (all vs)) : ∃ ao cap, v = .slice ao vs.length cap ∧ vs.length ≤ cap ∧ cap ≤ maxLen ∧ At w ao vs := by
  rcases h.2 with ⟨hv, hn⟩ | ⟨g, cap, cur, hv, hg, hc, hle, hm, hs, ht⟩
  · exact ⟨none, 0, by rw [hv, hn], by omega, by decide, .inl (List.length_eq_zero_iff.1 hn)⟩
  · refine ⟨some ⟨g, 0, none⟩, cap, hv, hle, hm, .inr ⟨g, 0, rfl, (Array.getElem?_eq_some_iff.1 hc).1, fun i hi j u hj => ?_⟩⟩
    have hj18 : j < 18 := by
      have := (List.getElem?_eq_some_iff.1 hj).1
      rwa [cells_length] at this
    rw [cell_of_row w g _ cur _ (0, 0) hc, ← Array.getElem?_toList, show 0 + i * 18 + j = i * 18 + j by omega]
    have e := all_get vs i hi j hj18
    rw [← ht, List.getElem?_take_of_lt (by omega), hj] at e
    exact e

theorem At.take {w : World} {ao : Option Addr} {vs : List D} (h : At w ao vs) (k : Nat) : At w ao (vs.take k) := by
  rcases h with h | ⟨b, off, ha, hlt, h⟩
  · left; rw [h]; simp
  · refine .inr ⟨b, off, ha, hlt, fun i hi => ?_⟩
    have hi' : i < vs.length := by rw [List.length_take] at hi; omega
    rw [List.getElem_take]
    exact h i hi'

theorem At.drop {w : World} {b off : Nat} {vs : List D} (h : At w (some ⟨b, off, none⟩) vs) (k : Nat) : At w (some ⟨b, off + k * 18, none⟩) (vs.drop k) := by
  rcases h with h | ⟨b', off', ha, hlt, h⟩
  · left; rw [h]; simp
  · simp only [Option.some.injEq, Addr.mk.injEq, and_true] at ha
    obtain ⟨rfl, rfl⟩ := ha
    refine .inr ⟨b, off + k * 18, rfl, hlt, fun i hi => ?_⟩
    have hi' : k + i < vs.length := by rw [List.length_drop] at hi; omega
    rw [List.getElem_drop, show off + k * 18 + i * 18 = off + (k + i) * 18 by omega]
    exact h (k + i) hi'

theorem At.some_of {w : World} {ao : Option Addr} {vs : List D} (h : At w ao vs) (hp : 0 < vs.length) : ∃ b off, ao = some ⟨b, off, none⟩ ∧ b < w.heap.size ∧ ∀ i (h : i < vs.length), w.rangeAt b (off + i * 18) vs[i].cells := by
  rcases h with rfl | ⟨b, off, h⟩
  · simp at hp
  · exact ⟨b, off, h⟩
end Vec

theorem vofD_any (v : Vec.D) (w : World) : Calls Try.prog 11 #[.agg v.cells.toArray] w fun e w' => e = .returned (.agg #[.int .u8 ((v.r 0).toNat : Int), .int .u8 ((v.r 1).toNat : Int), .int .u8 ((v.r 2).toNat : Int), .int .u8 ((v.r 3).toNat : Int), .int .u8 ((v.r 4).toNat : Int), .int .u8 ((v.r 5).toNat : Int), .int .u8 ((v.r 6).toNat : Int), .int .u8 ((v.r 7).toNat : Int), .int .i64 v.c, .int .u8 ((v.b 0).toNat : Int), .int .u8 ((v.b 1).toNat : Int), .int .u8 ((v.b 2).toNat : Int), .int .u8 ((v.b 3).toNat : Int), .int .u8 ((v.b 4).toNat : Int), .int .u8 ((v.b 5).toNat : Int), .int .u8 ((v.b 6).toNat : Int), .int .u8 ((v.b 7).toNat : Int), .int .i64 v.p]) ∧ Below w.heap.size w w' := vof_any v.r v.b v.c v.p w

/-- whether two vectors are the same, as the machine has it -/
def Vec.D.eqB (v u : Vec.D) : Bool := Vec.eqV [v.r 0, v.r 1, v.r 2, v.r 3, v.r 4, v.r 5, v.r 6, v.r 7] v.c [v.b 0, v.b 1, v.b 2, v.b 3, v.b 4, v.b 5, v.b 6, v.b 7] v.p [u.r 0, u.r 1, u.r 2, u.r 3, u.r 4, u.r 5, u.r 6, u.r 7] u.c [u.b 0, u.b 1, u.b 2, u.b 3, u.b 4, u.b 5, u.b 6, u.b 7] u.p
theorem Vec.D.eqB_iff (v u : Vec.D) : v.eqB u = true ↔ v.same u := Vec.eqV_iff ..
theorem run_equalIn_pvec (d : Nat) (r b r' b' : Nat → UInt8) (c p c' p' : Int) (w : World) :
    (Op.equalIn (d + 1 + 1 + 1) 32 (.agg #[.int .u8 ((r 0).toNat : Int), .int .u8 ((r 1).toNat : Int), .int .u8 ((r 2).toNat : Int), .int .u8 ((r 3).toNat : Int), .int .u8 ((r 4).toNat : Int), .int .u8 ((r 5).toNat : Int), .int .u8 ((r 6).toNat : Int), .int .u8 ((r 7).toNat : Int), .int .i64 c, .int .u8 ((b 0).toNat : Int), .int .u8 ((b 1).toNat : Int), .int .u8 ((b 2).toNat : Int), .int .u8 ((b 3).toNat : Int), .int .u8 ((b 4).toNat : Int), .int .u8 ((b 5).toNat : Int), .int .u8 ((b 6).toNat : Int), .int .u8 ((b 7).toNat : Int), .int .i64 p]) (.agg #[.int .u8 ((r' 0).toNat : Int), .int .u8 ((r' 1).toNat : Int), .int .u8 ((r' 2).toNat : Int), .int .u8 ((r' 3).toNat : Int), .int .u8 ((r' 4).toNat : Int), .int .u8 ((r' 5).toNat : Int), .int .u8 ((r' 6).toNat : Int), .int .u8 ((r' 7).toNat : Int), .int .i64 c', .int .u8 ((b' 0).toNat : Int), .int .u8 ((b' 1).toNat : Int), .int .u8 ((b' 2).toNat : Int), .int .u8 ((b' 3).toNat : Int), .int .u8 ((b' 4).toNat : Int), .int .u8 ((b' 5).toNat : Int), .int .u8 ((b' 6).toNat : Int), .int .u8 ((b' 7).toNat : Int), .int .i64 p'])).run Try.prog w = .ok (Vec.eqV [r 0, r 1, r 2, r 3, r 4, r 5, r 6, r 7] c [b 0, b 1, b 2, b 3, b 4, b 5, b 6, b 7] p [r' 0, r' 1, r' 2, r' 3, r' 4, r' 5, r' 6, r' 7] c' [b' 0, b' 1, b' 2, b' 3, b' 4, b' 5, b' 6, b' 7] p') w := by
  unfold Vec.eqV
  have m1 := run_equalIn_id d r r' w
  have m2 := run_equalIn_id d b b' w
  generalize Go.Proofs.Ythadlpiioabajaa.eqB [r 0, r 1, r 2, r 3, r 4, r 5, r 6, r 7] [r' 0, r' 1, r' 2, r' 3, r' 4, r' 5, r' 6, r' 7] = e1 at m1 ⊢
  generalize Go.Proofs.Ythadlpiioabajaa.eqB [b 0, b 1, b 2, b 3, b 4, b 5, b 6, b 7] [b' 0, b' 1, b' 2, b' 3, b' 4, b' 5, b' 6, b' 7] = e2 at m2 ⊢
  have k3 : (c == c') = decide (c = c') := by rw [Bool.eq_iff_iff]; simp
  have k4 : (p == p') = decide (p = p') := by rw [Bool.eq_iff_iff]; simp
  rw [k3, k4]
  by_cases h3 : c = c' <;> by_cases h4 : p = p' <;> cases e1 <;> cases e2 <;> go_simp
theorem eqD_run (v u : Vec.D) (w : World) : (Op.equalIn 10000 32 (.agg v.cells.toArray) (.agg u.cells.toArray)).run Try.prog w = .ok (v.eqB u) w := run_equalIn_pvec 9997 v.r v.b u.r u.b v.c v.p u.c u.p w
end Go.Proofs.Ythadlpiioabajaa
