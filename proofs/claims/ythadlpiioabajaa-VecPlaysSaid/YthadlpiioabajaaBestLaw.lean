/- The best of many vectors: plain laws. By an AI agent. -/
import Derived.Test.YthadlpiioabajaaVecBest
namespace Go.Proofs.Ythadlpiioabajaa.Vec

theorem D.better_irrefl (a : D) : a.better a = false := Vec.better_irrefl ..
theorem D.better_asymm {a b : D} (h : a.better b = true) : b.better a = false := Vec.better_asymm h
theorem D.better_trans {a b c : D} (h : a.better b = true) (k : b.better c = true) : a.better c = true := Vec.better_trans h k
/-- are two vectors the same? -/
def D.same (a b : D) : Prop := [a.r 0, a.r 1, a.r 2, a.r 3, a.r 4, a.r 5, a.r 6, a.r 7] = [b.r 0, b.r 1, b.r 2, b.r 3, b.r 4, b.r 5, b.r 6, b.r 7] ∧ a.c = b.c ∧ [a.b 0, a.b 1, a.b 2, a.b 3, a.b 4, a.b 5, a.b 6, a.b 7] = [b.b 0, b.b 1, b.b 2, b.b 3, b.b 4, b.b 5, b.b 6, b.b 7] ∧ a.p = b.p
theorem D.same_of {a b : D} (h : a.better b = false) (k : b.better a = false) : a.same b := Vec.better_total _ _ _ _ _ _ _ _ h k
theorem D.same_better {a b : D} (h : a.same b) (c : D) : a.better c = b.better c ∧ c.better a = c.better b := by
  obtain ⟨h1, h2, h3, h4⟩ := h
  unfold D.better
  rw [h1, h2, h3, h4]
  exact ⟨rfl, rfl⟩
theorem D.same_not {a b : D} (h : a.same b) : a.better b = false ∧ b.better a = false := by
  constructor
  · rw [(D.same_better h b).1]; exact D.better_irrefl b
  · rw [(D.same_better h b).2]; exact D.better_irrefl b
/-- a is better than b, c is not better than b: a is better than c -/
theorem D.better_of_not {a b c : D} (h : a.better b = true) (k : c.better b = false) : a.better c = true := by
  cases h1 : a.better c
  · cases h2 : c.better a
    · rw [(D.same_better (D.same_of h1 h2) b).1, k] at h
      cases h
    · rw [D.better_trans h2 h] at k
      cases k
  · rfl
theorem D.not_trans {a b c : D} (h : a.better b = false) (k : b.better c = false) : a.better c = false := by
  cases h1 : a.better c
  · rfl
  · rw [D.better_of_not h1 k] at h
    cases h

/-- j is the first of the best -/
def First (vs : List D) (j : Nat) : Prop := j < vs.length ∧ (∀ i, i < j → (vs.getD j .zero).better (vs.getD i .zero) = true) ∧ (∀ i, j ≤ i → i < vs.length → (vs.getD i .zero).better (vs.getD j .zero) = false)

theorem First.unique {vs : List D} {j k : Nat} (h : First vs j) (h' : First vs k) : j = k := by
  rcases Nat.lt_trichotomy j k with hlt | rfl | hlt
  · have := h'.2.1 j hlt
    rw [h.2.2 k (Nat.le_of_lt hlt) h'.1] at this
    cases this
  · rfl
  · have := h.2.1 k hlt
    rw [h'.2.2 j (Nat.le_of_lt hlt) h.1] at this
    cases this

theorem best_first (vs : List D) : ∀ k, 0 < k → ∃ j : Nat, best vs k = j ∧ j < k ∧ (∀ i, i < j → (vs.getD j .zero).better (vs.getD i .zero) = true) ∧ (∀ i, j ≤ i → i < k → (vs.getD i .zero).better (vs.getD j .zero) = false)
  | 0, h => absurd h (Nat.lt_irrefl 0)
  | 1, _ => ⟨0, by simp [best], by decide, fun i hi => absurd hi (Nat.not_lt_zero i), fun i _ hi => by
      obtain rfl : i = 0 := by omega
      exact D.better_irrefl _⟩
  | k + 2, _ => by
    obtain ⟨j, hj, hjk, h1, h2⟩ := best_first vs (k + 1) (by omega)
    have e : best vs (k + 2) = if best vs (k + 1) < 0 then ((k + 1 : Nat) : Int) else if (vs.getD (k + 1) .zero).better (vs.getD (best vs (k + 1)).toNat .zero) then ((k + 1 : Nat) : Int) else best vs (k + 1) := rfl
    rw [hj, if_neg (by omega), Int.toNat_natCast] at e
    cases hb : (vs.getD (k + 1) .zero).better (vs.getD j .zero)
    · rw [hb] at e
      refine ⟨j, e, by omega, h1, fun i hi hik => ?_⟩
      rcases Nat.lt_or_ge i (k + 1) with h | h
      · exact h2 i hi h
      · obtain rfl : i = k + 1 := by omega
        exact hb
    · rw [hb] at e
      refine ⟨k + 1, e, by omega, fun i hi => ?_, fun i hi hik => ?_⟩
      · rcases Nat.lt_or_ge i j with h | h
        · exact D.better_trans hb (h1 i h)
        · exact D.better_of_not hb (h2 i h hi)
      · obtain rfl : i = k + 1 := by omega
        exact D.better_irrefl _

theorem best_is (vs : List D) (h : 0 < vs.length) : ∃ j : Nat, best vs vs.length = j ∧ First vs j := by
  obtain ⟨j, h0, h1, h2, h3⟩ := best_first vs vs.length h
  exact ⟨j, h0, h1, h2, h3⟩

/-- cut in two: the best is that of the two bests -/
theorem best_cut (vs : List D) (k : Nat) (hk : k ≤ vs.length) (x y : Nat) (hx : First (vs.take k) x) (hy : First (vs.drop k) y) :
    ((vs.getD (k + y) .zero).better (vs.getD x .zero) = false → First vs x) ∧ ((vs.getD (k + y) .zero).better (vs.getD x .zero) = true → First vs (k + y)) := by
  obtain ⟨x0, x1, x2⟩ := hx
  obtain ⟨y0, y1, y2⟩ := hy
  rw [List.length_take] at x0 x2
  rw [List.length_drop] at y0 y2
  have tk : ∀ i, i < k → (vs.take k).getD i .zero = vs.getD i .zero := fun i hi => by rw [List.getD, List.getD, List.getElem?_take_of_lt hi]
  have dk : ∀ i, (vs.drop k).getD i .zero = vs.getD (k + i) .zero := fun i => by rw [List.getD, List.getD, List.getElem?_drop]
  have xk : x < k := by omega
  rw [tk x xk] at x1 x2
  rw [dk y] at y1 y2
  constructor
  · intro h
    refine ⟨by omega, fun i hi => by have := x1 i hi; rwa [tk i (by omega)] at this, fun i hi hil => ?_⟩
    rcases Nat.lt_or_ge i k with hik | hik
    · have := x2 i hi (by omega)
      rwa [tk i hik] at this
    · obtain ⟨d, rfl⟩ := Nat.exists_eq_add_of_le hik
      rcases Nat.lt_or_ge d y with hd | hd
      · have := y1 d hd
        rw [dk d] at this
        exact D.not_trans (D.better_asymm this) h
      · have := y2 d hd (by omega)
        rw [dk d] at this
        exact D.not_trans this h
  · intro h
    refine ⟨by omega, fun i hi => ?_, fun i hi hil => ?_⟩
    · rcases Nat.lt_or_ge i k with hik | hik
      · rcases Nat.lt_or_ge i x with hx | hx
        · have := x1 i hx
          rw [tk i hik] at this
          exact D.better_trans h this
        · have := x2 i hx (by omega)
          rw [tk i hik] at this
          exact D.better_of_not h this
      · obtain ⟨d, rfl⟩ := Nat.exists_eq_add_of_le hik
        have := y1 d (by omega)
        rwa [dk d] at this
    · obtain ⟨d, rfl⟩ := Nat.exists_eq_add_of_le (show k ≤ i by omega)
      have := y2 d (by omega) (by omega)
      rwa [dk d] at this
end Go.Proofs.Ythadlpiioabajaa.Vec
