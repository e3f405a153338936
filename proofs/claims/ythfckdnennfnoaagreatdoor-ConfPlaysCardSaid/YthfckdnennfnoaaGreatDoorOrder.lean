/- The order of texts of bytes: plain laws. By an AI agent. -/
import GoSem.Op.String
namespace Go.Proofs.YthfckdnennfnoaaGreatDoor.Ord
/-- is a text of bytes less? -/
def lt (a b : List UInt8) : Bool := Op.bytesLess a b

theorem lt_irrefl : ∀ a, lt a a = false
  | [] => rfl
  | a :: x => by
    have := lt_irrefl x
    unfold lt at this ⊢
    simp [Op.bytesLess, this]

theorem lt_cons (a b : UInt8) (x y : List UInt8) : lt (a :: x) (b :: y) = (decide (a < b) || (a == b && lt x y)) := by
  unfold lt; simp [Op.bytesLess]

theorem lt_trans : ∀ a b c : List UInt8, lt a b = true → lt b c = true → lt a c = true
  | _, _, [], _, h => by unfold lt at h; simp [Op.bytesLess] at h
  | _, [], _ :: _, h, _ => by unfold lt at h; simp [Op.bytesLess] at h
  | [], _ :: _, _ :: _, _, _ => rfl
  | a :: x, b :: y, c :: z, h1, h2 => by
    rw [lt_cons] at h1 h2 ⊢
    simp only [Bool.or_eq_true, decide_eq_true_eq, Bool.and_eq_true, beq_iff_eq] at h1 h2 ⊢
    rcases h1 with h1 | ⟨rfl, h1⟩
    · rcases h2 with h2 | ⟨rfl, h2⟩
      · exact Or.inl (UInt8.lt_trans h1 h2)
      · exact Or.inl h1
    · rcases h2 with h2 | ⟨rfl, h2⟩
      · exact Or.inl h2
      · exact Or.inr ⟨rfl, lt_trans x y z h1 h2⟩

theorem lt_total : ∀ a b : List UInt8, a ≠ b → lt a b = true ∨ lt b a = true
  | [], [], h => absurd rfl h
  | [], _ :: _, _ => Or.inl rfl
  | _ :: _, [], _ => Or.inr rfl
  | a :: x, b :: y, h => by
    rw [lt_cons, lt_cons]
    simp only [Bool.or_eq_true, decide_eq_true_eq, Bool.and_eq_true, beq_iff_eq]
    by_cases hab : a = b
    · subst hab
      have hxy : x ≠ y := fun e => h (by rw [e])
      rcases lt_total x y hxy with h | h
      · exact Or.inl (Or.inr ⟨rfl, h⟩)
      · exact Or.inr (Or.inr ⟨rfl, h⟩)
    · have : a.toNat ≠ b.toNat := fun e => hab (UInt8.toNat_inj.1 e)
      rcases Nat.lt_or_gt_of_ne this with h | h
      · exact Or.inl (Or.inl (UInt8.lt_iff_toNat_lt.2 h))
      · exact Or.inr (Or.inl (UInt8.lt_iff_toNat_lt.2 h))

theorem lt_asymm (a b : List UInt8) (h : lt a b = true) : lt b a = false := by
  cases hb : lt b a
  · rfl
  · have := lt_trans a b a h hb
    rw [lt_irrefl] at this
    cases this

theorem lt_ne (a b : List UInt8) (h1 : lt a b = false) (h2 : lt b a = false) : a = b := by
  by_cases h : a = b
  · exact h
  · rcases lt_total a b h with h | h
    · rw [h1] at h; cases h
    · rw [h2] at h; cases h
end Go.Proofs.YthfckdnennfnoaaGreatDoor.Ord
