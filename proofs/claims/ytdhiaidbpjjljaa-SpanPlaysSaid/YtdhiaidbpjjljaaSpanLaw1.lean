/- Small things for the laws of chapter 17. By an AI agent. -/
import Derived.Test.YtdhiaidbpjjljaaSpanLaw0
namespace Go.Proofs.Ytdhiaidbpjjljaa
open Go.RowKit Go.WideShapes Go.Sort Grow

theorem BX2 (w : World) (o1 o2 : Obj) : Below w.heap.size w ((w.alloc o1).alloc o2) := ((Below.refl _ _).alloc (Nat.le_refl _) _).alloc (by simp) _
theorem BX3 (w : World) (o1 o2 o3 : Obj) : Below w.heap.size w (((w.alloc o1).alloc o2).alloc o3) := (((Below.refl _ _).alloc (Nat.le_refl _) _).alloc (by simp) _).alloc (by simp; omega) _
theorem wf_nat (p : Nat) (h : p ≤ 1000) : (Lit.int .i64 (p : Int)).wf = true := by
  simp only [Lit.wf, Bool.and_eq_true, decide_eq_true_eq]
  exact ⟨by show (-9223372036854775808 : Int) ≤ _; omega, by show _ ≤ (9223372036854775807 : Int); omega⟩
theorem wf_i64 {n : Int} (h : I64 n) : (Lit.int .i64 n).wf = true := by
  simp only [Lit.wf, Bool.and_eq_true, decide_eq_true_eq]
  exact h
theorem newOk_spec {zs : List Int} {ma he de : Int} (h : newOk zs ma he de = true) : (1 ≤ he ∧ he ≤ 100) ∧ (2 * he < ma ∧ ma ≤ 1000) ∧ (1 ≤ de ∧ de ≤ 1000) ∧ (1 ≤ zs.length ∧ zs.length ≤ 32) := by
  unfold newOk rightT at h
  simp only [Bool.and_eq_true, decide_eq_true_eq] at h
  omega

/-- the root, and what it tells, behind a tick -/
theorem rootF_own (s : SS) : ∀ k, (rootF s k).2 < 0 → (rootF s k).1 = s.own
  | 0, _ => rfl
  | k + 1, h => by
    unfold rootF rootStep at h ⊢
    split
    · rename_i hc
      rw [if_pos hc] at h
      simp only at h
      omega
    · rename_i hc
      rw [if_neg hc] at h
      exact rootF_own s k h
theorem SS.ticked_own (s : SS) (h : s.ticked.root < 0) : s.ticked.best = s.own := by
  unfold SS.ticked at h ⊢
  rw [(matF_like _ _).root] at h
  rw [(matF_like _ _).best]
  rw [SS.found_like _ |>.root] at h
  rw [SS.found_like _ |>.best]
  exact rootF_own s.next.aged _ h
/-- how many ports have the role 2 -/
def countR (s : SS) : Nat → Nat
  | 0 => 0
  | k + 1 => countR s k + (if ((s.port k).role == 2) = true then 1 else 0)
theorem countR_le (s : SS) : ∀ k, countR s k ≤ k
  | 0 => Nat.le_refl _
  | k + 1 => by
    have := countR_le s k
    unfold countR
    split <;> omega
theorem tells_count (s : SS) (a : Int) : ∀ k, (s.tellsF (fun _ => true) a k).length = countR s k
  | 0 => rfl
  | k + 1 => by
    have := tells_count s a k
    unfold SS.tellsF countR
    rw [List.length_append, this]
    cases (s.port k).role == 2 <;> rfl
theorem tellsF_mem (s : SS) (p : Nat → Bool) (a : Int) : ∀ k, ∀ o ∈ s.tellsF p a k, ∃ i, i < k ∧ o = ⟨i, s.word i a⟩ ∧ (s.port i).role = 2 ∧ p i = true
  | 0, o, ho => by cases ho
  | k + 1, o, ho => by
    unfold SS.tellsF at ho
    rcases List.mem_append.1 ho with h | h
    · obtain ⟨i, h1, h2⟩ := tellsF_mem s p a k o h
      exact ⟨i, by omega, h2⟩
    · split at h
      · rename_i hc
        simp only [List.mem_singleton] at h
        simp only [Bool.and_eq_true, beq_iff_eq] at hc
        exact ⟨k, by omega, h, hc.1, hc.2⟩
      · cases h
/-- what a tick tells -/
theorem SS.tick_told (s : SS) : (s.tick.2.length = if (decide (s.ticked.root ≥ 0) || s.ticked.now % s.ticked.he != 0) = true then 0 else countR s.ticked s.ticked.ports.length) ∧ ∀ o ∈ s.tick.2, o.w.age = 0 ∧ o.w.r = s.id ∧ o.w.c = 0 := by
  have hs : s.tick.2 = if (decide (s.ticked.root ≥ 0) || s.ticked.now % s.ticked.he != 0) = true then [] else s.ticked.tells (fun _ => true) := rfl
  rw [hs]
  by_cases hc : (decide (s.ticked.root ≥ 0) || s.ticked.now % s.ticked.he != 0) = true
  · rw [if_pos hc, if_pos hc]
    exact ⟨rfl, fun o ho => by cases ho⟩
  · rw [if_neg hc, if_neg hc]
    have hr : s.ticked.root < 0 := by
      simp only [Bool.or_eq_true, decide_eq_true_eq, not_or] at hc
      omega
    have ht : s.ticked.tells (fun _ => true) = s.ticked.tellsF (fun _ => true) 0 s.ticked.ports.length := by
      unfold SS.tells SS.age
      rw [if_pos hr]
      rfl
    rw [ht]
    refine ⟨tells_count _ _ _, fun o ho => ?_⟩
    obtain ⟨i, _, rfl, _⟩ := tellsF_mem _ _ _ _ o ho
    have hb := s.ticked_own hr
    refine ⟨rfl, ?_, ?_⟩
    · show s.ticked.best.r = s.id
      rw [hb]
      rfl
    · show s.ticked.best.c = 0
      rw [hb]
      rfl
end Go.Proofs.Ytdhiaidbpjjljaa
