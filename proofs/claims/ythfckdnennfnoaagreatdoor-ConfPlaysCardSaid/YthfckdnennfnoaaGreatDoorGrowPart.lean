/- In a drawn region that writes into one old block: a part of a block is loaded, a struct is stored. Of no function. By an AI agent. -/
import Derived.Test.YthfckdnennfnoaaGreatDoorPart
namespace Go.Proofs.YthfckdnennfnoaaGreatDoor
open Go.RowKit Go.Sort Grow

theorem putAt_get {old vs : List Value} {k : Nat} (h : k + vs.length ≤ old.length) (j : Nat) : (putAt old k vs)[j]? = if j < k then old[j]? else if j < k + vs.length then vs[j - k]? else old[j]? := by
  unfold putAt
  by_cases h1 : j < k
  · rw [if_pos h1, List.append_assoc, List.getElem?_append_left (by rw [List.length_take]; omega), List.getElem?_take_of_lt h1]
  · rw [if_neg h1, List.append_assoc, List.getElem?_append_right (by rw [List.length_take]; omega)]
    have e : j - (old.take k).length = j - k := by rw [List.length_take]; omega
    rw [e]
    by_cases h2 : j < k + vs.length
    · rw [if_pos h2, List.getElem?_append_left (by omega)]
    · rw [if_neg h2, List.getElem?_append_right (by omega), List.getElem?_drop]
      congr 1
      omega
theorem putAt_length {old vs : List Value} {k : Nat} (h : k + vs.length ≤ old.length) : (putAt old k vs).length = old.length := by
  unfold putAt
  simp
  omega

namespace Grow
variable {P : Program} {ops : Array Oper} {w0 : World} {a : Act} {S : List (Tmp × Fact)} {o : Oper}

/-- a part of a block is loaded that nothing writes -/
theorem exact_loadL {g : Nat} {T : List (Nat × Value)} {ty t : TypeId} {x : Tmp} {b off : Nat} {cs : Array Value} {sub : List Value} {d : TypeDesc} (ho : o.op = .load ty (.tmp x)) (hx : a.eval (.tmp x) = .pointer (some ⟨b, off, none⟩)) (hS : x ∉ S.map Prod.fst) (hR : RowIs w0 b t cs)
    (hs : (cs.toList.drop off).take sub.length = sub) (hT : b ≠ g ∨ ∀ p ∈ T, p.1 < off ∨ off + sub.length ≤ p.1) (hu : P.underlying ty = some d) (hd : d.isRow = true) (hi : (P.info? ty).map (·.size) = some sub.length) :
    Owes (WLe g T) P ops w0 a S o (fun _ u => u = .agg sub.toArray) := by
  intro ρ w hle _ h2
  have hm : x ∈ o.looksAt ops := by simp [Oper.looksAt, ho, Op.operands]
  have h := h2 x hm hS
  rw [hx] at h
  have hr : w.rangeAt b off sub := by
    have h0 := range_of_row (off := off) (sub := sub) hR hs
    by_cases hb : b = g
    · subst hb
      obtain ⟨cs', hr', _, e⟩ := hle.2 t cs hR
      intro j v hj
      have hjl := (List.getElem?_eq_some_iff.1 hj).1
      have h1 := h0 j v hj
      rw [hR.cell] at h1
      rw [hr'.cell]
      rcases e (off + j) with e | ⟨u, hu, _⟩
      · exact e.trans h1
      · rcases hT with hT | hT
        · exact absurd rfl hT
        · have := hT _ hu
          simp only at this
          omega
    · intro j v hj
      have e : w.heap[b]? = w0.heap[b]? := hle.1.block b hR.lt (fun e => hb (Option.some.inj e))
      rw [World.cell?_of_block (w := w0) e]
      exact h0 j v hj
  unfold gives execOp
  simp only [ho, h, Instr.loadAt, Instr.sureAddr, Sem.run_bind, Sem.run_pure, Result.andThen_ok, run_loadVar_mid (P := P) w b off ty sub d hr hu hd hi]
  exact ⟨(wle_ok g T).refl _, trivial⟩

/-- the block holds the cells there -/
def PartAt (g : Nat) (t : TypeId) (k : Nat) (cells : Array Value) : Fact := fun w _ => ∃ cs, RowIs w g t cs ∧ ∀ j v, cells[j]? = some v → cs[k + j]? = some v
theorem stable_partAt {g : Nat} {T : List (Nat × Value)} (t : TypeId) {k : Nat} {cells : Array Value} (h : ∀ j v u, cells[j]? = some v → (k + j, u) ∈ T → u = v) : Stable (WLe g T) (PartAt g t k cells) := fun w w' u hle ⟨cs, hr, hk⟩ => by
  obtain ⟨cs', hr', _, e⟩ := hle.2 t cs hr
  refine ⟨cs', hr', fun j v hj => ?_⟩
  rcases e (k + j) with e | ⟨u, hu, e⟩
  · exact e.trans (hk j v hj)
  · rw [e, h j v u hj hu]

theorem owes_store_part {g k : Nat} {T : List (Nat × Value)} {ty t : TypeId} {x y : Tmp} {cells cs0 : Array Value} (ho : o.op = .store ty (.tmp x) (.tmp y)) (hx : a.eval (.tmp x) = .pointer (some ⟨g, k, none⟩)) (hy : a.eval (.tmp y) = .agg cells)
    (hSx : x ∉ S.map Prod.fst) (hSy : y ∉ S.map Prod.fst) (hR : RowIs w0 g t cs0) (hk : k + cells.size ≤ cs0.size) (hi : (P.info? ty).map (·.size) = some cells.size) (h1 : cells.all (·.oneCell') = true) (hT : ∀ j v, cells[j]? = some v → (k + j, v) ∈ T) :
    Owes (WLe g T) P ops w0 a S o (PartAt g t k cells) := by
  intro ρ w hle _ h2
  have ex := h2 x (by simp [Oper.looksAt, ho, Op.operands]) hSx
  have ey := h2 y (by simp [Oper.looksAt, ho, Op.operands]) hSy
  rw [hx] at ex
  rw [hy] at ey
  obtain ⟨cs, hr, hsz, _⟩ := hle.2 t cs0 hR
  have ht : w.there g k cells.size := fun j hj => ⟨by rw [hr.cell]; simp; omega, hr.free _⟩
  have hkl : k + cells.toList.length ≤ cs.toList.length := by simp; omega
  obtain ⟨a1, a2, a3, a4, a5, a6⟩ := setCells_heap (g := g) (t := t) cells.toList k w cs hr (by simpa using hkl)
  unfold gives execOp
  simp only [ho, ex, ey, Instr.storeAt, Instr.sureAddr, Sem.run_bind, Sem.run_pure, Result.andThen_ok, run_storeVar_mid (P := P) w g k ty cells ht hi h1]
  refine ⟨⟨⟨a4, a5, a6, Nat.le_of_eq a3.symm, fun j hj hne => a2 j (fun e => hne (by rw [e]))⟩, fun t' cs' hr' => ?_⟩, _, a1, fun j v hj => ?_⟩
  · have e1 : t = t' ∧ cs = cs' := by
      unfold RowIs at hr hr'
      rw [hr] at hr'
      simp at hr'
      exact ⟨hr'.2, hr'.1⟩
    obtain ⟨rfl, rfl⟩ := e1
    refine ⟨_, a1, by simpa using putAt_length hkl, fun j => ?_⟩
    rw [List.getElem?_toArray, putAt_get hkl]
    by_cases h3 : j < k
    · rw [if_pos h3]
      exact .inl (by simp)
    · rw [if_neg h3]
      by_cases h4 : j < k + cells.toList.length
      · rw [if_pos h4]
        have hl : j - k < cells.size := by simp at h4; omega
        refine .inr ⟨cells[j - k], ?_, by simp [hl]⟩
        have := hT (j - k) cells[j - k] (by simp [hl])
        rwa [show k + (j - k) = j by omega] at this
      · rw [if_neg h4]
        exact .inl (by simp)
  · have hl := (Array.getElem?_eq_some_iff.1 hj).1
    rw [List.getElem?_toArray, putAt_get hkl, if_neg (by omega), if_pos (by simp; omega), show k + j - k = j by omega]
    rw [Array.getElem?_toList]
    exact hj
end Grow
end Go.Proofs.YthfckdnennfnoaaGreatDoor
