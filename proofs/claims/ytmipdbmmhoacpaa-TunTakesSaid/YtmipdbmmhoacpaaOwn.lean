/- Lists of rows that are only read, and lists that have been appended. Of no function. By an AI agent. -/
import Derived.Test.YtmipdbmmhoacpaaOpenFresh
namespace Go.Proofs.Ytmipdbmmhoacpaa
open Go.RowKit Go.Sort Grow

/-- the slice at ao holds these, each of k cells -/
def RowsAt {α : Type} (w : World) (ao : Option Addr) (enc : α → List Value) (k : Nat) (vs : List α) : Prop := vs = [] ∨ ∃ b off, ao = some ⟨b, off, none⟩ ∧ b < w.heap.size ∧ ∀ i (h : i < vs.length) j v, (enc vs[i])[j]? = some v → w.cell? ⟨b, off + i * k + j, none⟩ = some v
theorem owns_same {w w' : World} {base : Nat} {e : TypeId} {size : Nat} {v : Value} {n : Nat} {xs : List Value} (h : w.ownsRow base e size v n xs) (ho : ∀ m, base ≤ m → w'.heap[m]? = w.heap[m]?) : w'.ownsRow base e size v n xs := by
  refine ⟨h.1, ?_⟩
  rcases h.2 with h2 | ⟨g', cap', cur, a1, a2, a3, a4⟩
  · exact .inl h2
  · exact .inr ⟨g', cap', cur, a1, a2, (ho _ a2).trans a3, a4⟩
/-- these have been appended, in memory of one's own -/
def RowsFrom {α : Type} (w : World) (base : Nat) (e : TypeId) (k : Nat) (enc : α → List Value) (v : Value) (vs : List α) : Prop := ∃ la lc, v = .slice la vs.length lc ∧ w.ownsRow base e k (.slice la vs.length lc) vs.length (vs.flatMap enc)
section
variable {α : Type} {w w' : World} {base : Nat} {e : TypeId} {k : Nat} {enc : α → List Value} {v : Value} {vs : List α}
theorem rowsFrom_nil : RowsFrom w base e k enc (.slice none 0 0) [] := ⟨none, 0, rfl, World.ownsRow_nil _ _ _ _⟩
theorem RowsFrom.later (h : RowsFrom w base e k enc v vs) (hb : Below w.heap.size w w') : RowsFrom w' base e k enc v vs := by
  obtain ⟨la, lc, e, h⟩ := h
  exact ⟨la, lc, e, owns_later h hb⟩
theorem RowsFrom.same (h : RowsFrom w base e k enc v vs) (ho : ∀ m, base ≤ m → w'.heap[m]? = w.heap[m]?) : RowsFrom w' base e k enc v vs := by
  obtain ⟨la, lc, e, h⟩ := h
  exact ⟨la, lc, e, owns_same h ho⟩
theorem RowsFrom.kept (h : RowsFrom w base e k enc v vs) {e' : TypeId} {k' : Nat} {v' : Value} {n' : Nat} {xs' : List Value} (h' : w.ownsRow base e' k' v' n' xs') (hne : e ≠ e') (hg : w.grownBy w' v'.ownBlock) : RowsFrom w' base e k enc v vs := by
  obtain ⟨la, lc, e1, h⟩ := h
  refine ⟨la, lc, e1, h.1, ?_⟩
  rcases h.2 with h2 | ⟨g1, cap1, cur, a1, a2, a3, a4⟩
  · exact .inl h2
  · refine .inr ⟨g1, cap1, cur, a1, a2, ?_, a4⟩
    rw [hg.block g1 (Array.getElem?_eq_some_iff.1 a3).1 (fun e2 => ?_), a3]
    rcases h'.2 with ⟨rfl, _⟩ | ⟨g2, cap2, cur2, rfl, b2, b3, b4⟩
    · cases e2
    · simp only [Value.ownBlock, Option.some.injEq] at e2
      subst e2
      rw [a3] at b3
      simp only [Option.some.injEq, Obj.cells.injEq] at b3
      exact hne b3.2.1
theorem rowsFrom_app {x : α} (h : w.ownsRow base e k v (vs.length + 1) (vs.flatMap enc ++ enc x)) : RowsFrom w base e k enc v (vs ++ [x]) := by
  obtain ⟨la, lc, rfl⟩ : ∃ la lc, v = .slice la (vs.length + 1) lc := by
    rcases h.2 with ⟨_, e0⟩ | ⟨g', c', _, e', _⟩
    · omega
    · exact ⟨_, _, e'⟩
  refine ⟨la, lc, by simp, ?_⟩
  rw [List.flatMap_append, List.length_append]
  simpa using h
theorem flat_get18 {enc : α → List Value} {k : Nat} (hk : ∀ a, (enc a).length = k) : ∀ (ds : List α) (i j : Nat) (hi : i < ds.length), j < k → (ds.flatMap enc)[i * k + j]? = (enc ds[i])[j]?
  | [], i, j, hi, _ => absurd hi (Nat.not_lt_zero _)
  | d :: ds, 0, j, _, hj => by
    rw [List.flatMap_cons, Nat.zero_mul, Nat.zero_add, List.getElem?_append_left (by rw [hk]; exact hj)]
    rfl
  | d :: ds, i + 1, j, hi, hj => by
    have e : (i + 1) * k + j = (enc d).length + (i * k + j) := by rw [hk, Nat.succ_mul]; omega
    rw [List.flatMap_cons, e, List.getElem?_append_right (by omega), Nat.add_sub_cancel_left, flat_get18 hk ds i j (by simpa using hi) hj]
    rfl
theorem RowsFrom.at (hk : ∀ a, (enc a).length = k) (h : RowsFrom w base e k enc v vs) : ∃ ao cap, v = .slice ao vs.length cap ∧ RowsAt w ao enc k vs := by
  obtain ⟨la, lc, rfl, h⟩ := h
  refine ⟨la, lc, rfl, ?_⟩
  rcases h.2 with ⟨_, e0⟩ | ⟨g, c', cur, e1, hB', hgr, hle, hm, hcs, ht⟩
  · exact .inl (List.eq_nil_of_length_eq_zero e0)
  · simp only [Value.slice.injEq] at e1
    refine .inr ⟨g, 0, e1.1, (Array.getElem?_eq_some_iff.1 hgr).1, fun i hi j v hj => ?_⟩
    have hj25 : j < k := by
      have := (List.getElem?_eq_some_iff.1 hj).1
      rwa [hk] at this
    have hR : RowIs w g e cur := hgr
    rw [Nat.zero_add, hR.cell]
    have h1 := flat_get18 (enc := enc) hk vs i j hi hj25
    have hlt : i * k + j < vs.length * k := by
      have := Nat.mul_le_mul_right k (show i + 1 ≤ vs.length from hi)
      rw [Nat.succ_mul] at this
      omega
    rw [hj, ← ht, List.getElem?_take_of_lt hlt, Array.getElem?_toList] at h1
    exact h1
theorem RowsFrom.at2 (hk : ∀ a, (enc a).length = k) {ao : Option Addr} {n cap : Nat} (h : RowsFrom w base e k enc (.slice ao n cap) vs) : RowsAt w ao enc k vs := by
  obtain ⟨ao', cap', e', h'⟩ := h.at hk
  simp only [Value.slice.injEq] at e'
  rw [e'.1]
  exact h'
end


/-- a part of a flat list -/
theorem flat_set18 {α : Type} {enc : α → List Value} {k : Nat} (hk : ∀ a, (enc a).length = k) {j : Nat} (hj : j < k) {v : Value} {t t' : α} (he : (enc t).set j v = enc t') : ∀ (A C : List α), ((A ++ t :: C).flatMap enc).set (A.length * k + j) v = (A ++ t' :: C).flatMap enc
  | [], C => by
    simp only [List.nil_append, List.flatMap_cons, List.length_nil, Nat.zero_mul, Nat.zero_add]
    rw [List.set_append_left _ _ (by rw [hk]; exact hj), he]
  | a :: A, C => by
    have e : (a :: A).length * k + j = (enc a).length + (A.length * k + j) := by rw [hk, List.length_cons, Nat.succ_mul]; omega
    rw [List.cons_append, List.flatMap_cons, e, List.set_append_right _ _ (by omega), Nat.add_sub_cancel_left, flat_set18 hk hj he A C]
    rfl
/-- rows in a block of one's own -/
structure OwnT {α : Type} (w : World) (base g cap : Nat) (e : TypeId) (k : Nat) (enc : α → List Value) (cur : Array Value) (L : List α) : Prop where
  bs : base ≤ g
  row : RowIs w g e cur
  le : L.length ≤ cap
  mx : cap ≤ maxLen
  sz : cur.size = cap * k
  tk : cur.toList.take (L.length * k) = L.flatMap enc
section
variable {α : Type} {w w' : World} {base g cap : Nat} {e : TypeId} {k : Nat} {enc : α → List Value} {cur : Array Value} {L : List α}
theorem flat_len18 (hk : ∀ a, (enc a).length = k) : ∀ L : List α, (L.flatMap enc).length = L.length * k
  | [] => by simp
  | a :: L => by rw [List.flatMap_cons, List.length_append, hk, flat_len18 hk L, List.length_cons, Nat.succ_mul]; omega
theorem OwnT.owns (hk : ∀ a, (enc a).length = k) (h : OwnT w base g cap e k enc cur L) : w.ownsRow base e k (.slice (some ⟨g, 0, none⟩) L.length cap) L.length (L.flatMap enc) :=
  ⟨flat_len18 hk L, .inr ⟨g, cap, cur, rfl, h.bs, h.row, h.le, h.mx, h.sz, h.tk⟩⟩
theorem OwnT.of {v : Value} (h : w.ownsRow base e k v L.length (L.flatMap enc)) (hn : 0 < L.length) : ∃ g cap cur, v = .slice (some ⟨g, 0, none⟩) L.length cap ∧ OwnT w base g cap e k enc cur L := by
  rcases h.2 with ⟨_, e0⟩ | ⟨g, cap, cur, e1, hB, hg, hle, hm, hcs, ht⟩
  · omega
  · exact ⟨g, cap, cur, e1, hB, hg, hle, hm, hcs, ht⟩
theorem OwnT.later (h : OwnT w base g cap e k enc cur L) (hb : Below w.heap.size w w') : OwnT w' base g cap e k enc cur L := ⟨h.bs, h.row.kept hb, h.le, h.mx, h.sz, h.tk⟩
theorem OwnT.cell (hk : ∀ a, (enc a).length = k) (h : OwnT w base g cap e k enc cur L) {i j : Nat} (hi : i < L.length) {v : Value} (hv : (enc L[i])[j]? = some v) : w.cell? ⟨g, i * k + j, none⟩ = some v := by
  have hj : j < k := by
    have := (List.getElem?_eq_some_iff.1 hv).1
    rwa [hk] at this
  have hlt : i * k + j < L.length * k := by
    have := Nat.mul_le_mul_right k (show i + 1 ≤ L.length from hi)
    rw [Nat.succ_mul] at this
    omega
  rw [h.row.cell, ← Array.getElem?_toList]
  have h1 := flat_get18 (enc := enc) hk L i j hi hj
  rw [← h.tk, List.getElem?_take_of_lt hlt] at h1
  rw [h1, hv]
theorem OwnT.set (hk : ∀ a, (enc a).length = k) {A C : List α} {t t' : α} {j : Nat} {v : Value} (h : OwnT w base g cap e k enc cur (A ++ t :: C)) (hj : j < k) (he : (enc t).set j v = enc t') (hR : RowIs w' g e (cur.setIfInBounds (A.length * k + j) v)) : OwnT w' base g cap e k enc (cur.setIfInBounds (A.length * k + j) v) (A ++ t' :: C) := by
  refine ⟨h.bs, hR, by have := h.le; simpa using this, h.mx, by rw [Array.size_setIfInBounds]; exact h.sz, ?_⟩
  have hl : (A ++ t' :: C).length = (A ++ t :: C).length := by simp
  rw [← flat_set18 hk hj he, ← h.tk, Array.toList_setIfInBounds, List.take_set, hl]
theorem OwnT.at (hk : ∀ a, (enc a).length = k) (h : OwnT w base g cap e k enc cur L) : RowsAt w (some ⟨g, 0, none⟩) enc k L :=
  .inr ⟨g, 0, rfl, h.row.lt, fun i hi j v hv => by rw [Nat.zero_add]; exact h.cell hk hi hv⟩
/-- a list's cells, as what is appended -/
theorem rows_news (hk : ∀ a, (enc a).length = k) {b off : Nat} {L : List α} (h : ∀ i (h : i < L.length) j v, (enc L[i])[j]? = some v → w.cell? ⟨b, off + i * k + j, none⟩ = some v) (hk0 : 0 < k) : ∀ j u, (L.flatMap enc)[j]? = some u → w.cell? ((⟨b, off, none⟩ : Addr).add j) = some u := fun j u hu => by
  have hj : j < L.length * k := by
    have := (List.getElem?_eq_some_iff.1 hu).1
    rwa [flat_len18 hk] at this
  have hi : j / k < L.length := Nat.div_lt_of_lt_mul (by rw [Nat.mul_comm]; exact hj)
  have hr := Nat.mod_lt j hk0
  have e : j / k * k + j % k = j := by rw [Nat.mul_comm]; exact Nat.div_add_mod j k
  rw [addr_add', ← e, ← Nat.add_assoc]
  refine h _ hi _ _ ?_
  rw [← flat_get18 hk L _ _ hi hr, e]
  exact hu
end
end Go.Proofs.Ytmipdbmmhoacpaa
