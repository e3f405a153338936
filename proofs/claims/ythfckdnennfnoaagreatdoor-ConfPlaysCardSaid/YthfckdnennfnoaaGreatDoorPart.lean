/- A part of a block of one's own, stored and loaded: a struct in a struct. Of no function. By an AI agent. -/
import Derived.Test.YthfckdnennfnoaaGreatDoorCell
import Derived.Deep.MidRow
namespace Go.Proofs.YthfckdnennfnoaaGreatDoor
open Go.RowKit Go.Sort Grow

/-- the cells with some of them in another's place -/
def putAt (old : List Value) (k : Nat) (vs : List Value) : List Value := old.take k ++ vs ++ old.drop (k + vs.length)

theorem putAt_cons (old : List Value) (k : Nat) (v : Value) (vs : List Value) (hk : k < old.length) : putAt (old.set k v) (k + 1) vs = putAt old k (v :: vs) := by
  unfold putAt
  rw [List.take_set, List.take_succ_eq_append_getElem hk, List.drop_set_of_lt (by omega), List.length_cons]
  have h1 : (old.take k ++ [old[k]]).set k v = old.take k ++ [v] := by
    rw [List.set_append_right _ _ (by rw [List.length_take]; omega)]
    have : k - (old.take k).length = 0 := by rw [List.length_take]; omega
    rw [this]
    rfl
  rw [h1, show k + 1 + vs.length = k + (vs.length + 1) by omega]
  simp

theorem setCells_heap {g : Nat} {t : TypeId} : ∀ (vs : List Value) (k : Nat) (w : World) (old : Array Value), RowIs w g t old → k + vs.length ≤ old.size →
    RowIs (w.setCells g k vs) g t (putAt old.toList k vs).toArray ∧ (∀ j, j ≠ g → (w.setCells g k vs).heap[j]? = w.heap[j]?) ∧ (w.setCells g k vs).heap.size = w.heap.size ∧ (w.setCells g k vs).os = w.os ∧ (w.setCells g k vs).tape = w.tape ∧ (w.setCells g k vs).output = w.output
  | [], k, w, old, h, _ => by
    refine ⟨?_, fun _ _ => rfl, rfl, rfl, rfl, rfl⟩
    have e : (putAt old.toList k []).toArray = old := by
      unfold putAt
      simp
    rw [e]
    exact h
  | v :: vs, k, w, old, h, hl => by
    rw [List.length_cons] at hl
    have h1 : RowIs (w.setCell ⟨g, k, none⟩ v) g t (old.setIfInBounds k v) := heap_setCell_same w g k _ _ _ h
    obtain ⟨a1, a2, a3, a4, a5, a6⟩ := setCells_heap (g := g) (t := t) vs (k + 1) (w.setCell ⟨g, k, none⟩ v) (old.setIfInBounds k v) h1 (by simp; omega)
    have e : (old.setIfInBounds k v).toList = old.toList.set k v := by simp
    rw [e, putAt_cons _ _ _ _ (by simp; omega)] at a1
    refine ⟨a1, fun j hj => (a2 j hj).trans (Below.heap_setCell w _ v j hj), a3.trans (by simp [World.setCell]), a4, a5, a6⟩

section
variable {P : Program}
/-- x.f = v for a struct or an array in a block of one's own -/
theorem wpList_store_part {ops : Array Oper} {rest : List Oper} {o : Oper} {a : Act} {w : World} {Q : Exit → Act → World → Prop} (hgd : Region.wanted o (yielded ops a.tmps) = true) (ty : TypeId) (x y : Operand) (ho : o.op = .store ty x y)
    (g k : Nat) (cells : Array Value) (hx : a.eval x = .pointer (some ⟨g, k, none⟩)) (hy : a.eval y = .agg cells) (t : TypeId) (old : Array Value) (hR : RowIs w g t old) (hk : k + cells.size ≤ old.size)
    (hi : (P.info? ty).map (·.size) = some cells.size) (h1 : cells.all (·.oneCell') = true) (new : Array Value) (hnew : (putAt old.toList k cells.toList).toArray = new) (B : Nat) (hB : B ≤ g)
    (h : ∀ w', RowIs w' g t new → (∀ j, j ≠ g → w'.heap[j]? = w.heap[j]?) → w'.heap.size = w.heap.size → Below B w w' → wpList P ops Q rest (a.put o.dst undef) w') : wpList P ops Q (o :: rest) a w :=
  BigFrame.wpList_want hgd fun _ hK => by
    have ht : w.there g k cells.size := fun j hj => ⟨by rw [hR.cell]; simp; omega, hR.free _⟩
    obtain ⟨a1, a2, a3, a4, a5, a6⟩ := setCells_heap (g := g) (t := t) cells.toList k w old hR (by simpa using hk)
    rw [hnew] at a1
    exact wp_store_mid ty x y ho g k cells hx hy ht hi h1 (hK _ _ (h _ a1 a2 a3 ⟨a4, a5, a6, Nat.le_of_eq a3.symm, fun j hj => a2 j (by omega)⟩))

/-- a struct or an array in a block, loaded -/
theorem wpList_load_part {ops : Array Oper} {rest : List Oper} {op : Oper} {a : Act} {w : World} {Q : Exit → Act → World → Prop} (hgd : Region.wanted op (yielded ops a.tmps) = true) (ty : TypeId) (x : Operand) (ho : op.op = .load ty x)
    (b o : Nat) (hx : a.eval x = .pointer (some ⟨b, o, none⟩)) (t : TypeId) (row : Array Value) (hR : RowIs w b t row) (cs : List Value) (hcs : (row.toList.drop o).take cs.length = cs) (d : TypeDesc)
    (hu : P.underlying ty = some d) (hd : d.isRow = true) (hi : (P.info? ty).map (·.size) = some cs.length)
    (h : wpList P ops Q rest (a.put op.dst (.agg cs.toArray)) w) : wpList P ops Q (op :: rest) a w :=
  BigFrame.wpList_want hgd fun _ hK => wp_load_mid ty x ho b o hx cs d (fun j v hj => by
    have hl := (List.getElem?_eq_some_iff.1 hj).1
    rw [hR.cell, ← Array.getElem?_toList]
    rw [← hcs, List.getElem?_take_of_lt hl, List.getElem?_drop] at hj
    exact hj) hu hd hi (hK _ _ h)
end
end Go.Proofs.YthfckdnennfnoaaGreatDoor
