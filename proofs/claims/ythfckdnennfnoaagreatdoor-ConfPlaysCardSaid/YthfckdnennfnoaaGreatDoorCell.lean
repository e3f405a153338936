/- One cell of a block of one's own is stored. By an AI agent. -/
import Derived.Test.YthfckdnennfnoaaGreatDoorGrowKit
namespace Go.Proofs.YthfckdnennfnoaaGreatDoor
open Go.RowKit Go.Sort Grow

section
variable {P : Program}
theorem run_storeAt_cell {w : World} {g k : Nat} {ty t : TypeId} {v : Value} {cs : Array Value} (hR : RowIs w g t cs) (hk : k < cs.size) (hi : (P.info? ty).map (·.size) = some 1) (hv : v.oneCell' = true) :
    (Instr.storeAt ty (.pointer (some ⟨g, k, none⟩)) v).run P w = .ok () (w.setCell ⟨g, k, none⟩ v) := by
  obtain ⟨i, hi', hs⟩ := Option.map_eq_some_iff.1 hi
  have hc : w.cell? ⟨g, k, none⟩ = some cs[k] := by rw [hR.cell k]; exact Array.getElem?_eq_getElem hk
  have hf := hR.free k
  have hcells : v.cells = #[v] := by cases v <;> simp_all [Value.oneCell', Value.cells]
  have hst : (store ⟨g, k, none⟩ v).run P w = .ok () (w.setCell ⟨g, k, none⟩ v) := by
    have : (store ⟨g, k, none⟩ v).run P w = stored P w ⟨g, k, none⟩ v .plain := by
      cases v <;> first | (simp [Value.oneCell'] at hv; done) | exact run_store P w _ _ .plain rfl
    rw [this]
    simp [stored, hc, hf]
  have hadd : (⟨g, k, none⟩ : Addr).add 0 = ⟨g, k, none⟩ := by simp [Addr.add]
  simp [Instr.storeAt, Instr.sureAddr, storeVar, sizeOf, typeInfo, hi', hs, hcells, storeCells, hadd, hst]

/-- x.f = v, one cell, in a block of one's own -/
theorem wpList_store_cell {ops : Array Oper} {rest : List Oper} {o : Oper} {a : Act} {w : World} {Q : Exit → Act → World → Prop} (hgd : Region.wanted o (yielded ops a.tmps) = true) (ty : TypeId) (x y : Operand) (ho : o.op = .store ty x y)
    (g k : Nat) (v : Value) (hx : a.eval x = .pointer (some ⟨g, k, none⟩)) (hy : a.eval y = v) (t : TypeId) (cs : Array Value) (hR : RowIs w g t cs) (hk : k < cs.size) (hi : (P.info? ty).map (·.size) = some 1) (hv : v.oneCell' = true) (B : Nat) (hB : B ≤ g)
    (h : ∀ w', RowIs w' g t (cs.setIfInBounds k v) → (∀ j, j ≠ g → w'.heap[j]? = w.heap[j]?) → w'.heap.size = w.heap.size → Below B w w' → wpList P ops Q rest (a.put o.dst undef) w') : wpList P ops Q (o :: rest) a w :=
  BigFrame.wpList_want hgd fun _ hK => by
    unfold Oper.wp execOp
    simp only [ho, hx, hy, Sem.run_bind, run_storeAt_cell hR hk hi hv, Result.andThen_ok, Sem.run_pure]
    have hold : ∀ j, j ≠ g → (w.setCell ⟨g, k, none⟩ v).heap[j]? = w.heap[j]? := fun j hj => Below.heap_setCell w _ v j hj
    exact hK _ _ (h _ (heap_setCell_same w g k _ _ _ hR) hold (by simp [World.setCell]) ⟨rfl, rfl, rfl, by simp [World.setCell], fun j hj => hold j (by omega)⟩)
end
end Go.Proofs.YthfckdnennfnoaaGreatDoor
