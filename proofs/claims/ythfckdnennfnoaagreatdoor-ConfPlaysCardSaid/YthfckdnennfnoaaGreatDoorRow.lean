/- Whole rows of memory, stored and loaded; a struct as a result. Of no function. By an AI agent. -/
import Derived.Test.YthfckdnennfnoaaGreatDoorBytes
import Derived.Laws.Rows
import Derived.Laws.Tables
import Derived.Laws.CopyOwn
namespace Go.Proofs.YthfckdnennfnoaaGreatDoor
open Go.RowKit

/-- block n is a row of cells of type t -/
def RowIs (w : World) (n : Nat) (t : TypeId) (cs : Array Value) : Prop := w.heap[n]? = some (.cells cs t (0, 0))

theorem RowIs.lt {w : World} {n : Nat} {t : TypeId} {cs : Array Value} (h : RowIs w n t cs) : n < w.heap.size := (Array.getElem?_eq_some_iff.1 h).1
theorem RowIs.cell {w : World} {n : Nat} {t : TypeId} {cs : Array Value} (h : RowIs w n t cs) (j : Nat) : w.cell? ⟨n, j, none⟩ = cs[j]? := by simp [World.cell?, show w.heap[n]? = some (.cells cs t (0, 0)) from h]
theorem RowIs.free {w : World} {n : Nat} {t : TypeId} {cs : Array Value} (h : RowIs w n t cs) (j : Nat) : w.frozen? ⟨n, j, none⟩ = false := frozen_of_row w n j cs t h
theorem RowIs.below {w w' : World} {n B : Nat} {t : TypeId} {cs : Array Value} (h : RowIs w n t cs) (hb : Below B w w') (hn : n < B) : RowIs w' n t cs := (hb.block n hn).trans h
theorem RowIs.kept {w w' : World} {n : Nat} {t : TypeId} {cs : Array Value} (h : RowIs w n t cs) (hb : Below w.heap.size w w') : RowIs w' n t cs := h.below hb h.lt
theorem RowIs.alloc {w : World} {n : Nat} {t : TypeId} {cs : Array Value} (h : RowIs w n t cs) (o : Obj) : RowIs (w.alloc o) n t cs := (Below.heap_alloc w o n h.lt).trans h
theorem RowIs.drew {w : World} {n : Nat} {t : TypeId} {cs : Array Value} (h : RowIs w n t cs) : RowIs w.drew n t cs := h
theorem RowIs.drewN {w : World} {n : Nat} {t : TypeId} {cs : Array Value} (h : RowIs w n t cs) (k : Nat) : RowIs (w.drewN k) n t cs := h
theorem rowIs_new (w : World) (t : TypeId) (cs : Array Value) : RowIs (w.alloc (.cells cs t)) w.heap.size t cs := (MapKept.heap_alloc w _).1

section
variable {P : Program}
/-- guards: the next operation is a store, a load, a conversion with these operands -/
theorem at_store {ops : Array Oper} {rest : List Oper} {a : Act} {w : World} {Q : Exit → Act → World → Prop} (ty : TypeId) (x y : Operand) {dst : Option Tmp} {t : TypeId} {pos : String} {aft : Array Edge} {g : Option _}
    (h : wpList P ops Q (⟨dst, .store ty x y, t, pos, aft, g⟩ :: rest) a w) : wpList P ops Q (⟨dst, .store ty x y, t, pos, aft, g⟩ :: rest) a w := h
theorem at_load {ops : Array Oper} {rest : List Oper} {a : Act} {w : World} {Q : Exit → Act → World → Prop} (ty : TypeId) (x : Operand) {dst : Option Tmp} {t : TypeId} {pos : String} {aft : Array Edge} {g : Option _}
    (h : wpList P ops Q (⟨dst, .load ty x, t, pos, aft, g⟩ :: rest) a w) : wpList P ops Q (⟨dst, .load ty x, t, pos, aft, g⟩ :: rest) a w := h
theorem at_conv {ops : Array Oper} {rest : List Oper} {a : Act} {w : World} {Q : Exit → Act → World → Prop} (ty te : TypeId) (x : Operand) {dst : Option Tmp} {t : TypeId} {pos : String} {aft : Array Edge} {g : Option _}
    (h : wpList P ops Q (⟨dst, .convert ty te x, t, pos, aft, g⟩ :: rest) a w) : wpList P ops Q (⟨dst, .convert ty te x, t, pos, aft, g⟩ :: rest) a w := h

/-- x = v for a whole struct or array in a block of its own -/
theorem wpList_store_own {ops : Array Oper} {rest : List Oper} {o : Oper} {a : Act} {w : World} {Q : Exit → Act → World → Prop} (hgd : Region.wanted o (yielded ops a.tmps) = true) (ty : TypeId) (x y : Operand) (ho : o.op = .store ty x y)
    (g : Nat) (cells : Array Value) (hx : a.eval x = .pointer (some ⟨g, 0, none⟩)) (hy : a.eval y = .agg cells)
    (t : TypeId) (old : Array Value) (hg : RowIs w g t old) (hi : (P.info? ty).map (·.size) = some cells.size)
    (hold : old.size = cells.size) (h1 : cells.all (·.oneCell') = true) (B : Nat) (hB : B ≤ g)
    (h : ∀ w', RowIs w' g t cells → (∀ k, k ≠ g → w'.heap[k]? = w.heap[k]?) → w'.heap.size = w.heap.size → Below B w w' → wpList P ops Q rest (a.put o.dst undef) w') : wpList P ops Q (o :: rest) a w :=
  BigFrame.wpList_want hgd fun _ hK => wp_store_row ty x y ho g cells hx hy t old hg hi hold h1
    (hK _ _ (h _ (setRow_heap w g old cells t (0, 0) hg) (fun k hk => setRow_other w g k cells hk) (setRow_size w g cells) (below_setRow (Below.refl B w) hB cells)))

theorem wpList_load_own {ops : Array Oper} {rest : List Oper} {o : Oper} {a : Act} {w : World} {Q : Exit → Act → World → Prop} (hgd : Region.wanted o (yielded ops a.tmps) = true) (ty : TypeId) (x : Operand) (ho : o.op = .load ty x)
    (g : Nat) (hx : a.eval x = .pointer (some ⟨g, 0, none⟩)) (t : TypeId) (cs : Array Value) (d : TypeDesc) (hg : RowIs w g t cs)
    (hu : P.underlying ty = some d) (hd : (match d with | .struct _ | .array _ _ => true | _ => false) = true) (hi : (P.info? ty).map (·.size) = some cs.size)
    (h : wpList P ops Q rest (a.put o.dst (.agg cs)) w) : wpList P ops Q (o :: rest) a w :=
  BigFrame.wpList_want hgd fun _ hK => wp_load_row ty x ho g hx t cs (0, 0) d hg hu hd hi (hK _ _ h)

/-- a struct that is the first of three results -/
theorem results_row_tmp2 {fn : Func} {p u v : Tmp} {ty : TypeId} (h : fn.results = #[.cell p ty, .tmp u, .tmp v]) (tmps : Array Value) (w : World) (g : Nat) (t : TypeId) (cs : Array Value) (d : TypeDesc)
    (hp : tmps.getD p undef = .pointer (some ⟨g, 0, none⟩)) (hg : RowIs w g t cs)
    (hu : P.underlying ty = some d) (hd : (match d with | .struct _ | .array _ _ => true | _ => false) = true) (hi : (P.info? ty).map (·.size) = some cs.size) :
    (results fn tmps).run P w = .ok (.tuple #[.agg cs, tmps.getD u undef, tmps.getD v undef]) w := by
  have hp' : tmps[p]?.getD undef = .pointer (some ⟨g, 0, none⟩) := by simpa using hp
  simp [results, h, hp', asAddr, run_loadVar_row w g t ty cs (0, 0) d hg hu hd hi]

theorem results_row_tmp1 {fn : Func} {p u : Tmp} {ty : TypeId} (h : fn.results = #[.cell p ty, .tmp u]) (tmps : Array Value) (w : World) (g : Nat) (t : TypeId) (cs : Array Value) (d : TypeDesc)
    (hp : tmps.getD p undef = .pointer (some ⟨g, 0, none⟩)) (hg : RowIs w g t cs)
    (hu : P.underlying ty = some d) (hd : (match d with | .struct _ | .array _ _ => true | _ => false) = true) (hi : (P.info? ty).map (·.size) = some cs.size) :
    (results fn tmps).run P w = .ok (.tuple #[.agg cs, tmps.getD u undef]) w := by
  have hp' : tmps[p]?.getD undef = .pointer (some ⟨g, 0, none⟩) := by simpa using hp
  simp [results, h, hp', asAddr, run_loadVar_row w g t ty cs (0, 0) d hg hu hd hi]

theorem results_row {fn : Func} {p : Tmp} {ty : TypeId} (h : fn.results = #[.cell p ty]) (tmps : Array Value) (w : World) (g : Nat) (t : TypeId) (cs : Array Value) (d : TypeDesc)
    (hp : tmps.getD p undef = .pointer (some ⟨g, 0, none⟩)) (hg : RowIs w g t cs)
    (hu : P.underlying ty = some d) (hd : (match d with | .struct _ | .array _ _ => true | _ => false) = true) (hi : (P.info? ty).map (·.size) = some cs.size) :
    (results fn tmps).run P w = .ok (.agg cs) w :=
  results_cell_row h tmps w g t cs (0, 0) d hp hg hu hd hi
end
end Go.Proofs.YthfckdnennfnoaaGreatDoor
