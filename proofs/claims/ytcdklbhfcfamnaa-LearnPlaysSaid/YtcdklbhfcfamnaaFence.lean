/- Rows and ranges inside a fence (a range over a function). Of no function. By an AI agent. -/
import Derived.Test.YtcdklbhfcfamnaaKeyed
import Derived.RangeFuncNested
import Derived.RangeFuncBound
import Derived.RangeFuncCalls
import Derived.RangeFuncLeaves
import Derived.Shelf.Abstract
import Derived.OwnWalkIn
import Derived.TacticsInMore
import Derived.RegionIn
import Derived.LoopNIn
import Derived.LoopIn
namespace Go.Proofs.Ytcdklbhfcfamnaa
open Go.RowKit Go.MapKept Go.Maps Go.WideShapes

section
variable {F : Fence} {n : Nat} {P : Program} {w : World} {ops : Array Oper} {rest : List Oper} {o : Oper} {a : Act} {Q : Exit → Act → World → Prop}
theorem wpListIn_val {w' : World} (hg : o.guard = none) (hd : ∀ c, o.op ≠ .defer c) (ha : o.about P w a.eval = none) (v : Value) (hrun : (execOp a.eval o).run P w = .ok (.value v) w') (hK : wpListIn F n P ops Q rest (a.put o.dst v) w') : wpListIn F n P ops Q (o :: rest) a w := by
  refine wpListIn_plain hg fun K hK' => ?_
  unfold Oper.wpIn
  refine ⟨fun f h => (by rw [ha] at h; cases h), ?_⟩
  rw [Oper.semAt_plain F _ _ hd, hrun]
  exact hK' _ _ hK
theorem wpListIn_store_row (hg : o.guard = none) (ty : TypeId) (x y : Operand) (ho : o.op = .store ty x y)
    (g : Nat) (cells : Array Value) (hx : a.eval x = .pointer (some ⟨g, 0, none⟩)) (hy : a.eval y = .agg cells)
    (t : TypeId) (old : Array Value) (hr : RowIs w g t old) (hi : (P.info? ty).map (·.size) = some cells.size)
    (hold : old.size = cells.size) (h1 : cells.all (·.oneCell') = true) (B : Nat) (hB : B ≤ g)
    (h : ∀ w', RowIs w' g t cells → (∀ k, k ≠ g → w'.heap[k]? = w.heap[k]?) → w'.heap.size = w.heap.size → Below B w w' → wpListIn F n P ops Q rest (a.put o.dst undef) w') : wpListIn F n P ops Q (o :: rest) a w := by
  refine wpListIn_plain hg fun K hK' => ?_
  unfold Oper.wpIn
  refine ⟨by intro f hf; simp [Oper.about, ho] at hf, ?_⟩
  rw [Oper.semAt_plain F _ _ (by rw [ho]; intro c hc; cases hc)]
  unfold execOp
  simp only [ho, hx, hy, Instr.storeAt, Instr.sureAddr, Sem.run_bind, Sem.run_pure, Result.andThen_ok, run_storeVar_row w g t ty old cells hr hi hold h1]
  exact hK' _ _ (h _ (setRow_heap w g old cells t (0, 0) hr) (fun k hk => setRow_other w g k cells hk) (setRow_size w g cells) (below_setRow (Below.refl B w) hB cells))
theorem wpListIn_load_row (hg : o.guard = none) (ty : TypeId) (x : Operand) (ho : o.op = .load ty x)
    (g : Nat) (hx : a.eval x = .pointer (some ⟨g, 0, none⟩)) (t : TypeId) (cs : Array Value) (d : TypeDesc) (hr : RowIs w g t cs)
    (hu : P.underlying ty = some d) (hd : (match d with | .struct _ | .array _ _ => true | _ => false) = true) (hi : (P.info? ty).map (·.size) = some cs.size)
    (h : wpListIn F n P ops Q rest (a.put o.dst (.agg cs)) w) : wpListIn F n P ops Q (o :: rest) a w := by
  refine wpListIn_plain hg fun K hK' => ?_
  unfold Oper.wpIn
  refine ⟨by intro f hf; simp [Oper.about, ho] at hf, ?_⟩
  rw [Oper.semAt_plain F _ _ (by rw [ho]; intro c hc; cases hc)]
  unfold execOp
  simp only [ho, hx, Instr.loadAt, Instr.sureAddr, Sem.run_bind, Sem.run_pure, Result.andThen_ok, run_loadVar_row w g t ty cs (0, 0) d hr hu hd hi]
  exact hK' _ _ h
theorem gi_at_store_row (ty : TypeId) (x y : Operand) {dst : Option Tmp} {t : TypeId} {pos : String} {aft : Array Edge} {g : Option _}
    (h : wpListIn F n P ops Q (⟨dst, .store ty x y, t, pos, aft, g⟩ :: rest) a w) : wpListIn F n P ops Q (⟨dst, .store ty x y, t, pos, aft, g⟩ :: rest) a w := h
theorem gi_at_load_row (ty : TypeId) (x : Operand) {dst : Option Tmp} {t : TypeId} {pos : String} {aft : Array Edge} {g : Option _}
    (h : wpListIn F n P ops Q (⟨dst, .load ty x, t, pos, aft, g⟩ :: rest) a w) : wpListIn F n P ops Q (⟨dst, .load ty x, t, pos, aft, g⟩ :: rest) a w := h
end

/-- how many an iterator has still to hand out: for a measure -/
def leftAt (w : World) (b r : Nat) : Nat := match w.heap[b]?, w.heap[r]? with
  | some (.map es _), some (.mapIter _ _ seen _) => (es.toList.filter fun e => !seen.contains e.born).length
  | _, _ => 0
theorem IterAt.left_eq {P : Program} {k : TypeId} {w : World} {r b : Nat} {kept left : List KV} (h : IterAt P k w r b kept left) : leftAt w b r = left.length := by
  obtain ⟨es, clock, seen, g1, g2, g3, g4, g5⟩ := h
  unfold leftAt
  rw [g1, g3]
  have := g4.length_eq
  rwa [List.length_map] at this
theorem IterAt.walks {P : Program} {k : TypeId} {w w' : World} {r b : Nat} {kept left : List KV} (h : IterAt P k w r b kept left) (hk : KeepsWalks w w') : IterAt P k w' r b kept left := by
  obtain ⟨es, clock, seen, g1, g2, g3, g4⟩ := h
  exact ⟨es, clock, seen, hk.same b _ g1 rfl, g2, hk.same r _ g3 rfl, g4⟩
theorem IterAt.iter_walk {P : Program} {k : TypeId} {w : World} {r b : Nat} {kept left : List KV} (h : IterAt P k w r b kept left) : ∃ o : Obj, w.heap[r]? = some o ∧ o.isWalk = true := by
  obtain ⟨es, clock, seen, g1, g2, g3, g4⟩ := h
  exact ⟨_, g3, rfl⟩
end Go.Proofs.Ytcdklbhfcfamnaa
