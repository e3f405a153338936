/- Reading an address of N numbers, piece by piece: what lies in memory; strings.SplitSeq. By an AI agent. -/
import Derived.Test.YtknnadnjikfibaaDoorSplit
import Derived.Test.YtknnadnjikfibaaDoorQuietR
import Derived.Test.YtknnadnjikfibaaDoorRow
namespace Go.Proofs.YtknnadnjikfibaaDoor
open Go.RowKit

theorem RowIs.turned {W W' : World} {n : Nat} {t : TypeId} {cs : Array Value} {row : Option Nat} (h : RowIs W n t cs) (hg : W.grownBy W' row) (hr : ∀ r, row = some r → r ≠ n) : RowIs W' n t cs :=
  (hg.block n h.lt (fun e => hr n e.symm rfl)).trans h
theorem RowIs.setOne {w : World} {n : Nat} {t : TypeId} {cs : Array Value} (h : RowIs w n t cs) (k : Nat) (v : Value) : RowIs (w.setCell ⟨n, k, none⟩ v) n t (cs.setIfInBounds k v) := by
  obtain ⟨hlt, hk⟩ := Array.getElem?_eq_some_iff.1 h
  show (w.heap.modify n _)[n]? = _
  rw [Array.getElem?_eq_getElem (by rw [Array.size_modify]; exact hlt), Array.getElem_modify_self, hk]
  rfl
theorem RowIs.setOther {w : World} {n m : Nat} {t : TypeId} {cs : Array Value} (h : RowIs w n t cs) (hne : n ≠ m) (k : Nat) (v : Value) : RowIs (w.setCell ⟨m, k, none⟩ v) n t cs :=
  (Below.heap_setCell w ⟨m, k, none⟩ v n hne).trans h
theorem RowIs.hidden {W : World} {n D : Nat} {t : TypeId} {cs : Array Value} {x : Option (List Deferred)} {o : Obj} (h : RowIs W n t cs) (hK : W.heap[D]? = some (.deferred x)) : RowIs (W.putObj D o) n t cs :=
  (World.putObj_heap_other (fun e => by subst e; rw [show W.heap[n]? = _ from h] at hK; cases hK)).trans h

/-- a result of two cells: a row, a number -/
theorem results_rows {P : Program} {fn : Func} {p q : Tmp} {ty ue : TypeId} (h : fn.results = #[.cell p ty, .cell q ue]) (tmps : Array Value) (w : World) (g ge : Nat) (t te : TypeId) (cs : Array Value) (v : Value) (d : TypeDesc)
    (hp : tmps.getD p undef = .pointer (some ⟨g, 0, none⟩)) (hg : RowIs w g t cs) (hu : P.underlying ty = some d) (hd : (match d with | .struct _ | .array _ _ => true | _ => false) = true) (hi : (P.info? ty).map (·.size) = some cs.size)
    (hq : tmps.getD q undef = .pointer (some ⟨ge, 0, none⟩)) (hge : RowIs w ge te #[v]) (hue : P.underlying ue = some (.int .i64)) (hie : (P.info? ue).map (·.size) = some 1) :
    (results fn tmps).run P w = .ok (.tuple #[.agg cs, v]) w := by
  have hp' : tmps[p]?.getD undef = .pointer (some ⟨g, 0, none⟩) := by simpa using hp
  have hq' : tmps[q]?.getD undef = .pointer (some ⟨ge, 0, none⟩) := by simpa using hq
  have hc : w.cell? ⟨ge, 0, none⟩ = some v := hge.cell 0
  have hagg : (isAgg ue).run P w = .ok false w := by
    unfold isAgg
    simp [run_underlying hue]
  have hlv : (loadVar ue ⟨ge, 0, none⟩).run P w = .ok v w := by
    unfold loadVar
    simp [hagg, run_load, hc]
  simp [results, h, hp', hq', asAddr, run_loadVar_row w g t ty cs (0, 0) d hg hu hd hi, hlv]

section
variable {F : Fence} {n : Nat} {P : Program} {w : World} {ops : Array Oper} {rest : List Oper} {o : Oper} {a : Act} {Q : Exit → Act → World → Prop}
theorem wpListIn_store_rowR (hg : o.guard = none) (ty : TypeId) (x y : Operand) (ho : o.op = .store ty x y)
    (g : Nat) (cells : Array Value) (hx : a.eval x = .pointer (some ⟨g, 0, none⟩)) (hy : a.eval y = .agg cells)
    (t : TypeId) (old : Array Value) (hr : RowIs w g t old) (hi : (P.info? ty).map (·.size) = some cells.size)
    (hold : old.size = cells.size) (h1 : cells.all (·.oneCell') = true) (B : Nat) (hB : B ≤ g)
    (h : ∀ w', RowIs w' g t cells → (∀ k, k ≠ g → w'.heap[k]? = w.heap[k]?) → w'.heap.size = w.heap.size → Below B w w' → wpListIn F n P ops Q rest (a.put o.dst undef) w') : wpListIn F n P ops Q (o :: rest) a w := by
  refine wpListIn_plain hg fun K hK' => ?_
  unfold Oper.wpIn
  refine ⟨by intro f hf; simp [Oper.about, ho] at hf, ?_⟩
  rw [Oper.semAt_plain F _ _ (by rw [ho]; intro c hc; cases hc)]
  unfold execOp
  simp only [ho, hx, hy, Instr.storeAt, Instr.sureAddr, Sem.run_bind, Sem.run_pure, Result.andThen_ok, run_storeVar_row w g t ty old cells hr hi hold h1]
  exact hK' _ _ (h _ (setRow_heap w g old cells t (0, 0) hr) (fun k hk => setRow_other w g k cells hk) (setRow_size w g cells) (below_setRow (Below.refl B w) hB cells))
theorem wpListIn_load_rowR (hg : o.guard = none) (ty : TypeId) (x : Operand) (ho : o.op = .load ty x)
    (g : Nat) (hx : a.eval x = .pointer (some ⟨g, 0, none⟩)) (t : TypeId) (cs : Array Value) (d : TypeDesc) (hr : RowIs w g t cs)
    (hu : P.underlying ty = some d) (hd : (match d with | .struct _ | .array _ _ => true | _ => false) = true) (hi : (P.info? ty).map (·.size) = some cs.size)
    (h : wpListIn F n P ops Q rest (a.put o.dst (.agg cs)) w) : wpListIn F n P ops Q (o :: rest) a w := by
  refine wpListIn_plain hg fun K hK' => ?_
  unfold Oper.wpIn
  refine ⟨by intro f hf; simp [Oper.about, ho] at hf, ?_⟩
  rw [Oper.semAt_plain F _ _ (by rw [ho]; intro c hc; cases hc)]
  unfold execOp
  simp only [ho, hx, Instr.loadAt, Instr.sureAddr, Sem.run_bind, Sem.run_pure, Result.andThen_ok, run_loadVar_row w g t ty cs (0, 0) d hr hu hd hi]
  exact hK' _ _ h
theorem ri_at_store (ty : TypeId) (x y : Operand) {dst : Option Tmp} {t : TypeId} {pos : String} {aft : Array Edge} {g : Option _}
    (h : wpListIn F n P ops Q (⟨dst, .store ty x y, t, pos, aft, g⟩ :: rest) a w) : wpListIn F n P ops Q (⟨dst, .store ty x y, t, pos, aft, g⟩ :: rest) a w := h
theorem ri_at_load (ty : TypeId) (x : Operand) {dst : Option Tmp} {t : TypeId} {pos : String} {aft : Array Edge} {g : Option _}
    (h : wpListIn F n P ops Q (⟨dst, .load ty x, t, pos, aft, g⟩ :: rest) a w) : wpListIn F n P ops Q (⟨dst, .load ty x, t, pos, aft, g⟩ :: rest) a w := h
end

/-- an array of N numbers, the first of which are these -/
def bytesV (N : Nat) (vals : List Nat) : Array Value := ((List.range N).map fun i => .int .u8 ((vals.getD i 0 : Nat) : Int)).toArray
theorem bytesV_size (N : Nat) (vals : List Nat) : (bytesV N vals).size = N := by simp [bytesV]
theorem bytesV_at (N : Nat) (vals : List Nat) (h : vals.length < N) : (bytesV N vals)[vals.length]? = some (.int .u8 0) := by
  unfold bytesV
  simp [h, List.getD_eq_getElem?_getD]
theorem bytesV_put (N : Nat) (vals : List Nat) (v : Nat) : (bytesV N vals).setIfInBounds vals.length (.int .u8 (v : Int)) = bytesV N (vals ++ [v]) := by
  apply Array.ext_getElem?
  intro i
  unfold bytesV
  rw [Array.getElem?_setIfInBounds]
  simp only [List.getElem?_toArray, List.getElem?_map, List.size_toArray, List.length_map, List.length_range, List.getElem?_range]
  by_cases hi : i < N
  · by_cases e : vals.length = i
    · subst e
      simp [hi]
    · rw [if_neg e]
      rcases Nat.lt_or_ge i vals.length with h | h
      · simp [hi, h, List.getD_eq_getElem?_getD, List.getElem?_append_left h]
      · have h1 : (vals ++ [v]).length ≤ i := by simp; omega
        simp [hi, List.getD_eq_getElem?_getD, List.getElem?_eq_none h, List.getElem?_eq_none h1]
  · by_cases e : vals.length = i
    · subst e
      simp [hi]
    · rw [if_neg e]
      simp [hi]

/-- what a reader's variables hold: the result, the error, the array, the count -/
structure RdAt (W : World) (H : Nat) (T E : TypeId) (z : Array Value) (er : Int) (cs : Array Value) (k : Nat) : Prop where
  res : RowIs W H T z
  err : Boxed W (H + 1) E (.int .i64 er)
  arr : RowIs W (H + 2) T cs
  cnt : Boxed W (H + 3) 3 (.int .i64 (k : Int))
theorem RdAt.turned {W W' : World} {H : Nat} {T E : TypeId} {z : Array Value} {er : Int} {cs : Array Value} {k : Nat} {row : Option Nat} (h : RdAt W H T E z er cs k) (hg : W.grownBy W' row) (hr : ∀ r, row = some r → r = H + 4 ∨ H + 7 ≤ r) : RdAt W' H T E z er cs k :=
  ⟨h.res.turned hg fun r e => by have := hr r e; omega, (RowIs.turned h.err hg fun r e => by have := hr r e; omega), h.arr.turned hg fun r e => by have := hr r e; omega, (RowIs.turned h.cnt hg fun r e => by have := hr r e; omega)⟩
theorem RdAt.below {W W' : World} {H : Nat} {T E : TypeId} {z : Array Value} {er : Int} {cs : Array Value} {k : Nat} (h : RdAt W H T E z er cs k) (hb : Below W.heap.size W W') : RdAt W' H T E z er cs k :=
  ⟨h.res.kept hb, RowIs.kept h.err hb, h.arr.kept hb, RowIs.kept h.cnt hb⟩
theorem below_turned {H : Nat} {w W W' : World} {row : Option Nat} (h : Below H w W) (hw : H ≤ w.heap.size) (hg : W.grownBy W' row) (hr : ∀ r, row = some r → H ≤ r) : Below H w W' := h.grown hg (Nat.le_trans hw h.size) hr
theorem keepsFrom_below {B : Nat} {W W' : World} (h : Below W.heap.size W W') : KeepsFrom B W W' := ⟨h.size, fun k o _ hk _ => (h.block k (Array.getElem?_eq_some_iff.1 hk).1).trans hk⟩
theorem keepsFrom_block {B g : Nat} {W W' : World} (hg : g < B) (hs : W'.heap.size = W.heap.size) (h : ∀ k, k ≠ g → W'.heap[k]? = W.heap[k]?) : KeepsFrom B W W' := ⟨by omega, fun k o hk hko _ => (h k (by omega)).trans hko⟩

set_option maxHeartbeats 1000000 in
theorem splitSeq_any (s : ByteArray) (c : UInt8) (w : World) : Calls Tryd.prog 32 #[.string s, .string ⟨#[c]⟩, .int .i64 0] w fun e w' => e = .returned (.func (.func 35) #[] #[.pointer (some ⟨w.heap.size + 1, 0, none⟩), .pointer (some ⟨w.heap.size, 0, none⟩), .pointer (some ⟨w.heap.size + 2, 0, none⟩)]) ∧ w' = ((w.alloc (.cells #[.string s] 9)).alloc (.cells #[.string ⟨#[c]⟩] 9)).alloc (.cells #[.int .i64 0] 3) := by
  go_enter Tryd.func32, Tryd.ntmps32
  go_wp2
  go_ret
  exact ⟨rfl, rfl⟩
set_option maxHeartbeats 1000000 in
theorem splitSeq_one (s : ByteArray) (c : UInt8) (w : World) : Calls Tryd.prog 23 #[.string s, .string ⟨#[c]⟩] w fun e w' => e = .returned (.func (.func 35) #[] #[.pointer (some ⟨w.heap.size + 1, 0, none⟩), .pointer (some ⟨w.heap.size, 0, none⟩), .pointer (some ⟨w.heap.size + 2, 0, none⟩)]) ∧ w' = ((w.alloc (.cells #[.string s] 9)).alloc (.cells #[.string ⟨#[c]⟩] 9)).alloc (.cells #[.int .i64 0] 3) := by
  go_enter Tryd.func23, Tryd.ntmps23
  go_wp2_with (go_at_call 32; refine (splitSeq_any _ _ _).mono ?_; rintro e w' ⟨rfl, rfl⟩)
  go_ret
  exact ⟨rfl, rfl⟩

theorem split_stops (n : Nat) (hn : 1 ≤ n) (b : Nat) (c : UInt8) (s : ByteArray) (hsz : s.size ≤ 100000) (w : World) (h0 : Boxed w b 9 (.string s)) (h1 : Boxed w (b + 1) 9 (.string ⟨#[c]⟩)) (h2 : Boxed w (b + 2) 3 (.int .i64 0)) :
    StopsZ Fence.wide n Tryd.prog 35 #[.pointer (some ⟨b + 1, 0, none⟩), .pointer (some ⟨b, 0, none⟩), .pointer (some ⟨b + 2, 0, none⟩)] (fun x : ByteArray => #[.string x]) b (Three b) (fun xs => xs = Oct.pieces c s) (fun pre => pre <+: Oct.pieces c s) w := fun l J Jx W hW hJ _ hY hj =>
  split1_in n hn l b c s hsz J Jx hJ hY W (RowIs.kept h0 hW) (RowIs.kept h1 hW) (RowIs.kept h2 hW) hj
end Go.Proofs.YtknnadnjikfibaaDoor
