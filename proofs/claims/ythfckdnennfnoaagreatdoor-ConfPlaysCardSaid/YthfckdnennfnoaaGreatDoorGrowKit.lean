/- Special operations of a region that draws its order: bytes of a string, new blocks, arrays out of slices. Of no function. By an AI agent. -/
import Derived.Test.YthfckdnennfnoaaGreatDoorGrow
import Derived.Test.YthfckdnennfnoaaGreatDoorRow
import Derived.Laws.IdiomStrings
import Derived.Laws.Cover3
import Derived.Great.BuildSlice
import Derived.Deep.MidRow
namespace Go.Proofs.YthfckdnennfnoaaGreatDoor
open Go.RowKit Go.Sort Grow

theorem RowIs.regrown {w : World} {n : Nat} {t : TypeId} {cs : Array Value} (h : RowIs w n t cs) (q : Regrown) : RowIs (grow (redrawn w q.d) q.os) n t cs := h.kept (below_regrown w q.d q.os)
theorem rowIs_new1 (w : World) (o : Obj) (t : TypeId) (cs : Array Value) : RowIs ((w.alloc o).alloc (.cells cs t)) (w.heap.size + 1) t cs := by
  have h := rowIs_new (w.alloc o) t cs
  rwa [show (w.alloc o).heap.size = w.heap.size + 1 by simp] at h
theorem rowIs_new2 (w : World) (o o' : Obj) (t : TypeId) (cs : Array Value) : RowIs (((w.alloc o).alloc o').alloc (.cells cs t)) (w.heap.size + 2) t cs := by
  have h := rowIs_new1 (w.alloc o) o' t cs
  rwa [show (w.alloc o).heap.size = w.heap.size + 1 by simp] at h

/-- the cells of a block, from its first on -/
def CellsAt (w : World) (b : Nat) (vs : List Value) : Prop := b < w.heap.size ∧ ∀ j v, vs[j]? = some v → w.cell? ⟨b, j, none⟩ = some v

theorem CellsAt.later {w w' : World} {b : Nat} {vs : List Value} (h : CellsAt w b vs) (hb : Below w.heap.size w w') : CellsAt w' b vs :=
  ⟨Nat.lt_of_lt_of_le h.1 hb.size, fun j v hj => by rw [hb.cell (p := ⟨b, j, none⟩) h.1]; exact h.2 j v hj⟩

/-- a slice of cells vs -/
def SliceAt (vs : List Value) : Fact := fun w u => ∃ b cap, u = .slice (some ⟨b, 0, none⟩) vs.length cap ∧ CellsAt w b vs
/-- a pointer to cells vs -/
def PtrAt (vs : List Value) : Fact := fun w u => ∃ b, u = .pointer (some ⟨b, 0, none⟩) ∧ CellsAt w b vs
/-- a pointer to a new block of cells -/
def NewAt (B : Nat) (t : TypeId) (cs : Array Value) : Fact := fun w u => ∃ b, u = .pointer (some ⟨b, 0, none⟩) ∧ B ≤ b ∧ RowIs w b t cs
/-- a slice over a new block of cells -/
def RowAt (B : Nat) (t : TypeId) (n : Nat) (cs : Array Value) : Fact := fun w u => ∃ b, u = .slice (some ⟨b, 0, none⟩) n n ∧ B ≤ b ∧ RowIs w b t cs

theorem stable_slice (vs : List Value) : Stable Bel (SliceAt vs) := fun _ _ _ hb ⟨b, c, h, hc⟩ => ⟨b, c, h, hc.later hb⟩
theorem stable_ptr (vs : List Value) : Stable Bel (PtrAt vs) := fun _ _ _ hb ⟨b, h, hc⟩ => ⟨b, h, hc.later hb⟩
theorem stable_new (B : Nat) (t : TypeId) (cs : Array Value) : Stable Bel (NewAt B t cs) := fun _ _ _ hb ⟨b, h, hB, hc⟩ => ⟨b, h, hB, hc.kept hb⟩
theorem stable_row (B : Nat) (t : TypeId) (n : Nat) (cs : Array Value) : Stable Bel (RowAt B t n cs) := fun _ _ _ hb ⟨b, h, hB, hc⟩ => ⟨b, h, hB, hc.kept hb⟩

theorem addr_add (b j : Nat) : (⟨b, 0, none⟩ : Addr).add j = ⟨b, j, none⟩ := by unfold Addr.add; split <;> simp_all

section
variable {P : Program} {ops : Array Oper} {w0 : World} {a : Act} {S : List (Tmp × Fact)} {o : Oper}

/-- []byte(s) -/
theorem owes_bytes {src dst e : TypeId} {x : Tmp} {s : ByteArray} (ho : o.op = .convert src dst (.tmp x)) (hx : a.eval (.tmp x) = .string s) (hS : x ∉ S.map Prod.fst)
    (hs : P.underlying src = some .string) (hd : P.underlying dst = some (.slice e)) (he : P.underlying e = some (.int .u8)) : Owes Bel P ops w0 a S o (SliceAt (byteVals s.data.toList)) := by
  intro ρ w _ _ h2
  have hm : x ∈ o.looksAt ops := by simp [Oper.looksAt, ho, Op.operands]
  have h := h2 x hm hS
  rw [hx] at h
  unfold gives execOp
  simp only [ho, Sem.run_bind, h, run_bytes_of_string w src dst e s hs hd he, Result.andThen_ok, Sem.run_pure]
  have hb : Below w.heap.size w (w.drew.alloc (.cells (bytesRow s (grownCap w s.size 0 e)) e ((bytesRow s (grownCap w s.size 0 e)).size, (bytesRow s (grownCap w s.size 0 e)).size + 1))) :=
    (show Below w.heap.size w w.drew from ⟨rfl, rfl, rfl, Nat.le_refl _, fun _ _ => rfl⟩).alloc (Nat.le_refl _) _
  refine ⟨hb, w.heap.size, grownCap w s.size 0 e, by rw [byteVals_length]; simp, by simp, fun j v hj => ?_⟩
  have hh : (w.drew.alloc (.cells (bytesRow s (grownCap w s.size 0 e)) e ((bytesRow s (grownCap w s.size 0 e)).size, (bytesRow s (grownCap w s.size 0 e)).size + 1))).heap[w.heap.size]? = some (.cells (bytesRow s (grownCap w s.size 0 e)) e ((bytesRow s (grownCap w s.size 0 e)).size, (bytesRow s (grownCap w s.size 0 e)).size + 1)) := by
    show (w.heap.push _)[w.heap.size]? = _
    simp
  have hlt : j < s.size := by
    have := (List.getElem?_eq_some_iff.1 hj).1
    rw [byteVals_length] at this
    simpa using this
  simp only [World.cell?, hh]
  unfold bytesRow
  rw [Array.getElem?_append_left (by simpa using hlt)]
  rw [← hj]
  simp [byteVals]

theorem addr_add' (b o j : Nat) : (⟨b, o, none⟩ : Addr).add j = ⟨b, o + j, none⟩ := by unfold Addr.add; split <;> simp_all

theorem range_of_row {w : World} {g off : Nat} {t : TypeId} {cs : Array Value} {sub : List Value} (hR : RowIs w g t cs) (hs : (cs.toList.drop off).take sub.length = sub) : w.rangeAt g off sub := fun j v hj => by
  rw [hR.cell]
  rw [← hs] at hj
  have hl : j < sub.length := by
    rcases Nat.lt_or_ge j sub.length with h | h
    · exact h
    · rw [List.getElem?_eq_none (by simp; omega)] at hj
      cases hj
  rw [List.getElem?_take_of_lt hl, List.getElem?_drop] at hj
  simpa using hj

/-- string(b), b a part of a block -/
theorem run_string_at {src dst e : TypeId} (hs : P.underlying src = some (.slice e)) (he : P.underlying e = some (.int .u8)) (hd : P.underlying dst = some .string) (w : World) (l : List UInt8) (m n o cap : Nat) (hl : l.length = m)
    (hc : ∀ j (h : j < l.length), w.cell? ⟨n, o + j, none⟩ = some (.int .u8 (l[j].toNat : Int))) : (convert src dst (.slice (some ⟨n, o, none⟩) m cap)).run P w = .ok (.string ⟨l.toArray⟩) w :=
  hl ▸ run_convert_bytes_back w src dst e ⟨n, o, none⟩ cap l hs he hd (fun j hj => by rw [addr_add']; exact hc j hj)

/-- *(*[n]T)(slice): the pointer -/
theorem owes_arrayAt {arr e : TypeId} {n : Nat} {x : Tmp} {vs : List Value} (ho : o.op = .sliceToArrayPointer arr (.tmp x)) (hS : (x, SliceAt vs) ∈ S)
    (ha : P.underlying arr = some (.array n e)) (hn : n ≤ vs.length) : Owes Bel P ops w0 a S o (PtrAt vs) := by
  intro ρ w _ h1 _
  have hm : x ∈ o.looksAt ops := by simp [Oper.looksAt, ho, Op.operands]
  obtain ⟨b, cap, h, hc⟩ := h1 _ hS hm
  unfold gives execOp
  simp only [ho, Sem.run_bind, h, run_arrayAt w arr e n _ _ cap ha hn, Result.andThen_ok, Sem.run_pure]
  exact ⟨Below.refl _ _, b, rfl, hc⟩

theorem run_loadVar_cells {w : World} {b : Nat} {vs : List Value} (hc : CellsAt w b vs) {ty e : TypeId} {n : Nat} (hu : P.underlying ty = some (.array n e)) (hi : (P.info? ty).map (·.size) = some vs.length) :
    (loadVar ty ⟨b, 0, none⟩).run P w = .ok (.agg vs.toArray) w := by
  have hl := run_loadCells_list (P := P) w ⟨b, 0, none⟩ vs (fun j v hj => by rw [addr_add]; exact hc.2 j v hj)
  cases hq : P.info? ty with
  | none => simp [hq] at hi
  | some i =>
    have hs : i.size = vs.length := by simpa [hq] using hi
    have hagg : (isAgg ty).run P w = .ok true w := by
      unfold isAgg
      rw [Sem.run_bind, run_underlying hu w]
      simp
    simp [loadVar, Sem.run_bind, hagg, sizeOf, typeInfo, hq, hs, hl]

/-- .. what it leads to -/
theorem exact_load {ty e : TypeId} {n : Nat} {x : Tmp} {vs : List Value} {cs : Array Value} (ho : o.op = .load ty (.tmp x)) (hS : (x, PtrAt vs) ∈ S) (hu : P.underlying ty = some (.array n e)) (hv : vs.toArray = cs) (hi : (P.info? ty).map (·.size) = some cs.size) :
    Owes Bel P ops w0 a S o (fun _ u => u = .agg cs) := by
  subst hv
  intro ρ w _ h1 _
  have hm : x ∈ o.looksAt ops := by simp [Oper.looksAt, ho, Op.operands]
  obtain ⟨b, h, hc⟩ := h1 _ hS hm
  unfold gives execOp
  simp only [ho, h, Instr.loadAt, Instr.sureAddr, Sem.run_bind, Sem.run_pure, Result.andThen_ok, run_loadVar_cells (P := P) hc hu (by simpa using hi)]
  exact ⟨Below.refl _ _, trivial⟩

/-- a struct or array in an old block, as a whole -/
theorem exact_load_row {ty t : TypeId} {x : Tmp} {g : Nat} {cs : Array Value} {d : TypeDesc} (ho : o.op = .load ty (.tmp x)) (hx : a.eval (.tmp x) = .pointer (some ⟨g, 0, none⟩)) (hS : x ∉ S.map Prod.fst) (hR : RowIs w0 g t cs)
    (hu : P.underlying ty = some d) (hd : (match d with | .struct _ | .array _ _ => true | _ => false) = true) (hi : (P.info? ty).map (·.size) = some cs.size) :
    Owes Bel P ops w0 a S o (fun _ u => u = .agg cs) := by
  intro ρ w hb _ h2
  have hm : x ∈ o.looksAt ops := by simp [Oper.looksAt, ho, Op.operands]
  have h := h2 x hm hS
  rw [hx] at h
  unfold gives execOp
  simp only [ho, h, Instr.loadAt, Instr.sureAddr, Sem.run_bind, Sem.run_pure, Result.andThen_ok, run_loadVar_row (P := P) w g t ty cs (0, 0) d (hR.kept hb) hu hd hi]
  exact ⟨Below.refl _ _, trivial⟩

/-- a struct or array in the middle of an old block -/
theorem exact_load_mid {ty t : TypeId} {x : Tmp} {g off : Nat} {cs : Array Value} {sub : List Value} {d : TypeDesc} (ho : o.op = .load ty (.tmp x)) (hx : a.eval (.tmp x) = .pointer (some ⟨g, off, none⟩)) (hS : x ∉ S.map Prod.fst) (hR : RowIs w0 g t cs)
    (hs : (cs.toList.drop off).take sub.length = sub) (hu : P.underlying ty = some d) (hd : d.isRow = true) (hi : (P.info? ty).map (·.size) = some sub.length) :
    Owes Bel P ops w0 a S o (fun _ u => u = .agg sub.toArray) := by
  intro ρ w hb _ h2
  have hm : x ∈ o.looksAt ops := by simp [Oper.looksAt, ho, Op.operands]
  have h := h2 x hm hS
  rw [hx] at h
  unfold gives execOp
  simp only [ho, h, run_loadAt_mid (P := P) w g off ty sub d (range_of_row (hR.kept hb) hs) hu hd hi, Instr.loadAt, Instr.sureAddr, Sem.run_bind, Sem.run_pure, Result.andThen_ok, run_loadVar_mid (P := P) w g off ty sub d (range_of_row (hR.kept hb) hs) hu hd hi]
  exact ⟨Below.refl _ _, trivial⟩

theorem range_later {w w' : World} {g off : Nat} {sub : List Value} (h : w.rangeAt g off sub) (hg : g < w.heap.size) (hb : Below w.heap.size w w') : w'.rangeAt g off sub := fun j v hj => by
  rw [hb.cell (p := ⟨g, off + j, none⟩) hg]
  exact h j v hj

/-- a struct or array in the middle of an old block, known by its range -/
theorem exact_load_range {ty : TypeId} {x : Tmp} {g off : Nat} {sub : List Value} {d : TypeDesc} (ho : o.op = .load ty (.tmp x)) (hx : a.eval (.tmp x) = .pointer (some ⟨g, off, none⟩)) (hS : x ∉ S.map Prod.fst) (hR : w0.rangeAt g off sub) (hg : g < w0.heap.size)
    (hu : P.underlying ty = some d) (hd : d.isRow = true) (hi : (P.info? ty).map (·.size) = some sub.length) :
    Owes Bel P ops w0 a S o (fun _ u => u = .agg sub.toArray) := by
  intro ρ w hb _ h2
  have hm : x ∈ o.looksAt ops := by simp [Oper.looksAt, ho, Op.operands]
  have h := h2 x hm hS
  rw [hx] at h
  unfold gives execOp
  simp only [ho, h, Instr.loadAt, Instr.sureAddr, Sem.run_bind, Sem.run_pure, Result.andThen_ok, run_loadVar_mid (P := P) w g off ty sub d (range_later hR hg hb) hu hd hi]
  exact ⟨Below.refl _ _, trivial⟩

/-- a call that looks at a special value, and answers an exact one -/
theorem exact_call {Le : World → World → Prop} {f : FuncId} {x : Tmp} {ats : Array TypeId} {V : Fact} {v : Value} {fn : Func} (ho : o.op = .call { callee := .value (.func f), args := #[.tmp x], argTypes := ats }) (hS : (x, V) ∈ S)
    (hf : P.funcs[f]? = some fn) (hname : (fn.name == "runtime.NumGoroutine") = false) (hb : fn.body.isNone = false)
    (hc : ∀ u w, Le w0 w → V w u → Calls P f #[u] w fun e w' => e = .returned v ∧ Le w w') : Owes Le P ops w0 a S o (fun _ u => u = v) := by
  intro ρ w hle h1 _
  have hm : x ∈ o.looksAt ops := by simp [Oper.looksAt, ho, Op.operands, Call.operands]
  have hV := h1 _ hS hm
  have h3 : (execOp ρ.eval o).run P w = .ok (.enter f #[ρ.eval (.tmp x)]) w := by
    have h1 : fn.name ≠ "runtime.NumGoroutine" := by simpa using hname
    have e : execOp ρ.eval o = callFunc f (#[] ++ #[Operand.tmp x].map ρ.eval ++ #[]) := by
      unfold execOp
      rw [ho]
      rfl
    rw [e]
    simp [callFunc, go_sem, hf, h1, hb]
    intro h0
    rw [h0] at hb
    cases hb
  unfold gives
  rw [h3]
  exact (hc _ w hle hV).mono fun e w' ⟨he, hl⟩ => ⟨v, he, hl, rfl⟩

/-- a new variable -/
theorem owes_alloc {t : TypeId} {cs : Array Value} (ho : o.op = .alloc t) (hi : ((P.info? t).bind fun i => i.zero.map (·.cells)) = some cs) : Owes Bel P ops w0 a S o (NewAt w0.heap.size t cs) := by
  intro ρ w hb _ _
  obtain ⟨i, hi', hz'⟩ := Option.bind_eq_some_iff.1 hi
  obtain ⟨z, hz, rfl⟩ := Option.map_eq_some_iff.1 hz'
  clear hi hz'
  unfold gives execOp
  have hr : (Instr.alloc t true (.tuple #[])).run P w = .ok (.pointer (some ⟨w.heap.size, 0, none⟩)) (w.alloc (.cells z.cells t)) := by
    simp [Instr.alloc, zeroValue, typeInfo, hi', hz, newVar, newRow]
  simp only [ho, hr, Sem.run_bind, Sem.run_pure, Result.andThen_ok]
  exact ⟨(Below.refl _ _).alloc (Nat.le_refl _) _, w.heap.size, rfl, hb.size, rowIs_new w t z.cells⟩

/-- a slice literal of exact parts -/
theorem owes_buildSlice {t e : TypeId} {len sz : Nat} {parts : Array (Nat × Operand)} {cells : Array Value} {z : Value} (ho : o.op = .buildSlice t len parts) (hS : ∀ x ∈ parts, ∀ y, x.2 = .tmp y → y ∉ S.map Prod.fst)
    (hu : P.underlying t = some (.slice e)) (hi : (P.info? e).map (fun i => (i.zero, i.size)) = some (some z, sz)) (hsmall : ¬ len * sz > 2 ^ 24) (hpos : ¬ len * sz = 0)
    (hf : Instr.fill (fun i => some (i * sz, sz)) ((Array.range (len * sz)).map (z.cells[· % z.cells.size]!)) (parts.map fun (i, x) => (i, a.eval x)).toList = some cells) :
    Owes Bel P ops w0 a S o (RowAt w0.heap.size e len cells) := by
  obtain ⟨ie, hie, he0⟩ := Option.map_eq_some_iff.1 hi
  simp only [Prod.mk.injEq] at he0
  obtain ⟨hz, rfl⟩ := he0
  intro ρ w hb _ h2
  have he : (parts.map fun (i, x) => (i, ρ.eval x)) = (parts.map fun (i, x) => (i, a.eval x)) := Array.map_congr_left fun x hx => by
    obtain ⟨i, x⟩ := x
    cases x with
    | tmp y =>
      have := h2 y (by simp only [Oper.looksAt, ho, Op.operands, List.mem_append, List.mem_filterMap]; exact .inl ⟨.tmp y, by simp; exact ⟨i, hx⟩, rfl⟩) (hS _ hx y rfl)
      simp only [this]
    | _ => rfl
  unfold gives execOp
  rw [← he] at hf
  simp only [ho, Sem.run_bind, run_buildSlice w t e len _ cells ie z hu hie hz hsmall hpos hf, Result.andThen_ok, Sem.run_pure]
  exact ⟨(Below.refl _ _).alloc (Nat.le_refl _) _, w.heap.size, rfl, hb.size, rowIs_new w e cells⟩

/-- string(b) of such a slice -/
theorem exact_string {src dst e : TypeId} {x : Tmp} {B : Nat} {t : TypeId} {l : List UInt8} (ho : o.op = .convert src dst (.tmp x)) (hS : (x, RowAt B t l.length (byteVals l).toArray) ∈ S)
    (hs : P.underlying src = some (.slice e)) (he : P.underlying e = some (.int .u8)) (hd : P.underlying dst = some .string) : Owes Bel P ops w0 a S o (fun _ u => u = .string ⟨l.toArray⟩) := by
  intro ρ w _ h1 _
  have hm : x ∈ o.looksAt ops := by simp [Oper.looksAt, ho, Op.operands]
  obtain ⟨b, h, _, hr⟩ := h1 _ hS hm
  unfold gives execOp
  have hc := run_convert_bytes_back (P := P) w src dst e ⟨b, 0, none⟩ l.length l hs he hd (fun j hj => by
    rw [addr_add, hr.cell j]
    simp [byteVals, hj])
  simp only [ho, Sem.run_bind, h, hc, Result.andThen_ok, Sem.run_pure]
  exact ⟨Below.refl _ _, trivial⟩

theorem exact_string_slice {src dst e : TypeId} {x : Tmp} {l : List UInt8} (ho : o.op = .convert src dst (.tmp x)) (hS : (x, SliceAt (byteVals l)) ∈ S)
    (hs : P.underlying src = some (.slice e)) (he : P.underlying e = some (.int .u8)) (hd : P.underlying dst = some .string) : Owes Bel P ops w0 a S o (fun _ u => u = .string ⟨l.toArray⟩) := by
  intro ρ w _ h1 _
  have hm : x ∈ o.looksAt ops := by simp [Oper.looksAt, ho, Op.operands]
  obtain ⟨b, cap, h, hr⟩ := h1 _ hS hm
  rw [byteVals_length] at h
  unfold gives execOp
  have hc := run_convert_bytes_back (P := P) w src dst e ⟨b, 0, none⟩ cap l hs he hd (fun j hj => by
    rw [addr_add, hr.2 j _ (by simp [byteVals, hj]; rfl)])
  simp only [ho, Sem.run_bind, h, hc, Result.andThen_ok, Sem.run_pure]
  exact ⟨Below.refl _ _, trivial⟩
end

/-! ### writes into one old block, at given places, of given values -/
def WLe (g : Nat) (T : List (Nat × Value)) : World → World → Prop := fun w w' => w.grownBy w' (some g) ∧ ∀ t cs, RowIs w g t cs → ∃ cs', RowIs w' g t cs' ∧ cs'.size = cs.size ∧ ∀ k : Nat, cs'[k]? = cs[k]? ∨ ∃ v, (k, v) ∈ T ∧ cs'[k]? = some v

theorem grown_trans {a b c : World} {g : Option Nat} (h : a.grownBy b g) (k : b.grownBy c g) : a.grownBy c g :=
  ⟨k.os.trans h.os, k.tape.trans h.tape, k.output.trans h.output, Nat.le_trans h.size k.size, fun i hi hg => (k.block i (Nat.lt_of_lt_of_le hi h.size) hg).trans (h.block i hi hg)⟩

theorem wle_ok (g : Nat) (T : List (Nat × Value)) : LeOk (WLe g T) where
  refl w := ⟨⟨rfl, rfl, rfl, Nat.le_refl _, fun _ _ _ => rfl⟩, fun t cs h => ⟨cs, h, rfl, fun _ => .inl rfl⟩⟩
  trans a b c h k := ⟨grown_trans h.1 k.1, fun t cs hr => by
    obtain ⟨cs1, r1, s1, e1⟩ := h.2 t cs hr
    obtain ⟨cs2, r2, s2, e2⟩ := k.2 t cs1 r1
    refine ⟨cs2, r2, s2.trans s1, fun k => ?_⟩
    rcases e2 k with e | e
    · rcases e1 k with e' | ⟨v, hv, e'⟩
      · exact .inl (e.trans e')
      · exact .inr ⟨v, hv, e.trans e'⟩
    · exact .inr e⟩
  drew w := ⟨⟨rfl, rfl, rfl, Nat.le_refl _, fun _ _ _ => rfl⟩, fun t cs h => ⟨cs, h, rfl, fun _ => .inl rfl⟩⟩
  size _ _ h := h.1.size

theorem wle_of_below {g : Nat} {T : List (Nat × Value)} {w w' : World} (h : Below w.heap.size w w') : WLe g T w w' :=
  ⟨⟨h.os, h.tape, h.output, h.size, fun k hk _ => h.block k hk⟩, fun t cs hr => ⟨cs, hr.kept h, rfl, fun _ => .inl rfl⟩⟩

theorem wle_calls {P : Program} {g : Nat} {T : List (Nat × Value)} {f : FuncId} {args : Array Value} {w : World} {v : Value} (h : Calls P f args w fun e w' => e = .returned v ∧ Below w.heap.size w w') :
    Calls P f args w fun e w' => e = .returned v ∧ WLe g T w w' := h.mono fun _ _ ⟨he, hb⟩ => ⟨he, wle_of_below hb⟩

/-- the place holds the value -/
def StoredAt (g : Nat) (t : TypeId) (k : Nat) (v : Value) : Fact := fun w _ => ∃ cs, RowIs w g t cs ∧ cs[k]? = some v

theorem stable_stored {g : Nat} {T : List (Nat × Value)} (t : TypeId) {k : Nat} {v : Value} (h : ∀ u, (k, u) ∈ T → u = v) : Stable (WLe g T) (StoredAt g t k v) := fun w w' u hle ⟨cs, hr, hk⟩ => by
  obtain ⟨cs', hr', _, e⟩ := hle.2 t cs hr
  refine ⟨cs', hr', ?_⟩
  rcases e k with e | ⟨u, hu, e⟩
  · exact e.trans hk
  · rw [e, h u hu]

section
variable {P : Program} {ops : Array Oper} {w0 : World} {a : Act} {S : List (Tmp × Fact)} {o : Oper}

theorem owes_store {g k : Nat} {T : List (Nat × Value)} {ty t : TypeId} {x : Operand} {y : Operand} {v : Value} {cs0 : Array Value} (ho : o.op = .store ty x y) (hx : a.eval x = .pointer (some ⟨g, k, none⟩)) (hy : a.eval y = v)
    (hSx : ∀ t, x = .tmp t → t ∉ S.map Prod.fst) (hSy : ∀ t, y = .tmp t → t ∉ S.map Prod.fst) (hR : RowIs w0 g t cs0) (hk : k < cs0.size) (hi : (P.info? ty).map (·.size) = some 1) (hv : v.oneCell' = true) (hT : (k, v) ∈ T) :
    Owes (WLe g T) P ops w0 a S o (StoredAt g t k v) := by
  intro ρ w hle _ h2
  obtain ⟨i, hi', hs⟩ := Option.map_eq_some_iff.1 hi
  have ev : ∀ z : Operand, (∀ t, z = .tmp t → t ∈ o.looksAt ops ∧ t ∉ S.map Prod.fst) → ρ.eval z = a.eval z := fun z hz => by
    cases z with
    | tmp t => exact h2 t (hz t rfl).1 (hz t rfl).2
    | _ => rfl
  have ex := ev x fun t ht => ⟨by simp [Oper.looksAt, ho, Op.operands, ht], hSx t ht⟩
  have ey := ev y fun t ht => ⟨by simp [Oper.looksAt, ho, Op.operands, ht], hSy t ht⟩
  rw [hx] at ex
  rw [hy] at ey
  obtain ⟨cs, hr, hsz, _⟩ := hle.2 t cs0 hR
  have hlt : k < cs.size := by omega
  have hc : w.cell? ⟨g, k, none⟩ = some cs[k] := by rw [hr.cell k]; exact Array.getElem?_eq_getElem hlt
  have hf := hr.free k
  have hcells : v.cells = #[v] := by cases v <;> simp_all [Value.oneCell', Value.cells]
  have hst : (store ⟨g, k, none⟩ v).run P w = .ok () (w.setCell ⟨g, k, none⟩ v) := by
    have : (store ⟨g, k, none⟩ v).run P w = stored P w ⟨g, k, none⟩ v .plain := by
      cases v <;> first | (simp [Value.oneCell'] at hv; done) | exact run_store P w _ _ .plain rfl
    rw [this]
    simp [stored, hc, hf]
  have hadd : (⟨g, k, none⟩ : Addr).add 0 = ⟨g, k, none⟩ := by simp [Addr.add]
  have hrun : (Instr.storeAt ty (.pointer (some ⟨g, k, none⟩)) v).run P w = .ok () (w.setCell ⟨g, k, none⟩ v) := by
    simp [Instr.storeAt, Instr.sureAddr, storeVar, sizeOf, typeInfo, hi', hs, hcells, storeCells, hadd, hst]
  unfold gives execOp
  simp only [ho, ex, ey, Sem.run_bind, hrun, Result.andThen_ok, Sem.run_pure]
  have hnew : RowIs (w.setCell ⟨g, k, none⟩ v) g t (cs.setIfInBounds k v) := heap_setCell_same w g k _ _ _ hr
  refine ⟨⟨⟨rfl, rfl, rfl, by simp [World.setCell], fun j hj hne => Below.heap_setCell w _ v j (fun e => hne (by rw [e]))⟩, fun t' cs' hr' => ?_⟩, _, hnew, by simp [hlt]⟩
  have e1 : t = t' ∧ cs = cs' := by
    unfold RowIs at hr hr'
    rw [hr] at hr'
    simp at hr'
    exact ⟨hr'.2, hr'.1⟩
  obtain ⟨rfl, rfl⟩ := e1
  refine ⟨_, hnew, by simp, fun j => ?_⟩
  by_cases hjk : j = k
  · subst hjk; exact .inr ⟨v, hT, by simp [hlt]⟩
  · exact .inl (by simp [Array.getElem?_setIfInBounds_ne (Ne.symm hjk)])

/-- what the block holds when all is stored -/
theorem row_after {g : Nat} {T : List (Nat × Value)} {t : TypeId} {cs0 : Array Value} {w : World} (hR : RowIs w0 g t cs0) (hle : WLe g T w0 w) (cs : Array Value) (hsz : cs.size = cs0.size) (hT : ∀ k v, (k, v) ∈ T → cs[k]? = some v ∧ ∃ u, StoredAt g t k v w u)
    (hN : ∀ k : Nat, (∀ v, (k, v) ∉ T) → cs[k]? = cs0[k]?) : RowIs w g t cs := by
  obtain ⟨cs', hr, hs, e⟩ := hle.2 t cs0 hR
  have : cs' = cs := by
    apply Array.ext_getElem?
    intro k
    by_cases hk : ∃ v, (k, v) ∈ T
    · obtain ⟨v, hv⟩ := hk
      obtain ⟨h1, u, cs2, hr2, h2⟩ := hT k v hv
      unfold RowIs at hr hr2
      rw [hr] at hr2
      simp at hr2
      rw [hr2, h2, h1]
    · have hno : ∀ v, (k, v) ∉ T := fun v hv => hk ⟨v, hv⟩
      rw [hN k hno]
      rcases e k with e | ⟨v, hv, _⟩
      · exact e
      · exact absurd hv (hno v)
  rw [← this]
  exact hr

theorem fold_get (T : List (Nat × Value)) : ∀ (cs : Array Value), (T.map Prod.fst).Nodup → (∀ p ∈ T, p.1 < cs.size) →
    (T.foldl (fun c p => c.setIfInBounds p.1 p.2) cs).size = cs.size ∧ (∀ k v, (k, v) ∈ T → (T.foldl (fun c p => c.setIfInBounds p.1 p.2) cs)[k]? = some v) ∧
    (∀ k : Nat, (∀ v, (k, v) ∉ T) → (T.foldl (fun c p => c.setIfInBounds p.1 p.2) cs)[k]? = cs[k]?) := by
  induction T with
  | nil => intro cs _ _; exact ⟨rfl, fun _ _ h => (by cases h), fun _ _ => rfl⟩
  | cons p T ih =>
    intro cs hnd hin
    obtain ⟨x, y⟩ := p
    simp only [List.map_cons, List.nodup_cons] at hnd
    have hx := hin (x, y) (by simp)
    obtain ⟨h1, h2, h3⟩ := ih (cs.setIfInBounds x y) hnd.2 (fun p hp => by simpa using hin p (by simp [hp]))
    simp only [List.foldl_cons]
    refine ⟨h1.trans (by simp), fun k v hkv => ?_, fun k hk => ?_⟩
    · simp only [List.mem_cons, Prod.mk.injEq] at hkv
      rcases hkv with ⟨rfl, rfl⟩ | hkv
      · rw [h3 k (fun v hv => hnd.1 (List.mem_map.2 ⟨_, hv, rfl⟩))]
        have hx' : k < cs.size := hx
        simp [hx']
      · exact h2 k v hkv
    · rw [h3 k (fun v hv => hk v (by simp [hv]))]
      exact Array.getElem?_setIfInBounds_ne (fun e => hk y (by rw [e]; simp))

/-- .. reckoned -/
theorem row_stored {g : Nat} {T : List (Nat × Value)} {t : TypeId} {cs0 : Array Value} {w : World} (hR : RowIs w0 g t cs0) (hle : WLe g T w0 w) (hnd : (T.map Prod.fst).Nodup) (hin : ∀ p ∈ T, p.1 < cs0.size) (hF : ∀ p ∈ T, ∃ u, StoredAt g t p.1 p.2 w u) :
    RowIs w g t (T.foldl (fun c p => c.setIfInBounds p.1 p.2) cs0) := by
  obtain ⟨h1, h2, h3⟩ := fold_get T cs0 hnd hin
  exact row_after hR hle _ h1 (fun k v hkv => ⟨h2 k v hkv, hF _ hkv⟩) h3

theorem below_of_wle {g B : Nat} {T : List (Nat × Value)} {w : World} (hle : WLe g T w0 w) (hB : B ≤ w0.heap.size) (hg : B ≤ g) : Below B w0 w := below_of_grown hle.1 hB (fun k hk => by cases hk; exact hg)
end
end Go.Proofs.YthfckdnennfnoaaGreatDoor
