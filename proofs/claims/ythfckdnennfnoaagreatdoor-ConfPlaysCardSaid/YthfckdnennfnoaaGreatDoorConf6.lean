/- conf: what a port's line is; steps of a drawn region. By an AI agent. -/
import Derived.Test.YthfckdnennfnoaaGreatDoorConf5
namespace Go.Proofs.YthfckdnennfnoaaGreatDoor
open Go.RowKit Go.Sort Grow

namespace Cf
theorem port_len0 {ps : List ByteArray} (h : ¬ 0 < ps.length) : portOf (lists ps) = none := by
  match ps, h with
  | [], _ => rfl
  | _ :: _, h => exact absurd (by simp) h
theorem port_word {ps : List ByteArray} (h1 : part ps 0 ≠ wTap) (h2 : part ps 0 ≠ wLink) : portOf (lists ps) = none := by
  match ps, h1, h2 with
  | [], _, _ => rfl
  | x :: xs, h1, h2 =>
    have h1' : x.data.toList ≠ wTap := h1
    have h2' : x.data.toList ≠ wLink := h2
    show (if x.data.toList = wTap then _ else if x.data.toList = wLink then _ else none) = none
    rw [if_neg h1', if_neg h2']
/-- what is left of a line, behind the first k parts -/
structure Tail (ps : List ByteArray) (k : Nat) (lk : Bool) (ra : Nat) (gr : Bool) (psk : List UInt8) : Prop where
  len : ps.length ≠ k + 4 → portOf (lists ps) = none
  bad : (numOf (part ps k) = none ∨ tagsOf (part ps (k + 1)) = none ∨ numOf (part ps (k + 2)) = none ∨ numOf (part ps (k + 3)) = none) → portOf (lists ps) = none
  good : ∀ a b c d, ps.length = k + 4 → numOf (part ps k) = some a → tagsOf (part ps (k + 1)) = some b → numOf (part ps (k + 2)) = some c → numOf (part ps (k + 3)) = some d → portOf (lists ps) = some ⟨lk, ra, gr, psk, a, b, c, d⟩
theorem tap_len {ps : List ByteArray} (hw : part ps 0 = wTap) (h : ps.length ≠ 5) : portOf (lists ps) = none := by
  have key : ∀ (x : ByteArray) (l : List (List UInt8)), x.data.toList = wTap → portOf (x.data.toList :: l) = restOf false 0 false (zeros 32) l := fun x l hx => by
    show (if x.data.toList = wTap then _ else _) = _
    rw [if_pos hx]
  match ps, hw, h with
  | [], _, _ => rfl
  | [x], hw, _ => exact (key x _ hw).trans rfl
  | [x, _], hw, _ => exact (key x _ hw).trans rfl
  | [x, _, _], hw, _ => exact (key x _ hw).trans rfl
  | [x, _, _, _], hw, _ => exact (key x _ hw).trans rfl
  | [_, _, _, _, _], _, h => exact absurd rfl h
  | x :: _ :: _ :: _ :: _ :: _ :: _, hw, _ => exact (key x _ hw).trans rfl
theorem tap_is {ps : List ByteArray} (hw : part ps 0 = wTap) (h : ps.length = 5) : portOf (lists ps) = restOf false 0 false (zeros 32) [part ps 1, part ps 2, part ps 3, part ps 4] := by
  match ps, hw, h with
  | [x, _, _, _, _], hw, _ =>
    have hx : x.data.toList = wTap := hw
    show (if x.data.toList = wTap then _ else _) = _
    rw [if_pos hx]
    rfl
theorem rest_eq {lk : Bool} {ra : Nat} {gr : Bool} {psk a b c d : List UInt8} : restOf lk ra gr psk [a, b, c, d] = (match numOf a, tagsOf b, numOf c, numOf d with
    | some n, some ts, some h, some k => some ⟨lk, ra, gr, psk, n, ts, h, k⟩
    | _, _, _, _ => none) := rfl
theorem rest_bad {lk : Bool} {ra : Nat} {gr : Bool} {psk a b c d : List UInt8} (h : numOf a = none ∨ tagsOf b = none ∨ numOf c = none ∨ numOf d = none) : restOf lk ra gr psk [a, b, c, d] = none := by
  rw [rest_eq]
  rcases h with h | h | h | h
  · rw [h]
  · rw [h]; cases numOf a <;> rfl
  · rw [h]; cases numOf a <;> cases tagsOf b <;> rfl
  · rw [h]; cases numOf a <;> cases tagsOf b <;> cases numOf c <;> rfl
theorem rest_good {lk : Bool} {ra : Nat} {gr : Bool} {psk a b c d : List UInt8} {x z u : Nat} {y : List Nat} (ha : numOf a = some x) (hb : tagsOf b = some y) (hc : numOf c = some z) (hd : numOf d = some u) : restOf lk ra gr psk [a, b, c, d] = some ⟨lk, ra, gr, psk, x, y, z, u⟩ := by
  rw [rest_eq]
  rw [ha, hb, hc, hd]
theorem tail_tap {ps : List ByteArray} (hw : part ps 0 = wTap) : Tail ps 1 false 0 false (zeros 32) where
  len h := tap_len hw h
  bad h := by
    by_cases hl : ps.length = 5
    · rw [tap_is hw hl]; exact rest_bad h
    · exact tap_len hw hl
  good a b c d hl h1 h2 h3 h4 := by rw [tap_is hw hl]; exact rest_good h1 h2 h3 h4
theorem link_of {ps : List ByteArray} (hw : part ps 0 = wLink) : portOf (lists ps) = linkOf ((lists ps).drop 1) := by
  match ps, hw with
  | [], hw => cases hw
  | x :: xs, hw =>
    have hx : x.data.toList = wLink := hw
    show (if x.data.toList = wTap then _ else if x.data.toList = wLink then _ else none) = _
    rw [if_neg (by rw [hx]; decide), if_pos hx]
    rfl
theorem link_len {ps : List ByteArray} (hw : part ps 0 = wLink) (h : ps.length ≠ 8) : portOf (lists ps) = none := by
  rw [link_of hw]
  have key : ∀ (a b c : List UInt8) (t : List (List UInt8)), t.length ≠ 4 → linkOf (a :: b :: c :: t) = none := fun a b c t ht => by
    have hr : ∀ r g k, restOf true r g k t = none := fun r g k => by
      match t, ht with
      | [], _ => rfl
      | [_], _ => rfl
      | [_, _], _ => rfl
      | [_, _, _], _ => rfl
      | [_, _, _, _], h => exact absurd rfl h
      | _ :: _ :: _ :: _ :: _ :: _, _ => rfl
    show (match numOf a, bytesOf c 32 with
      | some r, some k => if b = [103] ∨ b = [97] then restOf true r (b == [103]) k t else none
      | _, _ => none) = none
    cases numOf a with
    | none => rfl
    | some r => cases bytesOf c 32 with
      | none => rfl
      | some k =>
        show (if _ then _ else _) = _
        rw [hr]
        split <;> rfl
  match ps, h with
  | [], _ => rfl
  | [_], _ => rfl
  | [_, _], _ => rfl
  | [_, _, _], _ => rfl
  | _ :: a :: b :: c :: t, h =>
    refine key _ _ _ _ ?_
    intro h4
    rw [List.length_map] at h4
    simp at h
    omega
theorem link_is {ps : List ByteArray} (hw : part ps 0 = wLink) (h : ps.length = 8) : portOf (lists ps) = (match numOf (part ps 1), bytesOf (part ps 3) 32 with
    | some r, some k => if part ps 2 = [103] ∨ part ps 2 = [97] then restOf true r (part ps 2 == [103]) k [part ps 4, part ps 5, part ps 6, part ps 7] else none
    | _, _ => none) := by
  rw [link_of hw]
  match ps, h with
  | [_, _, _, _, _, _, _, _], _ => rfl
theorem link_bad {ps : List ByteArray} (hw : part ps 0 = wLink) (h : numOf (part ps 1) = none ∨ (part ps 2 ≠ [103] ∧ part ps 2 ≠ [97]) ∨ bytesOf (part ps 3) 32 = none) : portOf (lists ps) = none := by
  by_cases hl : ps.length = 8
  · rw [link_is hw hl]
    rcases h with h | h | h
    · rw [h]
    · cases numOf (part ps 1) <;> cases bytesOf (part ps 3) 32 <;> simp [h.1, h.2]
    · rw [h]; cases numOf (part ps 1) <;> rfl
  · exact link_len hw hl
theorem tail_link {ps : List ByteArray} {r : Nat} {k : List UInt8} (hw : part ps 0 = wLink) (hr : numOf (part ps 1) = some r) (hg : part ps 2 = [103] ∨ part ps 2 = [97]) (hk : bytesOf (part ps 3) 32 = some k) : Tail ps 4 true r (part ps 2 == [103]) k where
  len h := link_len hw h
  bad h := by
    by_cases hl : ps.length = 8
    · rw [link_is hw hl, hr, hk]
      show (if _ then _ else _) = _
      rw [if_pos hg]
      exact rest_bad h
    · exact link_len hw hl
  good a b c d hl h1 h2 h3 h4 := by
    rw [link_is hw hl, hr, hk]
    show (if _ then _ else _) = _
    rw [if_pos hg]
    exact rest_good h1 h2 h3 h4
/-- a port's cells -/
def pcells (p : Pt) (tv : Value) : Array Value := (.int .i64 p.native :: tv :: .int .i64 p.horizon :: .int .i64 p.limit :: .bool p.link :: .int .i64 p.rate :: .bool p.greets :: byteVals p.psk).toArray
def PortAns (ps : List ByteArray) (B : Nat) (e : Ending) (w : World) : Prop := match portOf (lists ps) with
  | some p => ∃ tv, e = .returned (.agg (pcells p tv)) ∧ OutInts w B tv (ints p.tags) ∧ p.psk.length = 32
  | none => e = .panicked ch
theorem portAns_no {ps : List ByteArray} {B : Nat} {w : World} (h : portOf (lists ps) = none) : PortAns ps B (.panicked ch) w := by unfold PortAns; rw [h]
theorem portAns_yes {ps : List ByteArray} {B : Nat} {w : World} {p : Pt} {tv : Value} (h : portOf (lists ps) = some p) (ho : OutInts w B tv (ints p.tags)) (hp : p.psk.length = 32) : PortAns ps B (.returned (.agg (pcells p tv))) w := by unfold PortAns; rw [h]; exact ⟨tv, rfl, ho, hp⟩
end Cf
theorem Only.newer {bs : List Nat} {w w' w'' : World} {X : Nat} (h : Only bs w w') (hX : w.heap.size ≤ X) (hO : ∀ j, j ≠ X → w''.heap[j]? = w'.heap[j]?) (hs : w''.heap.size = w'.heap.size) : Only bs w w'' :=
  ⟨by rw [hs]; exact h.1, fun j hj hn => (hO j (by omega)).trans (h.2 j hj hn)⟩
theorem owns_only {w w' : World} {base : Nat} {e : TypeId} {size n : Nat} {v : Value} {xs : List Value} {bs : List Nat} (h : w.ownsRow base e size v n xs) (ho : Only bs w w') (hb : ∀ b ∈ bs, b < base) : w'.ownsRow base e size v n xs := by
  refine ⟨h.1, ?_⟩
  rcases h.2 with h | ⟨g, cap, cur, hv, hg, hc, h⟩
  · exact .inl h
  · exact .inr ⟨g, cap, cur, hv, hg, (ho.2 g (Array.getElem?_eq_some_iff.1 hc).1 (fun hm => by have := hb g hm; omega)).trans hc, h⟩
theorem owns_stored {w w' : World} {base X : Nat} {e : TypeId} {size n : Nat} {v : Value} {xs : List Value} (h : w.ownsRow base e size v n xs) (hO : ∀ j, j ≠ X → w'.heap[j]? = w.heap[j]?) (hb : X < base) : w'.ownsRow base e size v n xs := by
  refine ⟨h.1, ?_⟩
  rcases h.2 with h | ⟨g, cap, cur, hv, hg, hc, h⟩
  · exact .inl h
  · exact .inr ⟨g, cap, cur, hv, hg, (hO g (by omega)).trans hc, h⟩
theorem tags_ok {s : ByteArray} {ns : List Nat} (h : Cf.tagsOf s.data.toList = some ns) (hs : s.size ≤ 100000) (B : Nat) (w : World) (hB : B ≤ w.heap.size) : Calls Tryz.prog 61 #[.string s] w fun e w' => (∃ v, e = .returned v ∧ OutInts w' B v (Cf.ints ns)) ∧ Below w.heap.size w w' :=
  (tags_any s hs w).mono fun e w' ⟨h3, h2⟩ => by
    unfold Cf.TagsAns at h3
    rw [h] at h3
    obtain ⟨v, rfl, ho⟩ := h3
    exact ⟨⟨v, rfl, owns_base ho hB⟩, h2⟩
theorem tags_bad {s : ByteArray} (h : Cf.tagsOf s.data.toList = none) (hs : s.size ≤ 100000) (w : World) : Calls Tryz.prog 61 #[.string s] w fun e w' => e = .panicked Cf.ch ∧ Below w.heap.size w w' :=
  (tags_any s hs w).mono fun e w' ⟨h3, h2⟩ => ⟨by unfold Cf.TagsAns at h3; rw [h] at h3; exact h3, h2⟩

section
variable {P : Program} {o : Oper} {a : Act} {w : World} {ys : Nat → Option Bool} {K : Act → World → Prop} {Q : Exit → Act → World → Prop} {C : Prop}
theorem step_load_cells (hg : o.guard = none) (ty e : TypeId) (n : Nat) (x : Operand) (ho : o.op = .load ty x) (b : Nat) (vs : List Value) (hx : a.eval x = .pointer (some ⟨b, 0, none⟩)) (hc : CellsAt w b vs)
    (hu : P.underlying ty = some (.array n e)) (hi : (P.info? ty).map (·.size) = some vs.length) (h : K (a.put o.dst (.agg vs.toArray)) w) : if Region.wanted o ys = true then Oper.wp P o a w K Q else C := by
  rw [if_pos (by simp [Region.wanted, hg])]
  unfold Oper.wp execOp
  simp only [ho, hx, Instr.loadAt, Instr.sureAddr, Sem.run_bind, Sem.run_pure, Result.andThen_ok, run_loadVar_cells hc hu hi]
  exact h
theorem step_store_cell (hg : o.guard = none) (ty : TypeId) (x y : Operand) (ho : o.op = .store ty x y) (g k : Nat) (v : Value) (hx : a.eval x = .pointer (some ⟨g, k, none⟩)) (hy : a.eval y = v) (t : TypeId) (cs : Array Value) (hR : RowIs w g t cs) (hk : k < cs.size) (hi : (P.info? ty).map (·.size) = some 1) (hv : v.oneCell' = true) (B : Nat) (hB : B ≤ g)
    (h : ∀ w', RowIs w' g t (cs.setIfInBounds k v) → (∀ j, j ≠ g → w'.heap[j]? = w.heap[j]?) → w'.heap.size = w.heap.size → Below B w w' → K (a.put o.dst undef) w') : if Region.wanted o ys = true then Oper.wp P o a w K Q else C := by
  rw [if_pos (by simp [Region.wanted, hg])]
  unfold Oper.wp execOp
  simp only [ho, hx, hy, Sem.run_bind, run_storeAt_cell hR hk hi hv, Result.andThen_ok, Sem.run_pure]
  have hold : ∀ j, j ≠ g → (w.setCell ⟨g, k, none⟩ v).heap[j]? = w.heap[j]? := fun j hj => Below.heap_setCell w _ v j hj
  exact h _ (heap_setCell_same w g k _ _ _ hR) hold (by simp [World.setCell]) ⟨rfl, rfl, rfl, by simp [World.setCell], fun j hj => hold j (by omega)⟩
theorem step_store_part (hgd : o.guard = none) (ty : TypeId) (x y : Operand) (ho : o.op = .store ty x y)
    (g k : Nat) (cells : Array Value) (hx : a.eval x = .pointer (some ⟨g, k, none⟩)) (hy : a.eval y = .agg cells) (t : TypeId) (old : Array Value) (hR : RowIs w g t old) (hk : k + cells.size ≤ old.size)
    (hi : (P.info? ty).map (·.size) = some cells.size) (h1 : cells.all (·.oneCell') = true) (new : Array Value) (hnew : (putAt old.toList k cells.toList).toArray = new) (B : Nat) (hB : B ≤ g)
    (h : ∀ w', RowIs w' g t new → (∀ j, j ≠ g → w'.heap[j]? = w.heap[j]?) → w'.heap.size = w.heap.size → Below B w w' → K (a.put o.dst undef) w') : if Region.wanted o ys = true then Oper.wp P o a w K Q else C := by
  rw [if_pos (by simp [Region.wanted, hgd])]
  have ht : w.there g k cells.size := fun j hj => ⟨by rw [hR.cell]; simp; omega, hR.free _⟩
  obtain ⟨a1, a2, a3, a4, a5, a6⟩ := setCells_heap (g := g) (t := t) cells.toList k w old hR (by simpa using hk)
  rw [hnew] at a1
  exact wp_store_mid ty x y ho g k cells hx hy ht hi h1 (h _ a1 a2 a3 ⟨a4, a5, a6, Nat.le_of_eq a3.symm, fun j hj => a2 j (by omega)⟩)
end

theorem tv_one {w : World} {base : Nat} {v : Value} {zs : List Int} (h : OutInts w base v zs) : v.oneCell' = true := by
  rcases h.2 with ⟨rfl, _⟩ | ⟨g, cap, cur, rfl, _⟩ <;> rfl
theorem CPsize : (Tryz.prog.info? 72).map (·.size) = some 39 := by kernel_rfl
theorem tv_form {w : World} {base : Nat} {v : Value} {zs : List Int} (h : OutInts w base v zs) : ∃ a n c, v = .slice a n c := by
  rcases h.2 with ⟨rfl, _⟩ | ⟨g, cap, cur, rfl, _⟩
  · exact ⟨none, 0, 0, rfl⟩
  · exact ⟨_, _, _, rfl⟩
theorem pc_info {na tg ho li lk ra gr : Value} {psk : List UInt8} (h : psk.length = 32) : (Tryz.prog.info? 72).map (·.size) = some ((na :: tg :: ho :: li :: lk :: ra :: gr :: byteVals psk).toArray).size := by
  have e : ((na :: tg :: ho :: li :: lk :: ra :: gr :: byteVals psk).toArray).size = 39 := by simp [byteVals_length, h]
  rw [e]
  exact CPsize
theorem pc_one {na tg ho li lk ra gr : Value} {psk : List UInt8} (h : (na.oneCell' && tg.oneCell' && ho.oneCell' && li.oneCell' && lk.oneCell' && ra.oneCell' && gr.oneCell') = true) : ((na :: tg :: ho :: li :: lk :: ra :: gr :: byteVals psk).toArray).all (·.oneCell') = true := by
  simp only [Bool.and_eq_true] at h
  have h2 : ∀ x ∈ byteVals psk, x.oneCell' = true := by
    intro x hx
    obtain ⟨b, _, rfl⟩ := List.mem_map.1 hx
    rfl
  simp
  exact ⟨h.1.1.1.1.1.1, h.1.1.1.1.1.2, h.1.1.1.1.2, h.1.1.1.2, h.1.1.2, h.1.2, h.2, h2⟩

def Cf.zport : Array Value := (.int .i64 0 :: .slice none 0 0 :: .int .i64 0 :: .int .i64 0 :: .bool false :: .int .i64 0 :: .bool false :: byteVals (Cf.zeros 32)).toArray
theorem wpList_alloc_port {P : Program} {ops : Array Oper} {rest : List Oper} {o : Oper} {a : Act} {w : World} {Q : Exit → Act → World → Prop} (hgd : Region.wanted o (yielded ops a.tmps) = true) (t : TypeId) (cs : Array Value) (ho : o.op = .alloc t) (hi : ((P.info? t).bind fun i => i.zero.map (·.cells)) = some cs)
    (h : wpList P ops Q rest (a.put o.dst (.pointer (some ⟨w.heap.size, 0, none⟩))) (w.alloc (.cells cs t))) : wpList P ops Q (o :: rest) a w :=
  BigFrame.wpList_want hgd fun _ hK => by
    obtain ⟨i, hi', hz'⟩ := Option.bind_eq_some_iff.1 hi
    obtain ⟨z, hz, he⟩ := Option.map_eq_some_iff.1 hz'
    unfold Oper.wp execOp
    have hr : (Instr.alloc t true (.tuple #[])).run P w = .ok (.pointer (some ⟨w.heap.size, 0, none⟩)) (w.alloc (.cells cs t)) := by
      simp [Instr.alloc, zeroValue, typeInfo, hi', hz, newVar, newRow, he]
    simp only [ho, hr, Sem.run_bind, Sem.run_pure, Result.andThen_ok]
    exact hK _ _ h
theorem at_alloc {P : Program} {ops : Array Oper} {rest : List Oper} {a : Act} {w : World} {Q : Exit → Act → World → Prop} (ty : TypeId) {dst : Option Tmp} {t : TypeId} {pos : String} {aft : Array Edge} {g : Option _}
    (h : wpList P ops Q (⟨dst, .alloc ty, t, pos, aft, g⟩ :: rest) a w) : wpList P ops Q (⟨dst, .alloc ty, t, pos, aft, g⟩ :: rest) a w := h
theorem zport_is : ((Tryz.prog.info? 72).bind fun i => i.zero.map (·.cells)) = some Cf.zport := by kernel_rfl
theorem Cf.put_end (xs old new : List Value) (k : Nat) (hk : xs.length = k) (h : old.length = new.length) : putAt (xs ++ old) k new = xs ++ new := by
  have := Cf.put_midK xs old new [] k hk h
  simpa using this

theorem Cf.put_seven {a b c d e f g : Value} (old new : List Value) (h : old.length = new.length) : putAt (a :: b :: c :: d :: e :: f :: g :: old) 7 new = a :: b :: c :: d :: e :: f :: g :: new := Cf.put_end [a, b, c, d, e, f, g] old new 7 rfl h
theorem CellsAt.stored {w w' : World} {b X : Nat} {vs : List Value} (h : CellsAt w b vs) (hO : ∀ j, j ≠ X → w'.heap[j]? = w.heap[j]?) (hs : w'.heap.size = w.heap.size) (hn : X < b) : CellsAt w' b vs :=
  ⟨by rw [hs]; exact h.1, fun j v hj => by
    rw [← h.2 j v hj]
    simp only [World.cell?, hO b (by omega)]⟩
end Go.Proofs.YthfckdnennfnoaaGreatDoor
