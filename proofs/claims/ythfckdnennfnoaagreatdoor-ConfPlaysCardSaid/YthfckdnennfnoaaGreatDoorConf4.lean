/- conf: tags. By an AI agent. -/
import Derived.Test.YthfckdnennfnoaaGreatDoorConf3
import Derived.OwnWalkIn
import Derived.Maps.AppendAt
namespace Go.Proofs.YthfckdnennfnoaaGreatDoor
open Go.RowKit Go.Shelf
attribute [local go_sem] Oper.semAt_some

set_option maxHeartbeats 1000000 in
theorem splitSeq_kn (n : Nat) (s : ByteArray) (c : UInt8) (w : World) : CallsIn Kn n Tryz.prog 87 #[.string s, .string ⟨#[c]⟩, .int .i64 0] w fun e w' => e = .returned (.func (.func 97) #[] #[.pointer (some ⟨w.heap.size + 1, 0, none⟩), .pointer (some ⟨w.heap.size, 0, none⟩), .pointer (some ⟨w.heap.size + 2, 0, none⟩)]) ∧ w' = ((w.alloc (.cells #[.string s] 9)).alloc (.cells #[.string ⟨#[c]⟩] 9)).alloc (.cells #[.int .i64 0] 3) := by
  have hro : Kn.round = none := rfl
  refine callsIn_of_wp Tryz.func87 rfl ⟨_, Tryz.func87⟩ ?_ rfl
  simp only [Tryz.ntmps87, List.size_toArray, List.length_cons, List.length_nil, Nat.reduceAdd, Nat.reduceSub, Array.replicate_succ, Array.replicate_zero, List.push_toArray, List.append_toArray, List.nil_append, List.cons_append]
  gi_wp2
  go_ret
  exact ⟨rfl, rfl⟩
set_option maxHeartbeats 1000000 in
theorem splitSeq_kn1 (n : Nat) (s : ByteArray) (c : UInt8) (w : World) : CallsIn Kn n Tryz.prog 76 #[.string s, .string ⟨#[c]⟩] w fun e w' => e = .returned (.func (.func 97) #[] #[.pointer (some ⟨w.heap.size + 1, 0, none⟩), .pointer (some ⟨w.heap.size, 0, none⟩), .pointer (some ⟨w.heap.size + 2, 0, none⟩)]) ∧ w' = ((w.alloc (.cells #[.string s] 9)).alloc (.cells #[.string ⟨#[c]⟩] 9)).alloc (.cells #[.int .i64 0] 3) := by
  have hro : Kn.round = none := rfl
  refine callsIn_of_wp Tryz.func76 rfl ⟨_, Tryz.func76⟩ ?_ rfl
  simp only [Tryz.ntmps76, List.size_toArray, List.length_cons, List.length_nil, Nat.reduceAdd, Nat.reduceSub, Array.replicate_succ, Array.replicate_zero, List.push_toArray, List.append_toArray, List.nil_append, List.cons_append]
  gi_wp2_with (refine ⟨⟨_, Tryz.func87⟩, (splitSeq_kn _ _ _ _).mono ?_⟩; rintro e w' ⟨rfl, rfl⟩)
  go_ret
  exact ⟨rfl, rfl⟩

theorem split_stopsP (n : Nat) (b : Nat) (c : UInt8) (s : ByteArray) (hsz : s.size ≤ 100000) (w : World) (h0 : Boxed w b 9 (.string s)) (h1 : Boxed w (b + 1) 9 (.string ⟨#[c]⟩)) (h2 : Boxed w (b + 2) 3 (.int .i64 0)) :
    StopsP Kn n Tryz.prog 97 #[.pointer (some ⟨b + 1, 0, none⟩), .pointer (some ⟨b, 0, none⟩), .pointer (some ⟨b + 2, 0, none⟩)] (fun x : ByteArray => #[.string x]) b (Three b) (fun xs => xs = Oct.pieces c s) (fun pre => pre <+: Oct.pieces c s) w := fun l J Jp W hW hJ hY hj =>
  split1_kn n l b c s hsz J Jp hJ hY W (RowIs.kept h0 hW) (RowIs.kept h1 hW) (RowIs.kept h2 hW) hj

theorem info_int : ∃ i z, Tryz.prog.info? 3 = some i ∧ i.zero = some z ∧ i.size = 1 ∧ i.bytes = 8 ∧ z.cells.size = 1 := by
  have h : (Tryz.prog.info? 3).map (fun i => (i.zero.map (·.cells.size), i.size, i.bytes)) = some (some 1, 1, 8) := by kernel_rfl
  obtain ⟨i, hi, h⟩ := Option.map_eq_some_iff.1 h
  simp only [Prod.mk.injEq] at h
  obtain ⟨z, hz, h18⟩ := Option.map_eq_some_iff.1 h.1
  exact ⟨i, z, hi, hz, h.2.1, h.2.2, h18⟩

/-- a slice of the call's own that holds the numbers -/
def OutInts (w : World) (base : Nat) (v : Value) (zs : List Int) : Prop := w.ownsRow base 3 1 v zs.length (zs.map (Value.int .i64))
theorem outInts_nil (w : World) (base : Nat) : OutInts w base (.slice none 0 0) [] := World.ownsRow_nil _ _ _ _
theorem OutInts.later {w w' : World} {base : Nat} {v : Value} {zs : List Int} (h : OutInts w base v zs) (hb : Below w.heap.size w w') : OutInts w' base v zs := by
  refine ⟨h.1, ?_⟩
  rcases h.2 with h2 | ⟨g, cap, cur, e1, e2, e3, e4⟩
  · exact .inl h2
  · exact .inr ⟨g, cap, cur, e1, e2, (hb.block g (Array.getElem?_eq_some_iff.1 e3).1).trans e3, e4⟩

namespace Cf
def ints (ns : List Nat) : List Int := ns.map fun (n : Nat) => (n : Int)
theorem allNum_snoc (ps : List (List UInt8)) (p : List UInt8) : allNum (ps ++ [p]) = (match allNum ps, numOf p with | some l, some n => some (l ++ [n]) | _, _ => none) := by
  induction ps with
  | nil => simp only [List.nil_append, allNum]; cases numOf p <;> rfl
  | cons q ps ih =>
    simp only [List.cons_append, allNum, ih]
    cases numOf q <;> cases allNum ps <;> cases numOf p <;> rfl
theorem allNum_bad {ps qs : List (List UInt8)} {p : List UInt8} (h : numOf p = none) : allNum (ps ++ p :: qs) = none := by
  induction ps with
  | nil => simp only [List.nil_append, allNum, h]
  | cons q ps ih =>
    simp only [List.cons_append, allNum, ih]
    cases numOf q <;> rfl
theorem parts_len (c : UInt8) (l : List UInt8) : (Oct.parts c l).length ≤ l.length + 1 := by
  induction l with
  | nil => simp [Oct.parts]
  | cons a l ih =>
    unfold Oct.parts
    by_cases h : a = c
    · rw [if_pos h]; simp; omega
    · rw [if_neg h]
      cases hp : Oct.parts c l with
      | nil => simp
      | cons p ps => rw [hp] at ih; simp at ih ⊢; omega
theorem pieces_len (c : UInt8) (s : ByteArray) : (Oct.pieces c s).length ≤ s.size + 1 := by
  unfold Oct.pieces
  rw [List.length_map]
  have := parts_len c s.data.toList
  simpa using this
theorem pieces_list (c : UInt8) (s : ByteArray) : (Oct.pieces c s).map (fun x => x.data.toList) = Oct.parts c s.data.toList := by
  unfold Oct.pieces
  rw [List.map_map]
  conv => rhs; rw [← List.map_id (Oct.parts c s.data.toList)]
  rfl
/-- the tags in a slice of one's own, or a panic -/
def TagsAns (s : ByteArray) (B : Nat) (e : Ending) (w : World) : Prop := match tagsOf s.data.toList with
  | some ns => ∃ v, e = .returned v ∧ OutInts w B v (ints ns)
  | none => e = .panicked ch
theorem tagsAns_no {s : ByteArray} {B : Nat} {w : World} (h : tagsOf s.data.toList = none) : TagsAns s B (.panicked ch) w := by unfold TagsAns; rw [h]
theorem tagsAns_yes {s : ByteArray} {B : Nat} {w : World} {v : Value} {ns : List Nat} (h : tagsOf s.data.toList = some ns) (ho : OutInts w B v (ints ns)) : TagsAns s B (.returned v) w := by unfold TagsAns; rw [h]; exact ⟨v, rfl, ho⟩
end Cf

theorem RowIs.turned {W W' : World} {n : Nat} {t : TypeId} {cs : Array Value} {row : Option Nat} (h : RowIs W n t cs) (hg : W.grownBy W' row) (hr : ∀ r, row = some r → r ≠ n) : RowIs W' n t cs :=
  (hg.block n h.lt (fun e => hr n e.symm rfl)).trans h
theorem RowIs.hidden {W : World} {n D : Nat} {t : TypeId} {cs : Array Value} {x : Option (List Deferred)} {o : Obj} (h : RowIs W n t cs) (hK : W.heap[D]? = some (.deferred x)) : RowIs (W.putObj D o) n t cs :=
  (World.putObj_heap_other (fun e => by subst e; rw [show W.heap[n]? = _ from h] at hK; cases hK)).trans h

theorem below_turned {H : Nat} {w W W' : World} {row : Option Nat} (h : Below H w W) (hw : H ≤ w.heap.size) (hg : W.grownBy W' row) (hr : ∀ r, row = some r → H ≤ r) : Below H w W' := h.grown hg (Nat.le_trans hw h.size) hr
theorem keepsFrom_below {B : Nat} {W W' : World} (h : Below W.heap.size W W') : KeepsFrom B W W' := ⟨h.size, fun k o _ hk _ => (h.block k (Array.getElem?_eq_some_iff.1 hk).1).trans hk⟩
theorem keepsFrom_block {B g : Nat} {W W' : World} (hg : g < B) (hs : W'.heap.size = W.heap.size) (h : ∀ k, k ≠ g → W'.heap[k]? = W.heap[k]?) : KeepsFrom B W W' := ⟨by omega, fun k o hk hko _ => (h k (by omega)).trans hko⟩


theorem owns_ge {w : World} {base : Nat} {e : TypeId} {size n : Nat} {v : Value} {xs : List Value} (h : w.ownsRow base e size v n xs) : ∀ k, v.ownBlock = some k → base ≤ k := by
  intro k hk
  rcases h.2 with ⟨rfl, _⟩ | ⟨g, cap, cur, rfl, hb, _⟩
  · simp [Value.ownBlock] at hk
  · simp [Value.ownBlock] at hk; omega
theorem owns_rebase {w : World} {base base' : Nat} {e : TypeId} {size n : Nat} {v : Value} {xs : List Value} (h : w.ownsRow base e size v n xs) (hge : ∀ k, v.ownBlock = some k → base' ≤ k) : w.ownsRow base' e size v n xs := by
  refine ⟨h.1, ?_⟩
  rcases h.2 with h | ⟨g, cap, cur, rfl, hb, h⟩
  · exact .inl h
  · exact .inr ⟨g, cap, cur, rfl, hge g (by simp [Value.ownBlock]), h⟩
theorem owns_turned {w w' : World} {base : Nat} {e : TypeId} {size n : Nat} {v : Value} {xs : List Value} {row : Option Nat} (h : w.ownsRow base e size v n xs) (hg : w.grownBy w' row) (hr : ∀ r, row = some r → ∃ o : Obj, w.heap[r]? = some o ∧ o.isCells = false) : w'.ownsRow base e size v n xs := by
  refine ⟨h.1, ?_⟩
  rcases h.2 with h | ⟨g, cap, cur, hv, hb, hc, h⟩
  · exact .inl h
  · refine .inr ⟨g, cap, cur, hv, hb, (hg.block g (Array.getElem?_eq_some_iff.1 hc).1 (fun e => ?_)).trans hc, h⟩
    obtain ⟨o, ho, hn⟩ := hr g e.symm
    rw [hc] at ho
    cases ho
    cases hn
theorem owns_other {w w' : World} {base : Nat} {e : TypeId} {size n : Nat} {v : Value} {xs : List Value} {row : Option Nat} (h : w.ownsRow base e size v n xs) (hg : w.grownBy w' row) (hr : ∀ r, row = some r → r < base) : w'.ownsRow base e size v n xs := by
  refine ⟨h.1, ?_⟩
  rcases h.2 with h | ⟨g, cap, cur, hv, hb, hc, h⟩
  · exact .inl h
  · exact .inr ⟨g, cap, cur, hv, hb, (hg.block g (Array.getElem?_eq_some_iff.1 hc).1 (fun e => by have := hr g e.symm; omega)).trans hc, h⟩
theorem owns_base {w : World} {base base' : Nat} {e : TypeId} {size n : Nat} {v : Value} {xs : List Value} (h : w.ownsRow base e size v n xs) (hb : base' ≤ base) : w.ownsRow base' e size v n xs :=
  owns_rebase h fun k hk => Nat.le_trans hb (owns_ge h k hk)
theorem stepIn_append_own {F : Fence} {n : Nat} {P : Program} {w : World} {o : Oper} {a : Act} {ys : Nat → Option Bool} {K : Act → World → Prop} {Q : Exit → Act → World → Prop} {C : Prop}
    (hg : o.guard = none) (s x : Operand) (t : TypeId) (hop : o.op = Op.call { callee := Callee.builtin Builtin.append, args := #[s, x], argTypes := #[t, t] })
    (base : Nat) (e : TypeId) (i : TypeInfo) (z : Value) (size bytes : Nat) (h1 : P.underlying t = some (.slice e)) (h2 : P.info? e = some i) (h3 : i.zero = some z) (h4 : i.size = size) (h5 : i.bytes = bytes) (h6 : z.cells.size = size) (h7 : 0 < size)
    (v : Value) (k : Nat) (xs : List Value) (hs : a.eval s = v) (hown : w.ownsRow base e size v k xs) (ad : Addr) (m c : Nat) (news : List Value) (hx : a.eval x = .slice (some ad) m c) (hn : news.length = m * size)
    (hc : ∀ j u, news[j]? = some u → w.cell? (ad.add j) = some u) (h1c : ∀ u ∈ news, u.oneCell' = true) (b1 : k + m ≤ maxLen) (b2 : (k + m) * bytes ≤ 140737488355328) (b3 : base ≤ w.heap.size)
    (hK : ∀ v' w', w'.ownsRow base e size v' (k + m) (xs ++ news) → w.grownBy w' v.ownBlock → K (a.put o.dst v') w') :
    if Region.wanted o ys = true then Oper.wpIn F n P o a w K Q else C := by
  rw [if_pos (by simp [Region.wanted, hg])]
  obtain ⟨v', w', hrun, r1, r2, r3⟩ := run_append_own (P := P) w base t o.type e i z size bytes h1 h2 h3 h4 h5 h6 h7 v k xs hown ad m c news hn hc h1c b1 b2 b3
  unfold Oper.wpIn
  refine ⟨?_, ?_⟩
  · simp [Oper.about, hop, resolve, Target.leads, Sem.run_pure]
  · rw [Oper.semAt_plain F _ _ (by rw [hop]; intro c hc'; cases hc')]
    simp [execOp, hop, resolve, invoke, builtin, hs, hx, hrun, Result.andThen]
    exact hK v' w' r1 r2

theorem number_ok {s : ByteArray} {k : Nat} (h : Cf.numOf s.data.toList = some k) (n : Nat) (w : World) : CallsIn Kn n Tryz.prog 60 #[.string s] w fun e w' => e = .returned (.int .i64 k) ∧ Below w.heap.size w w' :=
  (number_in n s w).mono fun e w' ⟨h1, h2⟩ => ⟨by unfold Cf.NumAns at h1; rw [h] at h1; exact h1, h2⟩
theorem number_bad {s : ByteArray} (h : Cf.numOf s.data.toList = none) (n : Nat) (w : World) : CallsIn Kn n Tryz.prog 60 #[.string s] w fun e w' => e = .panicked Cf.ch ∧ Below w.heap.size w w' :=
  (number_in n s w).mono fun e w' ⟨h1, h2⟩ => ⟨by unfold Cf.NumAns at h1; rw [h] at h1; exact h1, h2⟩

set_option maxRecDepth 100000 in
set_option maxHeartbeats 8000000 in
theorem tags_in (s : ByteArray) (hsz : s.size ≤ 100000) (w : World) : CallsIn Kn 8 Tryz.prog 61 #[.string s] w fun e w' => Cf.TagsAns s w.heap.size e w' ∧ Below w.heap.size w w' := by
  have hro : Kn.round = none := rfl
  by_cases hs : s = ⟨#[45]⟩
  · subst hs
    refine callsIn_of_wp_marks Tryz.func61 rfl ⟨_, Tryz.func61⟩ ?_ rfl
    simp only [Tryz.ntmps61, List.size_toArray, List.length_cons, List.length_nil, Nat.reduceAdd, Nat.reduceSub, Array.replicate_succ, Array.replicate_zero, List.push_toArray, List.append_toArray, List.nil_append, List.cons_append]
    gi_wp2
    exact ⟨_, results_tmp rfl _ _ _, Cf.tagsAns_yes (ns := []) rfl (outInts_nil _ _), Below.refl _ _⟩
  have hne : (s.toList == [45]) = false := by
    rw [beq_eq_false_iff_ne, Lib.toList_data]
    intro h
    apply hs
    apply ByteArray.ext
    apply Array.toList_inj.1
    rw [h]
  have HT : Hid (Cf.tagsOf s.data.toList = Cf.allNum (Oct.parts 44 s.data.toList)) := by
    show _ = _
    unfold Cf.tagsOf
    rw [if_neg]
    intro h
    apply hs
    apply ByteArray.ext
    apply Array.toList_inj.1
    rw [h]
  clear hs
  refine callsIn_of_wp_marks Tryz.func61 rfl ⟨_, Tryz.func61⟩ ?_ rfl
  simp only [Tryz.ntmps61, List.size_toArray, List.length_cons, List.length_nil, Nat.reduceAdd, Nat.reduceSub, Array.replicate_succ, Array.replicate_zero, List.push_toArray, List.append_toArray, List.nil_append, List.cons_append]
  gi_wp2_with (refine ⟨⟨_, Tryz.func76⟩, (splitSeq_kn1 _ _ _ _).mono ?_⟩; rintro e w' ⟨rfl, rfl⟩)
  have hW : ∃ W0, (((w.alloc (.cells #[.slice none 0 0] 47)).alloc (.cells #[.string s] 9)).alloc (.cells #[.string ⟨#[44]⟩] 9)).alloc (.cells #[.int .i64 0] 3) = W0 := ⟨_, rfl⟩
  obtain ⟨W0, hW⟩ := hW
  have hX0 : Boxed W0 w.heap.size 47 (.slice none 0 0) := by
    rw [← hW]
    exact (((Boxed.new w _ _).alloc _).alloc _).alloc _
  have hB0 : Boxed W0 (w.heap.size + 1) 9 (.string s) := by
    rw [← hW]
    have := ((Boxed.new (w.alloc (.cells #[.slice none 0 0] 47)) 9 (.string s)).alloc (.cells #[.string ⟨#[44]⟩] 9)).alloc (.cells #[.int .i64 0] 3)
    simpa only [World.size_alloc, Nat.add_assoc, Nat.reduceAdd] using this
  have hB1 : Boxed W0 (w.heap.size + 1 + 1) 9 (.string ⟨#[44]⟩) := by
    rw [← hW]
    have := (Boxed.new ((w.alloc (.cells #[.slice none 0 0] 47)).alloc (.cells #[.string s] 9)) 9 (.string ⟨#[44]⟩)).alloc (.cells #[.int .i64 0] 3)
    simpa only [World.size_alloc, Nat.add_assoc, Nat.reduceAdd] using this
  have hB2 : Boxed W0 (w.heap.size + 1 + 2) 3 (.int .i64 0) := by
    rw [← hW]
    have := Boxed.new (((w.alloc (.cells #[.slice none 0 0] 47)).alloc (.cells #[.string s] 9)).alloc (.cells #[.string ⟨#[44]⟩] 9)) 3 (.int .i64 0)
    simpa only [World.size_alloc, Nat.add_assoc, Nat.reduceAdd] using this
  have hbel : Below w.heap.size w W0 := by
    rw [← hW]
    exact (((((Below.refl _ _).alloc (Nat.le_refl _) _).alloc (by simp) _).alloc (by simp; omega) _).alloc (by simp; omega) _)
  have hsz0 : W0.heap.size = w.heap.size + 4 := by rw [← hW]; simp
  rw [hW]
  clear hW
  rw [show w.heap.size + 1 + 1 = w.heap.size + 2 by omega, show w.heap.size + 1 + 2 = w.heap.size + 3 by omega]
  have hHw : w.heap.size ≤ w.heap.size := Nat.le_refl _
  generalize hH : w.heap.size = H at *
  obtain ⟨ti, tz, hi, hz, hz1, hz2, hz3⟩ := info_int
  have hplen : (Oct.pieces 44 s).length ≤ 100001 := Nat.le_trans (Cf.pieces_len 44 s) (by omega)
  refine wpIn_rangeFunc_ownP (F := Kn) rfl (fun f h => h) (by decide) (gf := 97) (lb := #[.pointer (some ⟨H + 1 + 1, 0, none⟩), .pointer (some ⟨H + 1, 0, none⟩), .pointer (some ⟨H + 1 + 2, 0, none⟩)]) rfl ⟨_, Tryz.func97⟩ (enters_of Tryz.func97 (by kernel_rfl) rfl)
    (split_stopsP 7 (H + 1) 44 s hsz W0 hB0 hB1 hB2) (by omega) (fun h k => h.trans k) (fun W l o hl => Three.put (N := H + 4) (by omega) W l o (by omega)) (fun _ => rfl)
    (fun pre W => ∃ ns v, Cf.allNum (pre.map fun x => x.data.toList) = some ns ∧ ns.length = pre.length ∧ Boxed W H 47 v ∧ OutInts W (H + 4) v (Cf.ints ns) ∧ Below H w W ∧ H + 4 ≤ W.heap.size)
    (fun ch W => ch = Cf.ch ∧ Cf.tagsOf s.data.toList = none ∧ Below H w W)
    ?hI ?hIZ ⟨[], _, rfl, rfl, hX0, outInts_nil _ _, hbel, by omega⟩
    (fun x => { tmps := #[.string s, undef, .slice none 0 0, .pointer (some ⟨H, 0, none⟩), .string x, .string s, .bool false, .string s, .func (.func 97) #[] #[.pointer (some ⟨H + 2, 0, none⟩), .pointer (some ⟨H + 1, 0, none⟩), .pointer (some ⟨H + 3, 0, none⟩)], .string x, undef, undef, undef, undef, undef, undef], defers := [] }) ?assign ?body ?done ?pan
  case hI =>
    rintro pre A B row ⟨ns, v, h1, h2, h3, h4, h5, h6⟩ hg hr
    exact ⟨ns, v, h1, h2, RowIs.turned h3 hg (fun r e => by have := (hr r e).1; omega), owns_turned h4 hg (fun r e => (hr r e).2), below_turned h5 (by omega) hg (fun r e => by have := (hr r e).1; omega), Nat.le_trans h6 hg.size⟩
  case hIZ =>
    rintro pre A B row ⟨ns, v, h1, h2, h3, h4, h5, h6⟩ hg hr
    exact ⟨ns, v, h1, h2, RowIs.turned h3 hg (fun r e => by have := hr r e; omega), owns_other h4 hg (fun r e => by have := hr r e; omega), below_turned h5 (by omega) hg (fun r e => by have := hr r e; omega), Nat.le_trans h6 hg.size⟩
  case assign =>
    intro l x W K hK
    gi_wp2
    exact hK
  case body =>
    rintro l pre x W ⟨ns, v, h1, h2, h3, h4, h5, h6⟩ hpre
    have hvc := h3.cell
    cases hn : Cf.numOf x.data.toList with
    | none =>
      have hno : Cf.tagsOf s.data.toList = none := by
        obtain ⟨rest, hrest⟩ := hpre
        rw [HT.out, ← Cf.pieces_list, ← hrest, List.append_assoc, List.map_append, List.singleton_append, List.map_cons]
        exact Cf.allNum_bad hn
      have HNB := Lib.hid (fun n w => number_bad hn n w)
      gi_wp2
      refine wpIn_region_any (by kernel_rfl) ?_
      try (change wpAnyIn _ _ _ _ _ _ _ _ _ (World.drew _))
      refine wpAnyIn_ready (rs := [0, 1]) (by kernel_rfl) (by simp) ?_
      refine AllReadyIn.cons rfl (fun K hK => ?_) ?_
      · go_simp; refine hK _ _ ?_; clear hK K
        refine wpAnyIn_ready (rs := [1]) (by kernel_rfl) (by simp) ?_
        refine AllReadyIn.cons rfl (fun K hK => ?_) ?_
        · go_simp; refine hK _ _ ?_; clear hK K
          refine wpAnyIn_ready (rs := [2]) (by kernel_rfl) (by simp) ?_
          refine AllReadyIn.cons rfl (fun K hK => ?_) ?_
          · go_simp
            refine ⟨⟨_, Tryz.func60⟩, (CallsIn.inRound l (HNB.out _ _)).mono ?_⟩
            rintro e w1 ⟨rfl, hb1⟩
            have hb1 : Below W.heap.size W w1 := ⟨hb1.os, hb1.tape, hb1.output, hb1.size, hb1.block⟩
            exact ⟨rfl, keepsFrom_below hb1, rfl, hno, h5.trans (hb1.mono (Nat.le_trans (by omega) h6))⟩
          exact AllReadyIn.nil
        exact AllReadyIn.nil
      refine AllReadyIn.cons rfl (fun K hK => ?_) ?_
      · go_simp; refine hK _ _ ?_; clear hK K
        refine wpAnyIn_ready (rs := [0, 2]) (by kernel_rfl) (by simp) ?_
        refine AllReadyIn.cons rfl (fun K hK => ?_) ?_
        · go_simp; refine hK _ _ ?_; clear hK K
          refine wpAnyIn_ready (rs := [2]) (by kernel_rfl) (by simp) ?_
          refine AllReadyIn.cons rfl (fun K hK => ?_) ?_
          · go_simp
            refine ⟨⟨_, Tryz.func60⟩, (CallsIn.inRound l (HNB.out _ _)).mono ?_⟩
            rintro e w1 ⟨rfl, hb1⟩
            have hb1 : Below W.heap.size W w1 := ⟨hb1.os, hb1.tape, hb1.output, hb1.size, hb1.block⟩
            exact ⟨rfl, keepsFrom_below hb1, rfl, hno, h5.trans (hb1.mono (Nat.le_trans (by omega) h6))⟩
          exact AllReadyIn.nil
        refine AllReadyIn.cons rfl (fun K hK => ?_) ?_
        · go_simp
          refine ⟨⟨_, Tryz.func60⟩, (CallsIn.inRound l (HNB.out _ _)).mono ?_⟩
          rintro e w1 ⟨rfl, hb1⟩
          have hb1 : Below W.heap.size W w1 := ⟨hb1.os, hb1.tape, hb1.output, hb1.size, hb1.block⟩
          exact ⟨rfl, keepsFrom_below hb1, rfl, hno, h5.trans (hb1.mono (Nat.le_trans (by omega) h6))⟩
        exact AllReadyIn.nil
      exact AllReadyIn.nil
    | some nx =>
      have HNO := Lib.hid (fun n w => number_ok hn n w)
      have hal : Cf.allNum ((pre ++ [x]).map fun x => x.data.toList) = some (ns ++ [nx]) := by
        rw [List.map_append, List.map_singleton, Cf.allNum_snoc, h1, hn]
      have hln : (ns ++ [nx]).length = (pre ++ [x]).length := by simp [h2]
      have hil : (Cf.ints ns).length = ns.length := by simp [Cf.ints]
      have hpl : (pre ++ [x]).length ≤ 100001 := Nat.le_trans hpre.length_le hplen
      rw [List.length_append, List.length_singleton] at hpl
      have hbd1 : (Cf.ints ns).length + 1 ≤ maxLen := by unfold maxLen; omega
      have hbd2 : ((Cf.ints ns).length + 1) * 8 ≤ 140737488355328 := by omega
      clear h2 hil hpl
      gi_wp2
      refine wpIn_region_any (by kernel_rfl) ?_
      try (change wpAnyIn _ _ _ _ _ _ _ _ _ (World.drew _))
      refine wpAnyIn_ready (rs := [0, 1]) (by kernel_rfl) (by simp) ?_
      refine AllReadyIn.cons rfl (fun K hK => ?_) ?_
      · go_simp; refine hK _ _ ?_; clear hK K
        refine wpAnyIn_ready (rs := [1]) (by kernel_rfl) (by simp) ?_
        refine AllReadyIn.cons rfl (fun K hK => ?_) ?_
        · go_simp; refine hK _ _ ?_; clear hK K
          refine wpAnyIn_ready (rs := [2]) (by kernel_rfl) (by simp) ?_
          refine AllReadyIn.cons rfl (fun K hK => ?_) ?_
          · go_simp
            refine ⟨⟨_, Tryz.func60⟩, (CallsIn.inRound l (HNO.out _ _)).mono ?_⟩
            rintro e w1 ⟨rfl, hb1⟩
            have hb1 : Below W.heap.size W w1 := ⟨hb1.os, hb1.tape, hb1.output, hb1.size, hb1.block⟩
            have hx1 : Boxed w1 H 47 v := RowIs.kept h3 hb1
            have hvc1 := hx1.cell
            have hvc2 := (hx1.alloc (.cells #[.int .i64 nx] 3)).cell
            refine hK _ _ ?_
            clear hK K
            refine wpAnyIn_ready (rs := [3]) (by kernel_rfl) (by simp) ?_
            refine AllReadyIn.cons rfl (fun K hK => ?_) ?_
            · go_simp; refine hK _ _ ?_; clear hK K
              refine wpAnyIn_ready (rs := [4]) (by kernel_rfl) (by simp) ?_
              refine AllReadyIn.cons rfl (fun K hK => ?_) ?_
              · refine stepIn_append_own rfl (.tmp 10) (.tmp 13) 47 rfl (H + 4) 3 ti tz 1 8 Tryz.underlying47 hi hz hz1 hz2 hz3 (by decide) v (Cf.ints ns).length _ rfl (World.ownsRow.alloc (h4.later hb1) _) ⟨w1.heap.size, 0, none⟩ 1 1 [.int .i64 nx] rfl rfl (cell_one_new _ _ _) (by simp [Value.oneCell']) hbd1 hbd2 (by have := hb1.size; simp; omega) ?_
                intro v' w2 hown' hgrow
                obtain ⟨g', cap', rfl⟩ := ownsRow_succ hown'
                obtain ⟨hv1, hv2, hr2, hk2, hb2⟩ := hx1.appended (n₀ := H) (by decide) (owns_base (h4.later hb1) (by omega)) (by have := hb1.size; omega) (Nat.le_refl _) (owns_base hown' (by omega)) hgrow
                have hc1 := hv1.cell
                have hf1 := hv1.frozen
                have hr2' : OutInts (w2.setCell ⟨H, 0, none⟩ (.slice (some ⟨g', 0, none⟩) ((Cf.ints ns).length + 1) cap')) (H + 4) (.slice (some ⟨g', 0, none⟩) ((Cf.ints ns).length + 1) cap') (Cf.ints (ns ++ [nx])) := by
                  refine owns_rebase (by simpa [Cf.ints] using hr2) ?_
                  have := hown'
                  exact fun k hk => owns_ge hown' k hk
                have hth : Three (H + 1) W (w2.setCell ⟨H, 0, none⟩ (.slice (some ⟨g', 0, none⟩) ((Cf.ints ns).length + 1) cap')) := by
                  have hge : ∀ k, v.ownBlock = some k → H + 4 ≤ k := fun k hk => owns_ge h4 k hk
                  have hz1 := hb1.size
                  have key : ∀ j, H < j → j < H + 4 → (w2.setCell ⟨H, 0, none⟩ (.slice (some ⟨g', 0, none⟩) ((Cf.ints ns).length + 1) cap')).heap[j]? = W.heap[j]? := fun j h1 h2 =>
                    (Below.heap_setCell _ _ _ _ (by show j ≠ H; omega)).trans ((hgrow.block j (by simp; omega) (fun e => by have := hge j e.symm; omega)).trans ((Below.heap_alloc _ _ _ (by omega)).trans (hb1.block j (by omega))))
                  exact ⟨key _ (by omega) (by omega), key _ (by omega) (by omega), key _ (by omega) (by omega)⟩
                have hbe : Below H w (w2.setCell ⟨H, 0, none⟩ (.slice (some ⟨g', 0, none⟩) ((Cf.ints ns).length + 1) cap')) := (h5.trans (hb1.mono (Nat.le_trans (by omega) h6))).trans hb2
                have hle : H + 4 ≤ (w2.setCell ⟨H, 0, none⟩ (.slice (some ⟨g', 0, none⟩) ((Cf.ints ns).length + 1) cap')).heap.size := Nat.le_trans (Nat.le_trans h6 hb1.size) hb2.size
                refine hK _ _ ?_
                clear hK K
                refine wpAnyIn_ready (rs := [5]) (by kernel_rfl) (by simp) ?_
                refine AllReadyIn.cons rfl (fun K hK => ?_) ?_
                · go_simp; refine hK _ _ ?_; clear hK K
                  refine wpAnyIn_done (by kernel_rfl) ?_ _
                  exact ⟨(keepsFrom_below hb1).trans (hk2.from _), hth, _, _, hal, hln, hv2, hr2', hbe, hle⟩
                exact AllReadyIn.nil
              exact AllReadyIn.nil
            exact AllReadyIn.nil
          exact AllReadyIn.nil
        exact AllReadyIn.nil
      refine AllReadyIn.cons rfl (fun K hK => ?_) ?_
      · go_simp; refine hK _ _ ?_; clear hK K
        refine wpAnyIn_ready (rs := [0, 2]) (by kernel_rfl) (by simp) ?_
        refine AllReadyIn.cons rfl (fun K hK => ?_) ?_
        · go_simp; refine hK _ _ ?_; clear hK K
          refine wpAnyIn_ready (rs := [2]) (by kernel_rfl) (by simp) ?_
          refine AllReadyIn.cons rfl (fun K hK => ?_) ?_
          · go_simp
            refine ⟨⟨_, Tryz.func60⟩, (CallsIn.inRound l (HNO.out _ _)).mono ?_⟩
            rintro e w1 ⟨rfl, hb1⟩
            have hb1 : Below W.heap.size W w1 := ⟨hb1.os, hb1.tape, hb1.output, hb1.size, hb1.block⟩
            have hx1 : Boxed w1 H 47 v := RowIs.kept h3 hb1
            have hvc1 := hx1.cell
            have hvc2 := (hx1.alloc (.cells #[.int .i64 nx] 3)).cell
            refine hK _ _ ?_
            clear hK K
            refine wpAnyIn_ready (rs := [3]) (by kernel_rfl) (by simp) ?_
            refine AllReadyIn.cons rfl (fun K hK => ?_) ?_
            · go_simp; refine hK _ _ ?_; clear hK K
              refine wpAnyIn_ready (rs := [4]) (by kernel_rfl) (by simp) ?_
              refine AllReadyIn.cons rfl (fun K hK => ?_) ?_
              · refine stepIn_append_own rfl (.tmp 10) (.tmp 13) 47 rfl (H + 4) 3 ti tz 1 8 Tryz.underlying47 hi hz hz1 hz2 hz3 (by decide) v (Cf.ints ns).length _ rfl (World.ownsRow.alloc (h4.later hb1) _) ⟨w1.heap.size, 0, none⟩ 1 1 [.int .i64 nx] rfl rfl (cell_one_new _ _ _) (by simp [Value.oneCell']) hbd1 hbd2 (by have := hb1.size; simp; omega) ?_
                intro v' w2 hown' hgrow
                obtain ⟨g', cap', rfl⟩ := ownsRow_succ hown'
                obtain ⟨hv1, hv2, hr2, hk2, hb2⟩ := hx1.appended (n₀ := H) (by decide) (owns_base (h4.later hb1) (by omega)) (by have := hb1.size; omega) (Nat.le_refl _) (owns_base hown' (by omega)) hgrow
                have hc1 := hv1.cell
                have hf1 := hv1.frozen
                have hr2' : OutInts (w2.setCell ⟨H, 0, none⟩ (.slice (some ⟨g', 0, none⟩) ((Cf.ints ns).length + 1) cap')) (H + 4) (.slice (some ⟨g', 0, none⟩) ((Cf.ints ns).length + 1) cap') (Cf.ints (ns ++ [nx])) := by
                  refine owns_rebase (by simpa [Cf.ints] using hr2) ?_
                  have := hown'
                  exact fun k hk => owns_ge hown' k hk
                have hth : Three (H + 1) W (w2.setCell ⟨H, 0, none⟩ (.slice (some ⟨g', 0, none⟩) ((Cf.ints ns).length + 1) cap')) := by
                  have hge : ∀ k, v.ownBlock = some k → H + 4 ≤ k := fun k hk => owns_ge h4 k hk
                  have hz1 := hb1.size
                  have key : ∀ j, H < j → j < H + 4 → (w2.setCell ⟨H, 0, none⟩ (.slice (some ⟨g', 0, none⟩) ((Cf.ints ns).length + 1) cap')).heap[j]? = W.heap[j]? := fun j h1 h2 =>
                    (Below.heap_setCell _ _ _ _ (by show j ≠ H; omega)).trans ((hgrow.block j (by simp; omega) (fun e => by have := hge j e.symm; omega)).trans ((Below.heap_alloc _ _ _ (by omega)).trans (hb1.block j (by omega))))
                  exact ⟨key _ (by omega) (by omega), key _ (by omega) (by omega), key _ (by omega) (by omega)⟩
                have hbe : Below H w (w2.setCell ⟨H, 0, none⟩ (.slice (some ⟨g', 0, none⟩) ((Cf.ints ns).length + 1) cap')) := (h5.trans (hb1.mono (Nat.le_trans (by omega) h6))).trans hb2
                have hle : H + 4 ≤ (w2.setCell ⟨H, 0, none⟩ (.slice (some ⟨g', 0, none⟩) ((Cf.ints ns).length + 1) cap')).heap.size := Nat.le_trans (Nat.le_trans h6 hb1.size) hb2.size
                refine hK _ _ ?_
                clear hK K
                refine wpAnyIn_ready (rs := [5]) (by kernel_rfl) (by simp) ?_
                refine AllReadyIn.cons rfl (fun K hK => ?_) ?_
                · go_simp; refine hK _ _ ?_; clear hK K
                  refine wpAnyIn_done (by kernel_rfl) ?_ _
                  exact ⟨(keepsFrom_below hb1).trans (hk2.from _), hth, _, _, hal, hln, hv2, hr2', hbe, hle⟩
                exact AllReadyIn.nil
              exact AllReadyIn.nil
            exact AllReadyIn.nil
          exact AllReadyIn.nil
        refine AllReadyIn.cons rfl (fun K hK => ?_) ?_
        · go_simp
          refine ⟨⟨_, Tryz.func60⟩, (CallsIn.inRound l (HNO.out _ _)).mono ?_⟩
          rintro e w1 ⟨rfl, hb1⟩
          have hb1 : Below W.heap.size W w1 := ⟨hb1.os, hb1.tape, hb1.output, hb1.size, hb1.block⟩
          have hx1 : Boxed w1 H 47 v := RowIs.kept h3 hb1
          have hvc1 := hx1.cell
          have hvc2 := (hx1.alloc (.cells #[.int .i64 nx] 3)).cell
          refine hK _ _ ?_
          clear hK K
          refine wpAnyIn_ready (rs := [0, 3]) (by kernel_rfl) (by simp) ?_
          refine AllReadyIn.cons rfl (fun K hK => ?_) ?_
          · go_simp; refine hK _ _ ?_; clear hK K
            refine wpAnyIn_ready (rs := [3]) (by kernel_rfl) (by simp) ?_
            refine AllReadyIn.cons rfl (fun K hK => ?_) ?_
            · go_simp; refine hK _ _ ?_; clear hK K
              refine wpAnyIn_ready (rs := [4]) (by kernel_rfl) (by simp) ?_
              refine AllReadyIn.cons rfl (fun K hK => ?_) ?_
              · refine stepIn_append_own rfl (.tmp 10) (.tmp 13) 47 rfl (H + 4) 3 ti tz 1 8 Tryz.underlying47 hi hz hz1 hz2 hz3 (by decide) v (Cf.ints ns).length _ rfl (World.ownsRow.alloc (h4.later hb1) _) ⟨w1.heap.size, 0, none⟩ 1 1 [.int .i64 nx] rfl rfl (cell_one_new _ _ _) (by simp [Value.oneCell']) hbd1 hbd2 (by have := hb1.size; simp; omega) ?_
                intro v' w2 hown' hgrow
                obtain ⟨g', cap', rfl⟩ := ownsRow_succ hown'
                obtain ⟨hv1, hv2, hr2, hk2, hb2⟩ := hx1.appended (n₀ := H) (by decide) (owns_base (h4.later hb1) (by omega)) (by have := hb1.size; omega) (Nat.le_refl _) (owns_base hown' (by omega)) hgrow
                have hc1 := hv1.cell
                have hf1 := hv1.frozen
                have hr2' : OutInts (w2.setCell ⟨H, 0, none⟩ (.slice (some ⟨g', 0, none⟩) ((Cf.ints ns).length + 1) cap')) (H + 4) (.slice (some ⟨g', 0, none⟩) ((Cf.ints ns).length + 1) cap') (Cf.ints (ns ++ [nx])) := by
                  refine owns_rebase (by simpa [Cf.ints] using hr2) ?_
                  have := hown'
                  exact fun k hk => owns_ge hown' k hk
                have hth : Three (H + 1) W (w2.setCell ⟨H, 0, none⟩ (.slice (some ⟨g', 0, none⟩) ((Cf.ints ns).length + 1) cap')) := by
                  have hge : ∀ k, v.ownBlock = some k → H + 4 ≤ k := fun k hk => owns_ge h4 k hk
                  have hz1 := hb1.size
                  have key : ∀ j, H < j → j < H + 4 → (w2.setCell ⟨H, 0, none⟩ (.slice (some ⟨g', 0, none⟩) ((Cf.ints ns).length + 1) cap')).heap[j]? = W.heap[j]? := fun j h1 h2 =>
                    (Below.heap_setCell _ _ _ _ (by show j ≠ H; omega)).trans ((hgrow.block j (by simp; omega) (fun e => by have := hge j e.symm; omega)).trans ((Below.heap_alloc _ _ _ (by omega)).trans (hb1.block j (by omega))))
                  exact ⟨key _ (by omega) (by omega), key _ (by omega) (by omega), key _ (by omega) (by omega)⟩
                have hbe : Below H w (w2.setCell ⟨H, 0, none⟩ (.slice (some ⟨g', 0, none⟩) ((Cf.ints ns).length + 1) cap')) := (h5.trans (hb1.mono (Nat.le_trans (by omega) h6))).trans hb2
                have hle : H + 4 ≤ (w2.setCell ⟨H, 0, none⟩ (.slice (some ⟨g', 0, none⟩) ((Cf.ints ns).length + 1) cap')).heap.size := Nat.le_trans (Nat.le_trans h6 hb1.size) hb2.size
                refine hK _ _ ?_
                clear hK K
                refine wpAnyIn_ready (rs := [5]) (by kernel_rfl) (by simp) ?_
                refine AllReadyIn.cons rfl (fun K hK => ?_) ?_
                · go_simp; refine hK _ _ ?_; clear hK K
                  refine wpAnyIn_done (by kernel_rfl) ?_ _
                  exact ⟨(keepsFrom_below hb1).trans (hk2.from _), hth, _, _, hal, hln, hv2, hr2', hbe, hle⟩
                exact AllReadyIn.nil
              exact AllReadyIn.nil
            exact AllReadyIn.nil
          refine AllReadyIn.cons rfl (fun K hK => ?_) ?_
          · go_simp; refine hK _ _ ?_; clear hK K
            refine wpAnyIn_ready (rs := [0]) (by kernel_rfl) (by simp) ?_
            refine AllReadyIn.cons rfl (fun K hK => ?_) ?_
            · go_simp; refine hK _ _ ?_; clear hK K
              refine wpAnyIn_ready (rs := [4]) (by kernel_rfl) (by simp) ?_
              refine AllReadyIn.cons rfl (fun K hK => ?_) ?_
              · refine stepIn_append_own rfl (.tmp 10) (.tmp 13) 47 rfl (H + 4) 3 ti tz 1 8 Tryz.underlying47 hi hz hz1 hz2 hz3 (by decide) v (Cf.ints ns).length _ rfl (World.ownsRow.alloc (h4.later hb1) _) ⟨w1.heap.size, 0, none⟩ 1 1 [.int .i64 nx] rfl rfl (cell_one_new _ _ _) (by simp [Value.oneCell']) hbd1 hbd2 (by have := hb1.size; simp; omega) ?_
                intro v' w2 hown' hgrow
                obtain ⟨g', cap', rfl⟩ := ownsRow_succ hown'
                obtain ⟨hv1, hv2, hr2, hk2, hb2⟩ := hx1.appended (n₀ := H) (by decide) (owns_base (h4.later hb1) (by omega)) (by have := hb1.size; omega) (Nat.le_refl _) (owns_base hown' (by omega)) hgrow
                have hc1 := hv1.cell
                have hf1 := hv1.frozen
                have hr2' : OutInts (w2.setCell ⟨H, 0, none⟩ (.slice (some ⟨g', 0, none⟩) ((Cf.ints ns).length + 1) cap')) (H + 4) (.slice (some ⟨g', 0, none⟩) ((Cf.ints ns).length + 1) cap') (Cf.ints (ns ++ [nx])) := by
                  refine owns_rebase (by simpa [Cf.ints] using hr2) ?_
                  have := hown'
                  exact fun k hk => owns_ge hown' k hk
                have hth : Three (H + 1) W (w2.setCell ⟨H, 0, none⟩ (.slice (some ⟨g', 0, none⟩) ((Cf.ints ns).length + 1) cap')) := by
                  have hge : ∀ k, v.ownBlock = some k → H + 4 ≤ k := fun k hk => owns_ge h4 k hk
                  have hz1 := hb1.size
                  have key : ∀ j, H < j → j < H + 4 → (w2.setCell ⟨H, 0, none⟩ (.slice (some ⟨g', 0, none⟩) ((Cf.ints ns).length + 1) cap')).heap[j]? = W.heap[j]? := fun j h1 h2 =>
                    (Below.heap_setCell _ _ _ _ (by show j ≠ H; omega)).trans ((hgrow.block j (by simp; omega) (fun e => by have := hge j e.symm; omega)).trans ((Below.heap_alloc _ _ _ (by omega)).trans (hb1.block j (by omega))))
                  exact ⟨key _ (by omega) (by omega), key _ (by omega) (by omega), key _ (by omega) (by omega)⟩
                have hbe : Below H w (w2.setCell ⟨H, 0, none⟩ (.slice (some ⟨g', 0, none⟩) ((Cf.ints ns).length + 1) cap')) := (h5.trans (hb1.mono (Nat.le_trans (by omega) h6))).trans hb2
                have hle : H + 4 ≤ (w2.setCell ⟨H, 0, none⟩ (.slice (some ⟨g', 0, none⟩) ((Cf.ints ns).length + 1) cap')).heap.size := Nat.le_trans (Nat.le_trans h6 hb1.size) hb2.size
                refine hK _ _ ?_
                clear hK K
                refine wpAnyIn_ready (rs := [5]) (by kernel_rfl) (by simp) ?_
                refine AllReadyIn.cons rfl (fun K hK => ?_) ?_
                · go_simp; refine hK _ _ ?_; clear hK K
                  refine wpAnyIn_done (by kernel_rfl) ?_ _
                  exact ⟨(keepsFrom_below hb1).trans (hk2.from _), hth, _, _, hal, hln, hv2, hr2', hbe, hle⟩
                exact AllReadyIn.nil
              exact AllReadyIn.nil
            exact AllReadyIn.nil
          exact AllReadyIn.nil
        exact AllReadyIn.nil
      exact AllReadyIn.nil
  case done =>
    rintro D xs W hD rfl ⟨ns, v, h1, h2, h3, h4, h5, h6⟩ hK
    have hvc := h3.cell
    gi_wp2
    refine ⟨by simp, .inl ⟨_, _, rfl, run_takeDeferred hK, ?_⟩⟩
    refine ⟨_, results_tmp rfl _ _ _, Cf.tagsAns_yes (ns := ns) ?_ (owns_base (ownsRow_putObj h4 _ hK rfl) (by omega)), ?_⟩
    · rw [HT.out, ← Cf.pieces_list]
      exact h1
    · rw [hH]
      exact h5.trans (belowK_b (w := W0) (by omega) _ D _ _ (by omega) hK rfl rfl)
  case pan =>
    rintro D ch W hD ⟨rfl, hno, h5⟩ hK
    refine ⟨by simp, .inl ⟨_, _, rfl, run_takeDeferred hK, ?_⟩⟩
    refine ⟨Cf.tagsAns_no hno, ?_⟩
    rw [hH]
    exact h5.trans (belowK_b (w := W0) (by omega) _ D _ _ (by omega) hK rfl rfl)
theorem tags_any (s : ByteArray) (hsz : s.size ≤ 100000) (w : World) : Calls Tryz.prog 61 #[.string s] w fun e w' => Cf.TagsAns s w.heap.size e w' ∧ Below w.heap.size w w' := Kn.calls (tags_in s hsz w)
end Go.Proofs.YthfckdnennfnoaaGreatDoor
