/- Maps whose keys may be structs, as what they hold in some order: look up, store, delete, range. Of no function. By an AI agent. -/
import Derived.Test.YthfckdnennfnoaaGreatDoorRow
import Derived.MapKept
import Derived.Laws.IdiomRangeMap
import Derived.Maps.Keyed
import Derived.DeepKeys5
namespace Go.Proofs.YthfckdnennfnoaaGreatDoor
open Go.RowKit Go.MapKept Go.Maps Go.WideShapes

abbrev KV := Value × Value
def kv (e : MapEntry) : KV := (e.key, e.val)
/-- block b is a map that holds these, in some order -/
def MapP (P : Program) (k : TypeId) (w : World) (b : Nat) (l : List KV) : Prop := ∃ es clock, w.heap[b]? = some (.map es clock) ∧ Stamped es clock ∧ (es.toList.map kv).Perm l ∧ ∀ p ∈ l, ∃ x, keyOf P k p.1 = some x

section
variable {P : Program} {k : TypeId} {w w' : World} {b r : Nat} {l : List KV}
theorem MapP.lt (h : MapP P k w b l) : b < w.heap.size := by
  obtain ⟨es, clock, hb, _⟩ := h
  exact (Array.getElem?_eq_some_iff.1 hb).1
theorem MapP.same (h : MapP P k w b l) (hs : w'.heap[b]? = w.heap[b]?) : MapP P k w' b l := by
  obtain ⟨es, clock, hb, hl⟩ := h
  exact ⟨es, clock, hs.trans hb, hl⟩
theorem MapP.below {B : Nat} (h : MapP P k w b l) (hb : Below B w w') (hlt : b < B) : MapP P k w' b l := h.same (hb.block b hlt)
theorem MapP.kept (h : MapP P k w b l) (hb : Below w.heap.size w w') : MapP P k w' b l := h.below hb h.lt
theorem MapP.perm {l' : List KV} (h : MapP P k w b l) (hp : l.Perm l') : MapP P k w b l' := by
  obtain ⟨es, clock, hb, hs, hl, hk⟩ := h
  exact ⟨es, clock, hb, hs, hl.trans hp, fun p hp' => hk p (hp.mem_iff.2 hp')⟩
theorem mapP_new (w : World) : MapP P k (w.alloc (.map #[] 0)) w.heap.size [] := ⟨#[], 0, (MapKept.heap_alloc w _).1, stamped_empty 0, .nil, by simp⟩
theorem MapP.nodup (h : MapP P k w b l) : (l.map (·.1)).Nodup := by
  obtain ⟨es, clock, hb, hs, hl, hk⟩ := h
  have := (hl.map (·.1)).nodup_iff.1 (by rw [List.map_map]; exact hs.2.2)
  exact this

theorem kvs_of {es : Array MapEntry} (hl : (es.toList.map kv).Perm l) (hk : ∀ p ∈ l, ∃ x, keyOf P k p.1 = some x) : ∀ e ∈ es.toList, ∃ x, keyOf P k e.key = some x := fun e he =>
  hk (kv e) (hl.mem_iff.1 (List.mem_map.2 ⟨e, he, rfl⟩))

variable (K : Keyed P k)
include K

theorem run_lookup_hitP {t et : TypeId} {key v : Value} {x : Lit} (hm : P.underlying t = some (.map k et)) (hI : MapP P k w b l) (hk : keyOf P k key = some x) (h : (key, v) ∈ l) (ok : Bool) :
    (Instr.lookup t (.map (some b)) key ok).run P w = .ok (if ok then .tuple #[v, .bool true] else v) w := by
  have hn := hI.nodup
  obtain ⟨es, clock, hb, hs, hl, hks⟩ := hI
  rcases K.find w hk es.toList (kvs_of hl hks) with ⟨_, g2⟩ | ⟨j, e, g1, g2, g3⟩
  · obtain ⟨y, hy, hye⟩ := List.mem_map.1 (hl.mem_iff.2 h)
    exact absurd (congrArg Prod.fst hye) (g2 y hy)
  · have hv : e.val = v := by
      have h2 : kv e ∈ l := hl.mem_iff.1 (List.mem_map.2 ⟨e, List.mem_of_getElem? g2, rfl⟩)
      subst g3
      have hn' := hn
      clear hl hks g1 g2 hb hs hn
      induction l with
      | nil => cases h
      | cons a l ih =>
        rw [List.map_cons, List.nodup_cons] at hn'
        rcases List.mem_cons.1 h with e1 | h1 <;> rcases List.mem_cons.1 h2 with e2 | h2
        · have := e2.trans e1.symm
          exact congrArg Prod.snd this
        · exact absurd (List.mem_map.2 ⟨_, h2, rfl⟩) (by rw [← e1] at hn'; exact hn'.1)
        · exact absurd (List.mem_map.2 ⟨_, h1, rfl⟩) (by rw [← e2] at hn'; exact hn'.1)
        · exact ih h2 h1 hn'.2
    subst hv
    simp only [Instr.lookup, Sem.run_bind, run_underlying hm, MapKept.run_getObj_map hb, K.check w _ hk, g1, Result.andThen_ok, Sem.run_pure]

theorem run_lookup_missP {t et : TypeId} {key z : Value} {x : Lit} (hm : P.underlying t = some (.map k et)) (hI : MapP P k w b l) (hk : keyOf P k key = some x) (h : ∀ p ∈ l, p.1 ≠ key) (hz : (zeroValue et).run P w = .ok z w) (ok : Bool) :
    (Instr.lookup t (.map (some b)) key ok).run P w = .ok (if ok then .tuple #[z, .bool false] else z) w := by
  obtain ⟨es, clock, hb, hs, hl, hks⟩ := hI
  rcases K.find w hk es.toList (kvs_of hl hks) with ⟨g1, g2⟩ | ⟨j, e, g1, g2, g3⟩
  · simp only [Instr.lookup, Sem.run_bind, run_underlying hm, MapKept.run_getObj_map hb, K.check w _ hk, g1, Result.andThen_ok, Sem.run_pure, hz]
  · exact absurd g3 (h (kv e) (hl.mem_iff.1 (List.mem_map.2 ⟨e, List.mem_of_getElem? g2, rfl⟩)))

/-- m[k] = v for a new key -/
theorem run_update_newP {t et : TypeId} {key : Value} {x : Lit} (hm : P.underlying t = some (.map k et)) (hI : MapP P k w b l) (hk : keyOf P k key = some x) (h : ∀ p ∈ l, p.1 ≠ key) (v : Value) :
    ∃ w', (Instr.mapUpdate t (.map (some b)) key v).run P w = .ok () w' ∧ MapP P k w' b ((key, v) :: l) ∧ (∀ j, j ≠ b → w'.heap[j]? = w.heap[j]?) ∧ w'.heap.size = w.heap.size ∧ ∀ B, B ≤ b → Below B w w' := by
  obtain ⟨es, clock, hb, hs, hl, hks⟩ := hI
  rcases K.find w hk es.toList (kvs_of hl hks) with ⟨g1, g2⟩ | ⟨j, e, g1, g2, g3⟩
  · refine ⟨{ w with heap := w.heap.setIfInBounds b (.map (es.push { key := key, val := v, born := clock }) (clock + 1)) }, by simp only [Instr.mapUpdate, Sem.run_bind, run_underlying hm, MapKept.run_getObj_map hb, K.check w _ hk, g1, run_setObj_map _ hb, Result.andThen_ok], ⟨_, _, (heap_set hb).1, stamped_push hs g2, ?_, ?_⟩, fun j hj => (heap_set hb).2 j hj, by simp, fun B hB => ⟨rfl, rfl, rfl, by simp, fun j hj => (heap_set hb).2 j (by omega)⟩⟩
    · rw [Array.toList_push, List.map_append]
      exact (List.perm_append_comm).trans (List.Perm.cons _ hl)
    · intro p hp
      rcases List.mem_cons.1 hp with rfl | hp
      · exact ⟨x, hk⟩
      · exact hks p hp
  · exact absurd g3 (h (kv e) (hl.mem_iff.1 (List.mem_map.2 ⟨e, List.mem_of_getElem? g2, rfl⟩)))

omit K in
theorem perm_modify {es : Array MapEntry} {j : Nat} {e : MapEntry} (he : es.toList[j]? = some e) (f : MapEntry → MapEntry) :
    ∃ l1 l2, es.toList = l1 ++ e :: l2 ∧ (es.modify j f).toList = l1 ++ f e :: l2 := by
  have hj : j < es.toList.length := (List.getElem?_eq_some_iff.1 he).1
  refine ⟨es.toList.take j, es.toList.drop (j + 1), ?_, ?_⟩
  · have := (List.getElem?_eq_some_iff.1 he).2
    rw [← this, ← List.drop_eq_getElem_cons hj, List.take_append_drop]
  · rw [Array.toList_modify, List.modify_eq_take_cons_drop hj]
    have := (List.getElem?_eq_some_iff.1 he).2
    rw [this]

/-- m[k] = v for a key that is there -/
theorem run_update_oldP {t et : TypeId} {key v0 : Value} {x : Lit} (hm : P.underlying t = some (.map k et)) (hI : MapP P k w b ((key, v0) :: l)) (hk : keyOf P k key = some x) (v : Value) :
    ∃ w', (Instr.mapUpdate t (.map (some b)) key v).run P w = .ok () w' ∧ MapP P k w' b ((key, v) :: l) ∧ (∀ j, j ≠ b → w'.heap[j]? = w.heap[j]?) ∧ w'.heap.size = w.heap.size ∧ ∀ B, B ≤ b → Below B w w' := by
  have hn := hI.nodup
  obtain ⟨es, clock, hb, hs, hl, hks⟩ := hI
  rcases K.find w hk es.toList (kvs_of hl hks) with ⟨_, g2⟩ | ⟨j, e, g1, g2, g3⟩
  · obtain ⟨y, hy, hye⟩ := List.mem_map.1 (hl.mem_iff.2 (List.mem_cons_self))
    exact absurd (congrArg Prod.fst hye) (g2 y hy)
  · have hst := K.stays w hk
    have ej : ((es[j]?).map (·.key)).getD key = key := by
      rw [← Array.getElem?_toList, g2]
      exact g3
    have g2' : es[j]? = some e := by rw [← Array.getElem?_toList]; exact g2
    refine ⟨{ w with heap := w.heap.setIfInBounds b (.map (es.modify j fun e => { e with key := key, val := v }) clock) }, by simp only [Instr.mapUpdate, Sem.run_bind, run_underlying hm, MapKept.run_getObj_map hb, K.check w _ hk, g1, ej, hst, run_setObj_map _ hb, Result.andThen_ok], ?_, fun j hj => (heap_set hb).2 j hj, by simp, fun B hB => ⟨rfl, rfl, rfl, by simp, fun j hj => (heap_set hb).2 j (by omega)⟩⟩
    obtain ⟨l1, l2, h1, h2⟩ := perm_modify g2 (fun e => { e with key := key, val := v })
    have hkv : (kv e) = (key, v0) := by
      have hm : kv e ∈ (key, v0) :: l := hl.mem_iff.1 (List.mem_map.2 ⟨e, List.mem_of_getElem? g2, rfl⟩)
      rcases List.mem_cons.1 hm with h | h
      · exact h
      · rw [List.map_cons, List.nodup_cons] at hn
        exact absurd (List.mem_map.2 ⟨_, h, g3⟩) hn.1
    refine ⟨_, _, (heap_set hb).1, stamped_modify hs j _ (fun _ _ => rfl) (fun e' _ he' => ?_), ?_, ?_⟩
    · rw [g2'] at he'
      cases he'
      exact g3.symm
    · rw [h2]
      rw [h1, List.map_append, List.map_cons, hkv] at hl
      rw [List.map_append, List.map_cons]
      have e1 : ((key, v0) :: (l1.map kv ++ l2.map kv)).Perm ((key, v0) :: l) := (List.perm_middle.symm).trans hl
      exact List.perm_middle.trans (List.Perm.cons _ (List.Perm.cons_inv e1))
    · intro p hp
      rcases List.mem_cons.1 hp with rfl | hp
      · exact ⟨x, hk⟩
      · exact hks p (List.mem_cons_of_mem _ hp)

/-- delete(m, k) of a key that is there -/
theorem run_delete_hitP {t et ty : TypeId} {key v : Value} {x : Lit} (hm : P.underlying t = some (.map k et)) (hI : MapP P k w b ((key, v) :: l)) (hk : keyOf P k key = some x) :
    ∃ w', (Builtin.delete_ #[t, k] ty #[.map (some b), key]).run P w = .ok (.tuple #[]) w' ∧ MapP P k w' b l ∧ (∀ j, j ≠ b → w'.heap[j]? = w.heap[j]?) ∧ w'.heap.size = w.heap.size ∧ ∀ B, B ≤ b → Below B w w' := by
  have hn := hI.nodup
  obtain ⟨es, clock, hb, hs, hl, hks⟩ := hI
  rcases K.find w hk es.toList (kvs_of hl hks) with ⟨_, g2⟩ | ⟨j, e, g1, g2, g3⟩
  · obtain ⟨y, hy, hye⟩ := List.mem_map.1 (hl.mem_iff.2 (List.mem_cons_self))
    exact absurd (congrArg Prod.fst hye) (g2 y hy)
  · refine ⟨{ w with heap := w.heap.setIfInBounds b (.map (es.eraseIdxIfInBounds j) clock) }, by
      simp [Builtin.delete_, run_underlying hm, MapKept.run_getObj_map hb, K.check w _ hk, g1, run_setObj_map _ hb, Result.andThen], ?_, fun j hj => (heap_set hb).2 j hj, by simp, fun B hB => ⟨rfl, rfl, rfl, by simp, fun j hj => (heap_set hb).2 j (by omega)⟩⟩
    have hj : j < es.size := by
      have := (List.getElem?_eq_some_iff.1 g2).1
      simpa using this
    have hkv : (kv e) = (key, v) := by
      have hm : kv e ∈ (key, v) :: l := hl.mem_iff.1 (List.mem_map.2 ⟨e, List.mem_of_getElem? g2, rfl⟩)
      rcases List.mem_cons.1 hm with h | h
      · exact h
      · rw [List.map_cons, List.nodup_cons] at hn
        exact absurd (List.mem_map.2 ⟨_, h, g3⟩) hn.1
    refine ⟨_, _, (heap_set hb).1, stamped_erase hs j, ?_, fun p hp => hks p (List.mem_cons_of_mem _ hp)⟩
    unfold Array.eraseIdxIfInBounds
    rw [dif_pos hj, Array.toList_eraseIdx, ChangeMaps.map_eraseIdx]
    have h1 : (es.toList.map kv)[j]? = some (key, v) := by rw [List.getElem?_map, g2, ← hkv]; rfl
    have h2 : (es.toList.map kv).Perm ((key, v) :: (es.toList.map kv).eraseIdx j) := by
      have hlt : j < (es.toList.map kv).length := (List.getElem?_eq_some_iff.1 h1).1
      have e1 := (List.getElem?_eq_some_iff.1 h1).2
      rw [List.eraseIdx_eq_take_drop_succ]
      have e2 : es.toList.map kv = (es.toList.map kv).take j ++ (key, v) :: (es.toList.map kv).drop (j + 1) := by
        rw [← e1, ← List.drop_eq_getElem_cons hlt, List.take_append_drop]
      exact (List.Perm.of_eq e2).trans List.perm_middle
    exact List.Perm.cons_inv (h2.symm.trans hl)
end

/-! ### A range over a map that may be written on the way (no new key) -/
/-- iterator r goes over map b: it holds what was kept of those that came, and what is left -/
def IterAt (P : Program) (k : TypeId) (w : World) (r b : Nat) (kept left : List KV) : Prop := ∃ (es : Array MapEntry) (clock : Nat) (seen : Array Nat), w.heap[b]? = some (.map es clock) ∧ Stamped es clock ∧ w.heap[r]? = some (.mapIter (some b) clock seen clock) ∧
  ((es.toList.filter fun e => !seen.contains e.born).map kv).Perm left ∧ ((es.toList.filter fun e => seen.contains e.born).map kv).Perm kept ∧ (∀ e ∈ es.toList, ∃ x, keyOf P k e.key = some x)
/-- .. an entry has come, and is to be read -/
def EntryAt (P : Program) (k : TypeId) (w : World) (r b : Nat) (kept left : List KV) (p : KV) : Prop := ∃ (es : Array MapEntry) (clock : Nat) (seen : Array Nat) (e : MapEntry), w.heap[b]? = some (.map es clock) ∧ Stamped es clock ∧ w.heap[r]? = some (.mapIter (some b) clock (seen.push e.born) clock) ∧ e ∈ es.toList ∧ kv e = p ∧
  ((es.toList.filter fun e' => !(seen.push e.born).contains e'.born).map kv).Perm left ∧ ((es.toList.filter fun e' => (seen.push e.born).contains e'.born).map kv).Perm (p :: kept) ∧ (∀ e ∈ es.toList, ∃ x, keyOf P k e.key = some x)

section
variable {P : Program} {k : TypeId} {w w' : World} {b r : Nat} {kept left : List KV} {p : KV}
theorem EntryAt.iter (h : EntryAt P k w r b kept left p) : IterAt P k w r b (p :: kept) left := by
  obtain ⟨es, clock, seen, e, h1, h2, h3, h4, h5, h6, h7, h8⟩ := h
  exact ⟨es, clock, _, h1, h2, h3, h6, h7, h8⟩
theorem IterAt.same (h : IterAt P k w r b kept left) (h1 : w'.heap[b]? = w.heap[b]?) (h2 : w'.heap[r]? = w.heap[r]?) : IterAt P k w' r b kept left := by
  obtain ⟨es, clock, seen, g1, g2, g3, g4⟩ := h
  exact ⟨es, clock, seen, h1.trans g1, g2, h2.trans g3, g4⟩
theorem EntryAt.same (h : EntryAt P k w r b kept left p) (h1 : w'.heap[b]? = w.heap[b]?) (h2 : w'.heap[r]? = w.heap[r]?) : EntryAt P k w' r b kept left p := by
  obtain ⟨es, clock, seen, e, g1, g2, g3, g4⟩ := h
  exact ⟨es, clock, seen, e, h1.trans g1, g2, h2.trans g3, g4⟩
theorem IterAt.lts (h : IterAt P k w r b kept left) : b < w.heap.size ∧ r < w.heap.size ∧ b ≠ r := by
  obtain ⟨es, clock, seen, g1, g2, g3, g4⟩ := h
  refine ⟨(Array.getElem?_eq_some_iff.1 g1).1, (Array.getElem?_eq_some_iff.1 g3).1, fun e => ?_⟩
  subst e
  rw [g1] at g3
  cases g3
theorem EntryAt.lts (h : EntryAt P k w r b kept left p) : b < w.heap.size ∧ r < w.heap.size ∧ b ≠ r := h.iter.lts
theorem IterAt.later (h : IterAt P k w r b kept left) (hb : Below w.heap.size w w') : IterAt P k w' r b kept left := h.same (hb.block _ h.lts.1) (hb.block _ h.lts.2.1)
theorem EntryAt.later (h : EntryAt P k w r b kept left p) (hb : Below w.heap.size w w') : EntryAt P k w' r b kept left p := h.same (hb.block _ h.lts.1) (hb.block _ h.lts.2.1)
theorem IterAt.map (h : IterAt P k w r b kept left) : MapP P k w b (kept ++ left) := by
  obtain ⟨es, clock, seen, g1, g2, g3, g4, g5, g6⟩ := h
  have hp : (es.toList.map kv).Perm (kept ++ left) := by
    have e := (List.filter_append_perm (fun e : MapEntry => seen.contains e.born) es.toList).map kv
    rw [List.map_append] at e
    exact e.symm.trans (g5.append g4)
  refine ⟨es, clock, g1, g2, hp, fun q hq => ?_⟩
  obtain ⟨e, he, rfl⟩ := List.mem_map.1 (hp.mem_iff.2 hq)
  exact g6 e he
theorem IterAt.lperm {l : List KV} (h : IterAt P k w r b kept left) (hp : left.Perm l) : IterAt P k w r b kept l := by
  obtain ⟨es, clock, seen, g1, g2, g3, g4, g5⟩ := h
  exact ⟨es, clock, seen, g1, g2, g3, g4.trans hp, g5⟩

theorem IterAt.kperm {l : List KV} (h : IterAt P k w r b kept left) (hp : kept.Perm l) : IterAt P k w r b l left := by
  obtain ⟨es, clock, seen, g1, g2, g3, g4, g5, g6⟩ := h
  exact ⟨es, clock, seen, g1, g2, g3, g4, g5.trans hp, g6⟩

theorem run_range_mapP {t et : TypeId} {l : List KV} (hm : P.underlying t = some (.map k et)) (hI : MapP P k w b l) :
    ∃ o, (Instr.range t (.map (some b))).run P w = .ok (.pointer (some ⟨w.heap.size, 0, none⟩)) (w.alloc o) ∧ IterAt P k (w.alloc o) w.heap.size b [] l := by
  have hlt := hI.lt
  obtain ⟨es, clock, hb, hs, hl, hks⟩ := hI
  refine ⟨.mapIter (some b) clock #[] clock, by simp [Instr.range, run_underlying hm, MapKept.run_getObj_map hb], es, clock, #[], ((MapKept.heap_alloc w _).2 b hlt).trans hb, hs, (MapKept.heap_alloc w _).1, ?_, ?_, fun e he => hks (kv e) (hl.mem_iff.1 (List.mem_map.2 ⟨e, he, rfl⟩))⟩
  · rw [List.filter_eq_self.2 (by simp)]
    exact hl
  · rw [List.filter_eq_nil_iff.2 (by simp)]
    exact .nil

theorem run_nextP (h : IterAt P k w r b kept left) :
    (left = [] ∧ ∀ ty, (Instr.next (.pointer (some ⟨r, 0, none⟩)) false ty).run P w = .ok (.tuple #[.bool false]) w) ∨
    ∃ p left' w', left.Perm (p :: left') ∧ (∀ ty, (Instr.next (.pointer (some ⟨r, 0, none⟩)) false ty).run P w = .ok (.tuple #[.bool true, p.1, p.2]) w') ∧ EntryAt P k w' r b kept left' p ∧ (∀ j, j ≠ r → w'.heap[j]? = w.heap[j]?) ∧ w'.heap.size = w.heap.size ∧ (∀ B, B ≤ r → Below B w w') := by
  have hbr := h.lts
  obtain ⟨es, clock, seen, g1, g2, g3, g4, g5, g6⟩ := h
  have hne : (!seen.isEmpty && !es.isEmpty && es.all (fun x => decide (x.born ≥ clock))) = false := next_test_false seen es clock clock g2.1 (Nat.le_refl _)
  have go1 : (getObj r).run P w = .ok (.mapIter (some b) clock seen clock) w := by simp [getObj, Sem.run, g3]
  have hL : (es.filter fun e => !seen.contains e.born).toList = es.toList.filter fun e => !seen.contains e.born := by simp
  have hmem : ∀ x ∈ (es.filter fun e => !seen.contains e.born), x ∈ es.toList ∧ x.born < clock ∧ seen.contains x.born = false := fun x hx => by
    simp at hx
    exact ⟨by simpa using hx.1, g2.1 x (by simpa using hx.1), by simpa using hx.2⟩
  have hrun : ∀ ty, (Instr.next (.pointer (some ⟨r, 0, none⟩)) false ty).run P w = (do
      let left := es.filter fun e => !seen.contains e.born
      let old := left.filter (·.born < clock)
      let new := left.filter (·.born ≥ clock)
      let candidates := (if old.isEmpty then #[none] else #[]) ++ (old ++ new).map some
      match candidates[← choose (.mapNext candidates.size)]? with
      | some (some e) =>
        setObj r (.mapIter (some b) clock (seen.push e.born) clock)
        pure (Value.tuple #[.bool true, e.key, e.val])
      | some none => pure (.tuple #[.bool false])
      | none => stuck "Next: no such candidate" : Sem Value).run P w := by
    intro ty
    simp only [Instr.next, Sem.run_bind, go1, MapKept.run_getObj_map g1, Result.andThen_ok, hne, Bool.false_eq_true, if_false]
    rfl
  rw [← hL] at g4
  simp only [hrun]
  clear hrun
  generalize hLL : es.filter (fun e => !seen.contains e.born) = L at *
  have e1 : L.filter (fun x => decide (x.born < clock)) = L := Array.filter_eq_self.2 (fun x hx => by simpa using (hmem x hx).2.1)
  have e2 : L.filter (fun x => decide (x.born ≥ clock)) = #[] := by
    rw [Array.filter_eq_empty_iff]
    intro x hx
    have := (hmem x hx).2.1
    simp
    omega
  simp only [e1, e2, Array.append_empty]
  by_cases h0 : L.size = 0
  · left
    have : L = #[] := Array.eq_empty_of_size_eq_zero h0
    subst this
    refine ⟨by simpa using g4, fun _ => ?_⟩
    simp [choose, Sem.run, Question.forced]
  · right
    have hne' : L.isEmpty = false := by simp [Array.isEmpty, h0]
    simp only [hne', Bool.false_eq_true, if_false, Array.empty_append, Array.size_map]
    have hch : ∃ (j : Nat) (w1 : World), j < L.size ∧ w1.heap = w.heap ∧ Below w.heap.size w w1 ∧ (choose (Question.mapNext L.size)).run P w = .ok j w1 := by
      by_cases hf : L.size ≤ 1
      · exact ⟨0, w, by omega, rfl, Below.refl _ _, by simp [choose, Sem.run, Question.forced, hf]⟩
      · exact ⟨_, w.drew, Nat.mod_lt _ (by omega), rfl, (Below.refl _ _).drew, by
          simp only [choose, Sem.run, Question.forced, decide_eq_true_eq, hf, if_false, Question.cut]
          rfl⟩
    obtain ⟨j, w1, hj, hal, hbw, hrunc⟩ := hch
    have hLj : L[j] ∈ es.toList ∧ (L[j]).born < clock ∧ seen.contains (L[j]).born = false := hmem _ (Array.getElem_mem hj)
    have hr1 : w1.heap[r]? = some (.mapIter (some b) clock seen clock) := by rw [hal]; exact g3
    have hset : (setObj r (.mapIter (some b) clock (seen.push (L[j]).born) clock)).run P w1 = .ok () { w1 with heap := w1.heap.setIfInBounds r (.mapIter (some b) clock (seen.push (L[j]).born) clock) } := by simp [setObj, Sem.run, hr1]
    have hperm : L.toList.Perm (L[j] :: L.toList.eraseIdx j) := by
      have hlt : j < L.toList.length := by simpa using hj
      have e3 : L.toList = L.toList.take j ++ L[j] :: L.toList.drop (j + 1) := by
        rw [show L[j] = L.toList[j] by simp, ← List.drop_eq_getElem_cons hlt, List.take_append_drop]
      rw [List.eraseIdx_eq_take_drop_succ]
      exact (List.Perm.of_eq e3).trans List.perm_middle
    refine ⟨kv L[j], (L.toList.eraseIdx j).map kv, { w1 with heap := w1.heap.setIfInBounds r (.mapIter (some b) clock (seen.push (L[j]).born) clock) }, g4.symm.trans (hperm.map kv), ?_, ?_, ?_, by simp [hal], ?_⟩
    · intro _
      simp only [Sem.run_bind, hrunc, Result.andThen_ok, Array.getElem?_map, Array.getElem?_eq_getElem hj, Option.map_some, hset, Sem.run_pure]
      rfl
    · refine ⟨es, clock, seen, L[j], ?_, g2, (heap_set hr1).1, hLj.1, rfl, ?_, ?_, g6⟩
      · rw [(heap_set hr1).2 b hbr.2.2, hal, g1]
      · -- what is left
        have e4 : ∀ x0 : MapEntry, (es.toList.filter fun e' => !(seen.push x0.born).contains e'.born) = L.toList.filter fun e' => !(e'.born == x0.born) := by
          intro x0
          rw [← hLL, Array.toList_filter, List.filter_filter]
          refine List.filter_congr fun x _ => ?_
          rw [Bool.eq_iff_iff]
          simp
          exact And.comm
        rw [e4]
        have hnb : (L.toList.map (·.born)).Nodup := by
          rw [← hLL, Array.toList_filter]
          exact (List.filter_sublist.map _).nodup g2.2.1
        have e5 := (hperm.map (·.born)).nodup_iff.1 hnb
        rw [List.map_cons, List.nodup_cons] at e5
        have e6 := hperm.filter (fun e' => !(e'.born == (L[j]).born))
        rw [List.filter_cons_of_neg (by simp)] at e6
        refine (e6.map kv).trans (List.Perm.of_eq ?_)
        rw [List.filter_eq_self.2]
        intro x hx
        simp
        intro e
        exact e5.1 (List.mem_map.2 ⟨x, hx, e⟩)
      · -- what was kept, and this one
        have e4 : (es.toList.filter fun e' => (seen.push (L[j]).born).contains e'.born).Perm (L[j] :: es.toList.filter fun e' => seen.contains e'.born) := by
          have hd : es.toList.Perm (L[j] :: es.toList.filter fun e' => !(e'.born == (L[j]).born)) := by
            obtain ⟨l1, l2, e⟩ := List.append_of_mem hLj.1
            have hnd := g2.2.1
            rw [e, List.map_append, List.map_cons] at hnd
            have hnd := (List.perm_middle).nodup_iff.1 hnd
            rw [List.nodup_cons, List.mem_append] at hnd
            rw [e]
            refine List.perm_middle.trans (List.Perm.cons _ (List.Perm.of_eq ?_))
            rw [List.filter_append, List.filter_cons_of_neg (by simp), List.filter_eq_self.2, List.filter_eq_self.2]
            · intro x hx
              simp
              intro e'
              exact hnd.1 (Or.inr (List.mem_map.2 ⟨x, hx, e'⟩))
            · intro x hx
              simp
              intro e'
              exact hnd.1 (Or.inl (List.mem_map.2 ⟨x, hx, e'⟩))
          have h1 := hd.filter (fun e' => (seen.push (L[j]).born).contains e'.born)
          rw [List.filter_cons_of_pos (by simp)] at h1
          refine h1.trans (List.Perm.cons _ (List.Perm.of_eq ?_))
          rw [List.filter_filter]
          refine List.filter_congr fun x hx => ?_
          rw [Bool.eq_iff_iff]
          simp
          constructor
          · rintro ⟨h | h, h'⟩
            · exact h
            · exact absurd h h'
          · intro h
            refine ⟨Or.inl h, fun e => ?_⟩
            have h7 := hLj.2.2
            rw [← e] at h7
            simp at h7
            exact h7 h
        exact (e4.map kv).trans (List.Perm.cons _ g5)
    · intro i hi
      rw [(heap_set hr1).2 i hi, hal]
    · intro B hB
      refine ⟨hbw.os, hbw.tape, hbw.output, by simp [hal], fun i hi => ?_⟩
      rw [(heap_set hr1).2 i (by omega), hal]

theorem run_entryP (h : EntryAt P k w r b kept left p) : (Instr.entry (.pointer (some ⟨r, 0, none⟩))).run P w = .ok (.tuple #[p.1, p.2]) w := by
  obtain ⟨es, clock, seen, e, g1, g2, g3, g4, rfl, _⟩ := h
  have go1 : (getObj r).run P w = .ok (.mapIter (some b) clock (seen.push e.born) clock) w := by simp [getObj, Sem.run, g3]
  have hf : es.find? (·.born == e.born) = some e := by rw [← Array.find?_toList]; exact find_born e es.toList g2.2.1 g4
  simp only [Instr.entry, Sem.run_bind, go1, MapKept.run_getObj_map g1, Result.andThen_ok, Array.back?_push, bne_self_eq_false, Bool.false_eq_true, if_false, hf]
  rfl
end

section
variable {P : Program} {k : TypeId} {w w' : World} {b r : Nat} {kept left : List KV} (K : Keyed P k)

theorem split_erase {es : Array MapEntry} {j : Nat} {e : MapEntry} (he : es.toList[j]? = some e) :
    ∃ l1 l2, es.toList = l1 ++ e :: l2 ∧ (es.eraseIdxIfInBounds j).toList = l1 ++ l2 := by
  have hj : j < es.toList.length := (List.getElem?_eq_some_iff.1 he).1
  have hjs : j < es.size := by simpa using hj
  refine ⟨es.toList.take j, es.toList.drop (j + 1), ?_, ?_⟩
  · have := (List.getElem?_eq_some_iff.1 he).2
    rw [← this, ← List.drop_eq_getElem_cons hj, List.take_append_drop]
  · unfold Array.eraseIdxIfInBounds
    rw [dif_pos hjs, Array.toList_eraseIdx, List.eraseIdx_eq_take_drop_succ]

theorem key_nodup {l : List MapEntry} (h : (l.map (·.key)).Nodup) {a c : MapEntry} (ha : a ∈ l) (hc : c ∈ l) (e : a.key = c.key) : a = c := by
  induction l with
  | nil => cases ha
  | cons y l ih =>
    rw [List.map_cons, List.nodup_cons] at h
    rcases List.mem_cons.1 ha with e1 | ha'
    · rcases List.mem_cons.1 hc with e2 | hc'
      · rw [e1, e2]
      · rw [e1] at e
        exact absurd (List.mem_map.2 ⟨c, hc', e.symm⟩) h.1
    · rcases List.mem_cons.1 hc with e2 | hc'
      · rw [e2] at e
        exact absurd (List.mem_map.2 ⟨a, ha', e⟩) h.1
      · exact ih h.2 ha' hc'

/-- the entry of a key that was kept -/
theorem IterAt.found {key v : Value} (es : Array MapEntry) (seen : Array Nat) (hn : (es.toList.map (·.key)).Nodup) (hp : ((es.toList.filter fun e => seen.contains e.born).map kv).Perm ((key, v) :: kept)) {e : MapEntry} (he : e ∈ es.toList) (hk : e.key = key) : kv e = (key, v) ∧ seen.contains e.born = true := by
  have h1 : (key, v) ∈ (es.toList.filter fun e => seen.contains e.born).map kv := hp.mem_iff.2 (by simp)
  obtain ⟨e', he', hkv⟩ := List.mem_map.1 h1
  rw [List.mem_filter] at he'
  have hkk : e'.key = key := congrArg Prod.fst hkv
  have : e = e' := key_nodup hn he he'.1 (hk.trans hkk.symm)
  subst this
  exact ⟨hkv, he'.2⟩

include K
theorem run_delete_hitI {t et ty : TypeId} {key v : Value} {x : Lit} (hm : P.underlying t = some (.map k et)) (hI : IterAt P k w r b ((key, v) :: kept) left) (hk : keyOf P k key = some x) :
    ∃ w', (Builtin.delete_ #[t, k] ty #[.map (some b), key]).run P w = .ok (.tuple #[]) w' ∧ IterAt P k w' r b kept left ∧ (∀ j, j ≠ b → w'.heap[j]? = w.heap[j]?) ∧ w'.heap.size = w.heap.size ∧ ∀ B, B ≤ b → Below B w w' := by
  have hbr := hI.lts
  obtain ⟨es, clock, seen, hb, hs, hr, hl, hp, hks⟩ := hI
  rcases K.find w hk es.toList hks with ⟨_, g2⟩ | ⟨j, e, g1, g2, g3⟩
  · obtain ⟨y, hy, hye⟩ := List.mem_map.1 (hp.mem_iff.2 (List.mem_cons_self))
    exact absurd (congrArg Prod.fst hye) (g2 y (List.mem_filter.1 hy).1)
  · obtain ⟨hkv, hse⟩ := IterAt.found es seen hs.2.2 hp (List.mem_of_getElem? g2) g3
    obtain ⟨l1, l2, e1, e2⟩ := split_erase g2
    refine ⟨{ w with heap := w.heap.setIfInBounds b (.map (es.eraseIdxIfInBounds j) clock) }, by
      simp [Builtin.delete_, run_underlying hm, MapKept.run_getObj_map hb, K.check w _ hk, g1, run_setObj_map _ hb, Result.andThen], ⟨_, _, seen, (heap_set hb).1, stamped_erase hs j, ((heap_set hb).2 r (Ne.symm hbr.2.2)).trans hr, ?_, ?_, ?_⟩, fun j hj => (heap_set hb).2 j hj, by simp, fun B hB => ⟨rfl, rfl, rfl, by simp, fun j hj => (heap_set hb).2 j (by omega)⟩⟩
    · rw [e2]
      rw [e1, List.filter_append, List.filter_cons_of_neg (by rw [hse]; decide), ← List.filter_append] at hl
      exact hl
    · rw [e2]
      rw [e1, List.filter_append, List.filter_cons_of_pos (p := fun e : MapEntry => seen.contains e.born) hse, List.map_append, List.map_cons, hkv] at hp
      rw [List.filter_append, List.map_append]
      exact List.Perm.cons_inv (List.perm_middle.symm.trans hp)
    · intro y hy
      refine hks y ?_
      rw [e2] at hy
      rw [e1]
      rcases List.mem_append.1 hy with h | h
      · exact List.mem_append_left _ h
      · exact List.mem_append_right _ (List.mem_cons_of_mem _ h)

theorem run_update_oldI {t et : TypeId} {key v0 : Value} {x : Lit} (hm : P.underlying t = some (.map k et)) (hI : IterAt P k w r b ((key, v0) :: kept) left) (hk : keyOf P k key = some x) (v : Value) :
    ∃ w', (Instr.mapUpdate t (.map (some b)) key v).run P w = .ok () w' ∧ IterAt P k w' r b ((key, v) :: kept) left ∧ (∀ j, j ≠ b → w'.heap[j]? = w.heap[j]?) ∧ w'.heap.size = w.heap.size ∧ ∀ B, B ≤ b → Below B w w' := by
  have hbr := hI.lts
  obtain ⟨es, clock, seen, hb, hs, hr, hl, hp, hks⟩ := hI
  rcases K.find w hk es.toList hks with ⟨_, g2⟩ | ⟨j, e, g1, g2, g3⟩
  · obtain ⟨y, hy, hye⟩ := List.mem_map.1 (hp.mem_iff.2 (List.mem_cons_self))
    exact absurd (congrArg Prod.fst hye) (g2 y (List.mem_filter.1 hy).1)
  · obtain ⟨hkv, hse⟩ := IterAt.found es seen hs.2.2 hp (List.mem_of_getElem? g2) g3
    obtain ⟨l1, l2, e1, e2⟩ := perm_modify g2 (fun e => { e with key := key, val := v })
    have hst := K.stays w hk
    have ej : ((es[j]?).map (·.key)).getD key = key := by
      rw [← Array.getElem?_toList, g2]
      exact g3
    have g2' : es[j]? = some e := by rw [← Array.getElem?_toList]; exact g2
    refine ⟨{ w with heap := w.heap.setIfInBounds b (.map (es.modify j fun e => { e with key := key, val := v }) clock) }, by simp only [Instr.mapUpdate, Sem.run_bind, run_underlying hm, MapKept.run_getObj_map hb, K.check w _ hk, g1, ej, hst, run_setObj_map _ hb, Result.andThen_ok], ⟨_, _, seen, (heap_set hb).1, stamped_modify hs j _ (fun _ _ => rfl) (fun e' _ he' => ?_), ((heap_set hb).2 r (Ne.symm hbr.2.2)).trans hr, ?_, ?_, ?_⟩, fun j hj => (heap_set hb).2 j hj, by simp, fun B hB => ⟨rfl, rfl, rfl, by simp, fun j hj => (heap_set hb).2 j (by omega)⟩⟩
    · rw [g2'] at he'
      cases he'
      exact g3.symm
    · rw [e2, List.filter_append, List.filter_cons_of_neg (by show ¬ (!seen.contains e.born) = true; rw [hse]; decide), ← List.filter_append]
      rw [e1, List.filter_append, List.filter_cons_of_neg (by rw [hse]; decide), ← List.filter_append] at hl
      exact hl
    · rw [e1, List.filter_append, List.filter_cons_of_pos (p := fun e : MapEntry => seen.contains e.born) hse, List.map_append, List.map_cons, hkv] at hp
      rw [e2, List.filter_append, List.filter_cons_of_pos (p := fun e : MapEntry => seen.contains e.born) (a := ⟨key, v, e.born⟩) hse, List.map_append, List.map_cons]
      exact List.perm_middle.trans (List.Perm.cons _ (List.Perm.cons_inv (List.perm_middle.symm.trans hp)))
    · intro y hy
      rw [e2] at hy
      rcases List.mem_append.1 hy with h | h
      · exact hks y (by rw [e1]; exact List.mem_append_left _ h)
      · rcases List.mem_cons.1 h with rfl | h
        · exact ⟨x, hk⟩
        · exact hks y (by rw [e1]; exact List.mem_append_right _ (List.mem_cons_of_mem _ h))
end
end Go.Proofs.YthfckdnennfnoaaGreatDoor
