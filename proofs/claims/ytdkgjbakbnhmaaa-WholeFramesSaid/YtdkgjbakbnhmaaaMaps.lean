/- Maps of one's own, as lists of keys and values: look up, store, delete. By an AI agent. -/
import Derived.Test.YtdkgjbakbnhmaaaCell
import Derived.MapKept
import Derived.ChangeMaps4
namespace Go.Proofs.Ytdkgjbakbnhmaaa
open Go.RowKit Go.Sort Grow Go.MapKept

/-- block b is a map that holds these, in this order -/
def MapIs (w : World) (b : Nat) (l : List (Value × Value)) : Prop := ∃ es clock, w.heap[b]? = some (.map es clock) ∧ es.toList.map (fun e => (e.key, e.val)) = l

theorem MapIs.lt {w : World} {b : Nat} {l : List (Value × Value)} (h : MapIs w b l) : b < w.heap.size := by
  obtain ⟨es, clock, hb, _⟩ := h
  exact (Array.getElem?_eq_some_iff.1 hb).1
theorem MapIs.same {w w' : World} {b : Nat} {l : List (Value × Value)} (h : MapIs w b l) (hs : w'.heap[b]? = w.heap[b]?) : MapIs w' b l := by
  obtain ⟨es, clock, hb, hl⟩ := h
  exact ⟨es, clock, hs.trans hb, hl⟩
theorem MapIs.below {w w' : World} {b B : Nat} {l : List (Value × Value)} (h : MapIs w b l) (hb : Below B w w') (hlt : b < B) : MapIs w' b l := h.same (hb.block b hlt)
theorem MapIs.kept {w w' : World} {b : Nat} {l : List (Value × Value)} (h : MapIs w b l) (hb : Below w.heap.size w w') : MapIs w' b l := h.below hb h.lt
theorem mapIs_new (w : World) : MapIs (w.alloc (.map #[] 0)) w.heap.size [] := ⟨#[], 0, (MapKept.heap_alloc w _).1, rfl⟩

section
variable {P : Program} {w : World} {b : Nat} {l : List (Value × Value)} {t kt et : TypeId} {d : TypeDesc} {k v : Value}

theorem run_lookup_hit (hm : P.underlying t = some (.map kt et)) (hd : P.underlying kt = some d) (hI : MapIs w b l) (hk : IsKey d k) (hks : ∀ p ∈ l, IsKey d p.1) (h1 : ∃ p ∈ l, p.1 = k) (h2 : ∀ p ∈ l, p.1 = k → p.2 = v) (ok : Bool) :
    (Instr.lookup t (.map (some b)) k ok).run P w = .ok (if ok then .tuple #[v, .bool true] else v) w := by
  obtain ⟨es, clock, hb, rfl⟩ := hI
  have hks' : ∀ x ∈ es.toList, IsKey d x.key := fun x hx => hks _ (List.mem_map.2 ⟨x, hx, rfl⟩)
  rcases findNow_spec hk es.toList 0 hks' with ⟨_, g2⟩ | ⟨j, e, g1, g2, g3⟩
  · obtain ⟨p, hp, hpk⟩ := h1
    obtain ⟨x, hx, rfl⟩ := List.mem_map.1 hp
    exact absurd hpk (g2 x hx)
  · have hv := h2 _ (List.mem_map.2 ⟨e, List.mem_of_getElem? g2, rfl⟩) g3
    have hv : e.val = v := hv
    simp only [Instr.lookup, Sem.run_bind, run_underlying hm, MapKept.run_getObj_map hb, run_checkKey hd hk, run_findKey hd g1, Result.andThen_ok, Sem.run_pure, hv]

theorem run_lookup_miss (hm : P.underlying t = some (.map kt et)) (hd : P.underlying kt = some d) (hI : MapIs w b l) (hk : IsKey d k) (hks : ∀ p ∈ l, IsKey d p.1) (h : ∀ p ∈ l, p.1 ≠ k) (z : Value) (hz : (zeroValue et).run P w = .ok z w) (ok : Bool) :
    (Instr.lookup t (.map (some b)) k ok).run P w = .ok (if ok then .tuple #[z, .bool false] else z) w := by
  obtain ⟨es, clock, hb, rfl⟩ := hI
  have hks' : ∀ x ∈ es.toList, IsKey d x.key := fun x hx => hks _ (List.mem_map.2 ⟨x, hx, rfl⟩)
  rcases findNow_spec hk es.toList 0 hks' with ⟨g1, _⟩ | ⟨j, e, _, g2, g3⟩
  · simp only [Instr.lookup, Sem.run_bind, run_underlying hm, MapKept.run_getObj_map hb, run_checkKey hd hk, run_findKey hd g1, Result.andThen_ok, Sem.run_pure, hz]
  · exact absurd g3 (h _ (List.mem_map.2 ⟨e, List.mem_of_getElem? g2, rfl⟩))

theorem run_len_map (hm : P.underlying t = some (.map kt et)) (hI : MapIs w b l) (ty : TypeId) : (Builtin.len_ #[t] ty #[.map (some b)]).run P w = .ok (.int .i64 (l.length : Int)) w := by
  obtain ⟨es, clock, hb, rfl⟩ := hI
  simp [Builtin.len_, run_underlying hm, MapKept.run_getObj_map hb, goInt]

/-- m[k] = v for a new key -/
theorem run_update_new (hm : P.underlying t = some (.map kt et)) (hd : P.underlying kt = some d) (hI : MapIs w b l) (hk : IsKey d k) (hks : ∀ p ∈ l, IsKey d p.1) (h : ∀ p ∈ l, p.1 ≠ k) (v : Value) :
    ∃ w', (Instr.mapUpdate t (.map (some b)) k v).run P w = .ok () w' ∧ MapIs w' b (l ++ [(k, v)]) ∧ (∀ j, j ≠ b → w'.heap[j]? = w.heap[j]?) ∧ w'.heap.size = w.heap.size ∧ ∀ B, B ≤ b → Below B w w' := by
  obtain ⟨es, clock, hb, rfl⟩ := hI
  have hks' : ∀ x ∈ es.toList, IsKey d x.key := fun x hx => hks _ (List.mem_map.2 ⟨x, hx, rfl⟩)
  rcases findNow_spec hk es.toList 0 hks' with ⟨g1, _⟩ | ⟨j, e, _, g2, g3⟩
  · refine ⟨{ w with heap := w.heap.setIfInBounds b (.map (es.push { key := k, val := v, born := clock }) (clock + 1)) }, by simp only [Instr.mapUpdate, Sem.run_bind, run_underlying hm, MapKept.run_getObj_map hb, run_checkKey hd hk, run_findKey hd g1, run_setObj_map _ hb, Result.andThen_ok], ⟨_, _, (heap_set hb).1, by simp⟩, fun j hj => (heap_set hb).2 j hj, by simp, fun B hB => ⟨rfl, rfl, rfl, by simp, fun j hj => (heap_set hb).2 j (by omega)⟩⟩
  · exact absurd g3 (h _ (List.mem_map.2 ⟨e, List.mem_of_getElem? g2, rfl⟩))

/-- delete(m, k) of a key that is there once -/
theorem run_delete_hit {ty : TypeId} {l1 l2 : List (Value × Value)} (hm : P.underlying t = some (.map kt et)) (hd : P.underlying kt = some d) (hI : MapIs w b (l1 ++ (k, v) :: l2)) (hk : IsKey d k) (hks : ∀ p ∈ l1 ++ (k, v) :: l2, IsKey d p.1) (h1 : ∀ p ∈ l1, p.1 ≠ k) (h2 : ∀ p ∈ l2, p.1 ≠ k) :
    ∃ w', (Builtin.delete_ #[t, kt] ty #[.map (some b), k]).run P w = .ok (.tuple #[]) w' ∧ MapIs w' b (l1 ++ l2) ∧ (∀ j, j ≠ b → w'.heap[j]? = w.heap[j]?) ∧ w'.heap.size = w.heap.size ∧ ∀ B, B ≤ b → Below B w w' := by
  obtain ⟨es, clock, hb, hl⟩ := hI
  have hks' : ∀ x ∈ es.toList, IsKey d x.key := fun x hx => hks _ (by rw [← hl]; exact List.mem_map.2 ⟨x, hx, rfl⟩)
  rcases findNow_spec hk es.toList 0 hks' with ⟨_, g2⟩ | ⟨j, e, g1, g2, g3⟩
  · have : (k, v) ∈ es.toList.map (fun e => (e.key, e.val)) := by rw [hl]; simp
    obtain ⟨x, hx, he⟩ := List.mem_map.1 this
    exact absurd (congrArg Prod.fst he) (g2 x hx)
  · have hj : j = l1.length := by
      have hg : (es.toList.map (fun e => (e.key, e.val)))[j]? = some (e.key, e.val) := by rw [List.getElem?_map, g2]; rfl
      rw [hl] at hg
      rcases Nat.lt_trichotomy j l1.length with h | h | h
      · rw [List.getElem?_append_left h] at hg
        exact absurd g3 (h1 _ (List.mem_of_getElem? hg))
      · exact h
      · rw [List.getElem?_append_right (by omega)] at hg
        obtain ⟨q, hq⟩ : ∃ q, j - l1.length = q + 1 := ⟨j - l1.length - 1, by omega⟩
        rw [hq, List.getElem?_cons_succ] at hg
        exact absurd g3 (h2 _ (List.mem_of_getElem? hg))
    have hjs : j < es.size := by
      have := (List.getElem?_eq_some_iff.1 g2).1
      simpa using this
    have hres : (es.eraseIdxIfInBounds j).toList.map (fun e => (e.key, e.val)) = l1 ++ l2 := by
      unfold Array.eraseIdxIfInBounds
      rw [dif_pos hjs, Array.toList_eraseIdx, ChangeMaps.map_eraseIdx, hl, hj]
      rw [List.eraseIdx_append_of_length_le (Nat.le_refl _)]
      simp
    refine ⟨{ w with heap := w.heap.setIfInBounds b (.map (es.eraseIdxIfInBounds j) clock) }, by
      have g1' : Instr.findNow d k es.toList 0 = some (some (j, e.val)) := by rw [g1, Nat.zero_add]
      simp [Builtin.delete_, run_underlying hm, MapKept.run_getObj_map hb, run_checkKey hd hk, run_findKey hd g1', run_setObj_map _ hb, Result.andThen], ⟨_, _, (heap_set hb).1, hres⟩, fun j hj => (heap_set hb).2 j hj, by simp, fun B hB => ⟨rfl, rfl, rfl, by simp, fun j hj => (heap_set hb).2 j (by omega)⟩⟩
end
end Go.Proofs.Ytdkgjbakbnhmaaa
