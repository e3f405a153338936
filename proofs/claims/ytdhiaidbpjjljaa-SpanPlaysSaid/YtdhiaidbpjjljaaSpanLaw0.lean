/- What befalls a bridge, act by act; what it tells, as a slice that is read. By an AI agent. -/
import Derived.Test.YtdhiaidbpjjljaaOpenSpan
namespace Go.Proofs.Ytdhiaidbpjjljaa
open Go.RowKit Go.WideShapes Go.Sort Grow

theorem ManyAt.later {α : Type} {w w' : World} {ao : Option Addr} {encA : α → List Value} {k : Nat} {vs : List α} (h : ManyAt w ao encA k vs) (hb : Below w.heap.size w w') : ManyAt w' ao encA k vs := by
  rcases h with h | ⟨b, off, e, hl, hc⟩
  · exact .inl h
  · exact .inr ⟨b, off, e, Nat.lt_of_lt_of_le hl hb.size, fun i h j v hj => (hb.cell (p := ⟨b, off + i * k + j, none⟩) hl).trans (hc i h j v hj)⟩

theorem ManyAt.range {α : Type} {w : World} {ao : Option Addr} {encA : α → List Value} {k : Nat} {vs : List α} (h : ManyAt w ao encA k vs) {i : Nat} (hi : i < vs.length) :
    ∃ b off, ao = some ⟨b, off, none⟩ ∧ b < w.heap.size ∧ ∀ j v, (encA vs[i])[j]? = some v → w.cell? ⟨b, off + i * k + j, none⟩ = some v := by
  rcases h with h | ⟨b, off, e, hl, hc⟩
  · rw [h] at hi; exact absurd hi (Nat.not_lt_zero _)
  · exact ⟨b, off, e, hl, hc i hi⟩

theorem wpList_load_midW {P : Program} {ops : Array Oper} {rest : List Oper} {op : Oper} {a : Act} {w : World} {Q : Exit → Act → World → Prop} (hgd : Region.wanted op (yielded ops a.tmps) = true) (ty : TypeId) (x : Operand) (ho : op.op = .load ty x)
    (b o : Nat) (hx : a.eval x = .pointer (some ⟨b, o, none⟩)) (cs : List Value) (d : TypeDesc) (hc : w.rangeAt b o cs)
    (hu : P.underlying ty = some d) (hd : d.isRow = true) (hi : (P.info? ty).map (·.size) = some cs.length)
    (h : wpList P ops Q rest (a.put op.dst (.agg cs.toArray)) w) : wpList P ops Q (op :: rest) a w :=
  BigFrame.wpList_want hgd fun _ hK => wp_load_mid ty x ho b o hx cs d hc hu hd hi (hK _ _ h)


theorem flat_getK {α : Type} {enc : α → List Value} {k : Nat} (hk : ∀ a, (enc a).length = k) : ∀ (ds : List α) (i j : Nat) (hi : i < ds.length), j < k → (ds.flatMap enc)[i * k + j]? = (enc ds[i])[j]?
  | [], i, j, hi, _ => absurd hi (Nat.not_lt_zero _)
  | d :: ds, 0, j, _, hj => by
    rw [List.flatMap_cons, Nat.zero_mul, Nat.zero_add, List.getElem?_append_left (by rw [hk]; exact hj)]
    rfl
  | d :: ds, i + 1, j, hi, hj => by
    have e : (i + 1) * k + j = (enc d).length + (i * k + j) := by rw [hk, Nat.succ_mul]; omega
    rw [List.flatMap_cons, e, List.getElem?_append_right (by omega), Nat.add_sub_cancel_left, flat_getK hk ds i j (by simpa using hi) hj]
    rfl
theorem OutAt.many {w : World} {base : Nat} {v : Value} {outs : List SO} (h : OutAt w base v outs) : ∃ ao cap, v = .slice ao outs.length cap ∧ ManyAt w ao SO.cells 25 outs := by
  obtain ⟨la, lc, rfl, h⟩ := h
  refine ⟨la, lc, rfl, ?_⟩
  rcases h.2 with ⟨_, e0⟩ | ⟨g, c', cur, e1, hB', hgr, hle, hm, hcs, ht⟩
  · exact .inl (List.eq_nil_of_length_eq_zero e0)
  · simp only [Value.slice.injEq] at e1
    refine .inr ⟨g, 0, e1.1, (Array.getElem?_eq_some_iff.1 hgr).1, fun i hi j v hj => ?_⟩
    have hj25 : j < 25 := (List.getElem?_eq_some_iff.1 hj).1
    have hR : RowIs w g 47 cur := hgr
    rw [Nat.zero_add, hR.cell]
    have h1 := flat_getK (enc := SO.cells) (fun _ => rfl) outs i j hi hj25
    rw [hj, ← ht, List.getElem?_take_of_lt (by omega), Array.getElem?_toList] at h1
    exact h1

/-- acts, one behind the other -/
def runF (s : SS) (acts : List ActS) : Nat → SS
  | 0 => s
  | k + 1 => ((runF s acts k).act (acts.getD k ⟨0, 0, .zero⟩)).1
theorem runF_ok {s : SS} {n : Int} (h : s.Ok n) (acts : List ActS) : ∀ k : Nat, (runF s acts k).Ok (n + 300 * k)
  | 0 => h.mono (by omega)
  | k + 1 => ((runF_ok h acts k).act _).mono (by omega)

/-- what never changes -/
structure SS.Same (s t : SS) : Prop where
  id : t.id = s.id
  ma : t.ma = s.ma
  he : t.he = s.he
  de : t.de = s.de
  len : t.ports.length = s.ports.length
theorem SS.Same.refl (s : SS) : s.Same s := ⟨rfl, rfl, rfl, rfl, rfl⟩
theorem SS.Same.trans {s t u : SS} (h : s.Same t) (k : t.Same u) : s.Same u := ⟨k.id.trans h.id, k.ma.trans h.ma, k.he.trans h.he, k.de.trans h.de, k.len.trans h.len⟩
theorem SS.Like.same {s t : SS} (h : s.Like t) : s.Same t := ⟨h.id, h.ma, h.he, h.de, h.len⟩
theorem SS.found_same (s : SS) : s.Same s.found.1 := (show s.Same s.rooted from ⟨rfl, rfl, rfl, rfl, rfl⟩).trans s.found_like.same
theorem SS.put_same' (s : SS) (k : Nat) (p : SP) : s.Same (s.put k p) := (s.like_put k p).same
theorem SS.aged_same (s : SS) : s.Same s.aged := ⟨rfl, rfl, rfl, rfl, by unfold SS.aged; simp⟩
theorem SS.next_same (s : SS) : s.Same s.next := ⟨rfl, rfl, rfl, rfl, rfl⟩
theorem SS.ticked_same (s : SS) : s.Same s.ticked := ((s.next_same.trans s.next.aged_same).trans s.next.aged.found_same).trans (matF_like _ _).same
theorem SS.setUp_same (s : SS) (i : Int) (up : Bool) : s.Same (s.setUp i up).1 := by
  unfold SS.setUp
  split
  · exact (s.put_same' _ _).trans (SS.found_same _)
  · exact SS.Same.refl s
theorem SS.take_same (s : SS) (i : Int) (x : SW) : s.Same (s.take i x).1 := by
  unfold SS.take
  split
  · exact SS.Same.refl s
  · split
    · exact SS.Same.refl s
    · split
      · exact SS.Same.refl s
      · split
        · exact (s.put_same' _ _).trans (SS.found_same _)
        · exact SS.Same.refl s
theorem SS.act_same (s : SS) (x : ActS) : s.Same (s.act x).1 := by
  unfold SS.act
  split
  · exact s.ticked_same
  · split
    · exact s.setUp_same _ _
    · split
      · exact s.setUp_same _ _
      · exact s.take_same _ _
theorem runF_same (s : SS) (acts : List ActS) : ∀ k : Nat, s.Same (runF s acts k)
  | 0 => SS.Same.refl s
  | k + 1 => (runF_same s acts k).trans (SS.act_same _ _)
theorem SS.found_now (s : SS) : s.found.1.now = s.now := s.found_like.now
theorem SS.act_now (s : SS) (x : ActS) : (s.act x).1.now = if x.kind ≤ 1 then s.now + 1 else s.now := by
  unfold SS.act
  split
  · show s.ticked.now = _
    unfold SS.ticked
    rw [(matF_like _ _).now, SS.found_now]
    rfl
  · split
    · unfold SS.setUp
      split
      · exact SS.found_now _
      · rfl
    · split
      · unfold SS.setUp
        split
        · exact SS.found_now _
        · rfl
      · unfold SS.take
        split
        · rfl
        · split
          · rfl
          · split
            · rfl
            · split
              · exact SS.found_now _
              · rfl
theorem SS.fresh_same (id : Id8) (zs : List Int) (ma he de : Int) : (SS.fresh id zs ma he de).found.1.id = id ∧ (SS.fresh id zs ma he de).found.1.ma = ma ∧ (SS.fresh id zs ma he de).found.1.he = he ∧ (SS.fresh id zs ma he de).found.1.de = de ∧ (SS.fresh id zs ma he de).found.1.ports.length = zs.length ∧ (SS.fresh id zs ma he de).found.1.now = 0 := by
  have h := (SS.fresh id zs ma he de).found_same
  exact ⟨h.id, h.ma, h.he, h.de, by rw [h.len]; simp [SS.fresh], SS.found_now _⟩
end Go.Proofs.Ytdhiaidbpjjljaa
