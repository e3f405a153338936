/- On a port that is not up nothing is told, and nothing is heard. By an AI agent. -/
import Derived.Test.YtnpoholeemcklaaSpanForget0
import Derived.Deep.OwnRows
namespace Go.Proofs.Ytnpoholeemcklaa
open Go.RowKit Go.WideShapes Go.Sort Grow

def upsA (s : SS) : Array Value := (s.ports.map fun p => Value.bool p.up).toArray
theorem upsA_size (s : SS) : (upsA s).size = s.ports.length := by unfold upsA; simp
theorem upsA_get (s : SS) (k : Nat) (hk : k < s.ports.length) : (upsA s)[k]? = some (.bool (s.port k).up) := by
  unfold upsA SS.port
  simp [List.getD, hk]
theorem upsA_ext {s t : SS} (hl : t.ports.length = s.ports.length) (h : ∀ k, k < s.ports.length → (t.port k).up = (s.port k).up) : upsA t = upsA s := by
  apply Array.ext_getElem?
  intro i
  by_cases hi : i < s.ports.length
  · rw [upsA_get t i (by omega), upsA_get s i hi, h i hi]
  · rw [Array.getElem?_eq_none (by rw [upsA_size]; omega), Array.getElem?_eq_none (by rw [upsA_size]; omega)]
theorem upsA_set {s t : SS} (hl : t.ports.length = s.ports.length) (k : Nat) (b : Bool) (hk : k < s.ports.length) (h : ∀ j, j < s.ports.length → (t.port j).up = if j = k then b else (s.port j).up) : upsA t = (upsA s).setIfInBounds k (.bool b) := by
  apply Array.ext_getElem?
  intro i
  by_cases hi : i < s.ports.length
  · rw [upsA_get t i (by omega), h i hi]
    by_cases e : i = k
    · subst e
      rw [if_pos rfl]
      simp [upsA_size, hi]
    · rw [if_neg e, Array.getElem?_setIfInBounds_ne (Ne.symm e), upsA_get s i hi]
  · rw [Array.getElem?_eq_none (by rw [upsA_size]; omega), Array.getElem?_eq_none (by simp [upsA_size]; omega)]
theorem SS.found_up (s : SS) (k : Nat) (hk : k < s.ports.length) : (s.found.1.port k).up = (s.port k).up := by
  rw [s.found_port k hk]
  exact ((s.port k).onto_w _ _).2.2.1
theorem SS.setUp_up (s : SS) (i : Int) (up : Bool) (j : Nat) (hj : j < s.ports.length) : ((s.setUp i up).1.port j).up = if s.has i = true ∧ (j : Int) = i then up else (s.port j).up := by
  unfold SS.setUp
  by_cases hh : s.has i = true
  · obtain ⟨k, rfl, hk⟩ := s.has_true i hh
    rw [if_pos hh]
    show ((s.put (k : Int).toNat ((s.port (k : Int).toNat).upTo up)).found.1.port j).up = _
    rw [Int.toNat_natCast, SS.found_up _ _ (by rw [SS.put_len]; exact hj), SS.port_put _ _ _ _ hk]
    by_cases e : j = k
    · subst e
      rw [if_pos rfl, if_pos ⟨hh, rfl⟩]
      unfold SP.upTo
      cases up <;> rfl
    · rw [if_neg e, if_neg (fun h => e (by have := h.2; omega))]
  · rw [if_neg hh, if_neg (fun h => hh h.1)]
theorem SS.ticked_up (s : SS) (k : Nat) (hk : k < s.ports.length) : (s.ticked.port k).up = (s.port k).up := (s.ticked_heard k hk).2.2.1
theorem SS.take_up (s : SS) (i : Int) (x : SW) (j : Nat) (hj : j < s.ports.length) : ((s.take i x).1.port j).up = (s.port j).up := by
  unfold SS.take
  split
  · rfl
  · rename_i hn
    split
    · rfl
    · split
      · rfl
      · split
        · have hh := s.has_of_for i x (by simpa using hn)
          obtain ⟨k, rfl, hk⟩ := s.has_true i hh
          show ((s.put (k : Int).toNat ((s.port (k : Int).toNat).hear x)).found.1.port j).up = _
          rw [Int.toNat_natCast, SS.found_up _ _ (by rw [SS.put_len]; exact hj), SS.port_put _ _ _ _ hk]
          by_cases e : j = k
          · subst e
            rw [if_pos rfl]
            rfl
          · rw [if_neg e]
        · rfl
theorem act_ups (s : SS) (x : ActS) : upsA (s.act x).1 = if s.has x.port = true ∧ x.kind = 2 then (upsA s).setIfInBounds x.port.toNat (.bool true) else if s.has x.port = true ∧ x.kind = 3 then (upsA s).setIfInBounds x.port.toNat (.bool false) else upsA s := by
  have hl := (s.act_same x).len
  have key : ∀ up, (s.act x).1 = (s.setUp x.port up).1 → upsA (s.act x).1 = if s.has x.port = true then (upsA s).setIfInBounds x.port.toNat (.bool up) else upsA s := by
    intro up e
    by_cases hh : s.has x.port = true
    · obtain ⟨k, hk1, hk⟩ := s.has_true _ hh
      rw [if_pos hh, hk1, Int.toNat_natCast]
      refine upsA_set hl k up hk fun j hj => ?_
      rw [e, s.setUp_up _ _ j hj]
      by_cases ej : j = k
      · rw [if_pos ej, if_pos ⟨hh, by rw [hk1, ej]⟩]
      · rw [if_neg ej, if_neg (fun h => ej (by have := h.2; omega))]
    · rw [if_neg hh]
      refine upsA_ext hl fun j hj => ?_
      rw [e, s.setUp_up _ _ j hj, if_neg (fun h => hh h.1)]
  by_cases h2 : x.kind = 2
  · rw [key true (by unfold SS.act; rw [if_neg (by omega), if_pos h2])]
    by_cases hh : s.has x.port = true
    · rw [if_pos hh, if_pos ⟨hh, h2⟩]
    · rw [if_neg hh, if_neg (fun h => hh h.1), if_neg (fun h => hh h.1)]
  · rw [if_neg (fun h => h2 h.2)]
    by_cases h3 : x.kind = 3
    · rw [key false (by unfold SS.act; rw [if_neg (by omega), if_neg h2, if_pos h3])]
      by_cases hh : s.has x.port = true
      · rw [if_pos hh, if_pos ⟨hh, h3⟩]
      · rw [if_neg hh, if_neg (fun h => hh h.1)]
    · rw [if_neg (fun h => h3 h.2)]
      refine upsA_ext hl fun j hj => ?_
      unfold SS.act
      split
      · exact s.ticked_up j hj
      · first
          | exact s.take_up _ _ j hj
          | (rw [if_neg h2, if_neg h3]
             exact s.take_up _ _ j hj)

/-- a port that is not up has no role, and no state -/
def DownOk (s : SS) : Prop := ∀ k, k < s.ports.length → (s.port k).up = false → (s.port k).role = 0 ∧ (s.port k).state = 0
theorem down_found (s : SS) : DownOk s.found.1 := by
  intro k hk hu
  have hk' : k < s.ports.length := by rw [← s.found_len]; exact hk
  rw [s.found_up k hk'] at hu
  rw [s.found_port k hk']
  have hr : s.rooted.role k = 0 := by
    unfold SS.role
    rw [if_pos (show (s.rooted.port k).up = false from hu)]
  rw [hr]
  unfold SP.onto
  cases h0 : ((s.port k).state == 0)
  · simp
  · have := beq_iff_eq.1 h0
    simp [this]
theorem down_mat {s : SS} (h : DownOk s) : DownOk (matF s s.ports.length) := by
  intro k hk hu
  have hl := (matF_like s s.ports.length).len
  have hk' : k < s.ports.length := by rw [← hl]; exact hk
  have e := matF_port s _ (Nat.le_refl _) k
  rw [if_pos hk'] at e
  rw [e] at hu ⊢
  have hm := SP.mature_w (s.port k) s.now s.de
  rw [hm.2.2.1] at hu
  have h0 := h k hk' hu
  refine ⟨by rw [hm.2.2.2.2]; exact h0.1, ?_⟩
  unfold SP.mature
  rw [h0.2]
  simp
  exact h0.2
theorem down_act {s : SS} (h : DownOk s) (x : ActS) : DownOk (s.act x).1 := by
  have hs : ∀ i up, DownOk (s.setUp i up).1 := by
    intro i up
    unfold SS.setUp
    split
    · exact down_found _
    · exact h
  unfold SS.act
  split
  · exact down_mat (down_found _)
  · split
    · exact hs _ _
    · split
      · exact hs _ _
      · unfold SS.take
        split
        · exact h
        · split
          · exact h
          · split
            · exact h
            · split
              · exact down_found _
              · exact h
/-- what is told is told on ports that are up -/
theorem tells_up {s : SS} (h : DownOk s) (p : Nat → Bool) : ∀ o ∈ s.tells p, o.port < s.ports.length ∧ (s.port o.port).up = true := by
  intro o ho
  unfold SS.tells at ho
  split at ho
  · obtain ⟨i, hi, rfl, hr, _⟩ := tellsF_mem _ _ _ _ o ho
    refine ⟨hi, ?_⟩
    cases hu : (s.port i).up
    · have := (h i hi hu).1
      omega
    · rfl
  · cases ho
theorem act_outs (s : SS) (x : ActS) : (s.act x).2 = [] ∨ ∃ p, (s.act x).2 = (s.act x).1.tells p := by
  have hset : ∀ i up, (s.setUp i up).2 = [] ∨ ∃ p, (s.setUp i up).2 = (s.setUp i up).1.tells p := by
    intro i up
    unfold SS.setUp
    split
    · simp only
      split
      · exact .inr ⟨_, rfl⟩
      · exact .inl rfl
    · exact .inl rfl
  unfold SS.act
  split
  · unfold SS.tick
    simp only
    split
    · exact .inl rfl
    · exact .inr ⟨_, rfl⟩
  · split
    · exact hset _ _
    · split
      · exact hset _ _
      · unfold SS.take
        split
        · exact .inl rfl
        · split
          · exact .inl rfl
          · split
            · exact .inl rfl
            · split
              · simp only
                unfold SS.tellsK
                split
                · exact .inr ⟨_, rfl⟩
                · split
                  · exact .inr ⟨_, rfl⟩
                  · exact .inl rfl
              · exact .inr ⟨_, rfl⟩
theorem act_told {s : SS} (h : DownOk s) (x : ActS) : ∀ o ∈ (s.act x).2, o.port < s.ports.length ∧ ((s.act x).1.port o.port).up = true := by
  intro o ho
  rcases act_outs s x with e | ⟨p, e⟩
  · rw [e] at ho
    cases ho
  · rw [e] at ho
    have := tells_up (down_act h x) p o ho
    rwa [(s.act_same x).len] at this
theorem act_len (s : SS) (x : ActS) : (s.act x).2.length ≤ s.ports.length := by
  rcases act_outs s x with e | ⟨p, e⟩
  · rw [e]
    exact Nat.zero_le _
  · rw [e]
    unfold SS.tells
    split
    · have := SS.tellsF_len (s.act x).1 p (s.act x).1.age.1 (s.act x).1.ports.length
      rw [(s.act_same x).len] at this ⊢
      exact this
    · exact Nat.zero_le _
theorem take_down (s : SS) (k : Nat) (x : SW) (hk : k < s.ports.length) (hu : (s.port k).up = false) : s.take (k : Nat) x = (s, []) := by
  unfold SS.take
  rw [if_pos]
  unfold SS.notFor
  rw [Int.toNat_natCast, hu]
  simp
theorem ups_made (n : Nat) : madeCells #[Value.bool false] n = (List.replicate n (Value.bool false)).toArray := by
  apply Array.ext_getElem?
  intro i
  by_cases h : i < n
  · simp [madeCells, h, Nat.mod_one]
  · simp [madeCells, h]
theorem fresh_up (id : Id8) (zs : List Int) (ma he de : Int) : upsA (SS.fresh id zs ma he de).found.1 = (List.replicate zs.length (Value.bool false)).toArray := by
  have hl := (SS.fresh_same id zs ma he de).2.2.2.2.1
  apply Array.ext_getElem?
  intro i
  by_cases hi : i < zs.length
  · have hi' : i < (SS.fresh id zs ma he de).ports.length := by simp [SS.fresh]; exact hi
    rw [upsA_get _ i (by omega), SS.found_up _ _ hi']
    have e : (SS.fresh id zs ma he de).port i = SP.fresh zs[i] := by
      unfold SS.port SS.fresh
      simp [List.getD, hi]
    rw [e]
    simp [SP.fresh, hi]
  · rw [Array.getElem?_eq_none (by rw [upsA_size]; omega), Array.getElem?_eq_none (by simp; omega)]
theorem SpAt.other {B S g cap : Nat} {pbs : List Nat} {w w' : World} {s : SS} {U : Nat} {cs : Array Value} (h : SpAt B S g cap pbs w s) (hU : RowIs w U 4 cs) (ho : ∀ j, j ≠ U → w'.heap[j]? = w.heap[j]?) : SpAt B S g cap pbs w' s := by
  obtain ⟨cur, h1, h2⟩ := h.arr
  exact ⟨h.hB, rowIs_same h.row (ho _ (rowIs_ne h.row hU (by decide))), h.hg, ⟨cur, rowIs_same h1 (ho _ (rowIs_ne h1 hU (by decide))), h2⟩, h.len, h.nodup, fun i hi => ⟨(h.ports i hi).1, rowIs_same (h.ports i hi).2 (ho _ (rowIs_ne (h.ports i hi).2 hU (by decide)))⟩⟩
theorem OutAt.other {w w' : World} {base U : Nat} {v : Value} {outs : List SO} {cs : Array Value} (h : OutAt w base v outs) (hU : RowIs w U 4 cs) (ho : ∀ j, j ≠ U → w'.heap[j]? = w.heap[j]?) : OutAt w' base v outs := by
  obtain ⟨la, lc, e, h1, h2⟩ := h
  refine ⟨la, lc, e, h1, ?_⟩
  rcases h2 with h2 | ⟨g', cap', cur, a1, a2, a3, a4⟩
  · exact .inl h2
  · exact .inr ⟨g', cap', cur, a1, a2, (ho g' (rowIs_ne (show RowIs w g' 56 cur from a3) hU (by decide))).trans a3, a4⟩
theorem roleAt_nat (s : SS) (k : Nat) (hk : k < s.ports.length) : s.roleAt (k : Nat) = (s.port k).role ∧ s.stateAt (k : Nat) = (s.port k).state := by
  have hh : s.has (k : Nat) = true := by
    unfold SS.has
    simp
    exact hk
  unfold SS.roleAt SS.stateAt
  rw [if_pos hh, if_pos hh, Int.toNat_natCast]
  exact ⟨rfl, rfl⟩
end Go.Proofs.Ytnpoholeemcklaa
