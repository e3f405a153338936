/- Roots, as a plain law: ways over links, ranks, what a round does, what a fixed point is. By an AI agent. -/
import Derived.Test.YtcmokhpnooldgaaLn6
namespace Go.Proofs.Ytcmokhpnooldgaa

abbrev Lk.i (d : Lk) : Nat := d.a.toNat
abbrev Lk.j (d : Lk) : Nat := d.b.toNat
def LN.lt (N : LN) (a b : Nat) : Bool := Ord.lt (N.id a).l (N.id b).l

/-- is there a way? -/
inductive Conn (N : LN) : Nat → Nat → Prop
  | refl (i : Nat) : Conn N i i
  | step {i : Nat} {d : Lk} : Conn N i d.i → d ∈ N.dirs → Conn N i d.j
theorem Conn.trans {N : LN} {i j k : Nat} (h : Conn N i j) (h' : Conn N j k) : Conn N i k := by
  induction h' with
  | refl => exact h
  | step _ hd ih => exact .step ih hd
theorem conn_back {N : LN} {d : Lk} (hd : d ∈ N.dirs) : Conn N d.j d.i := .step (d := d.turn) (.refl _) (dirs_turn hd)
theorem conn_edge {N : LN} {d : Lk} (hd : d ∈ N.dirs) : Conn N d.i d.j := .step (.refl _) hd
theorem Conn.symm {N : LN} {i j : Nat} (h : Conn N i j) : Conn N j i := by
  induction h with
  | refl => exact .refl _
  | step _ hd ih => exact (conn_back hd).trans ih

theorem LN.Ok.from_lt {N : LN} (h : N.Ok) {d : Lk} (hd : d ∈ N.dirs) : 0 ≤ d.a ∧ d.i < N.ids.length ∧ 0 ≤ d.p ∧ d.p.toNat < (N.cs d.i).length := by
  have h1 := LN.has_iff.1 (h.has d hd)
  have := h.len
  refine ⟨h1.1, ?_, h1.2.2.1, ?_⟩
  · show d.a.toNat < _; omega
  · show d.p.toNat < (N.cs d.a.toNat).length; omega
theorem LN.Ok.to_lt {N : LN} (h : N.Ok) {d : Lk} (hd : d ∈ N.dirs) : 0 ≤ d.b ∧ d.j < N.ids.length ∧ 0 ≤ d.q ∧ d.q.toNat < (N.cs d.j).length := h.from_lt (dirs_turn hd)
theorem conn_lt {N : LN} (h : N.Ok) {i j : Nat} (hi : i < N.ids.length) (hc : Conn N i j) : j < N.ids.length := by
  induction hc with
  | refl => exact hi
  | step _ hd _ => exact (h.to_lt hd).2.1
theorem LN.Ok.id_inj {N : LN} (h : N.Ok) {i j : Nat} (hi : i < N.ids.length) (hj : j < N.ids.length) (e : N.id i = N.id j) : i = j := by
  rw [LN.id_get hi, LN.id_get hj] at e
  have key : ∀ a b, (ha : a < N.ids.length) → (hb : b < N.ids.length) → a < b → N.ids[a] ≠ N.ids[b] := fun a b ha hb hab e => by
    refine nodup_take h.nodup hb ?_
    rw [← e]
    have h1 : (N.ids.take b)[a]'(by rw [List.length_take]; omega) = N.ids[a] := by simp
    rw [← h1]
    exact List.getElem_mem _
  rcases Nat.lt_trichotomy i j with h1 | h1 | h1
  · exact absurd e (key i j hi hj h1)
  · exact h1
  · exact absurd e.symm (key j i hj hi h1)
theorem LN.Ok.lt_eq {N : LN} (h : N.Ok) {i j : Nat} (hi : i < N.ids.length) (hj : j < N.ids.length) (h1 : N.lt i j = false) (h2 : N.lt j i = false) : i = j :=
  h.id_inj hi hj (Id8.ext_l (Ord.lt_ne _ _ h1 h2))
theorem LN.lt_trans {N : LN} {a b c : Nat} (h1 : N.lt a b = true) (h2 : N.lt b c = true) : N.lt a c = true := Ord.lt_trans _ _ _ h1 h2
theorem LN.lt_irrefl (N : LN) (a : Nat) : N.lt a a = false := Ord.lt_irrefl _
theorem LN.lt_asymm {N : LN} {a b : Nat} (h : N.lt a b = true) : N.lt b a = false := Ord.lt_asymm _ _ h
/-- not less is handed on -/
theorem LN.Ok.nlt_trans {N : LN} (h : N.Ok) {a b c : Nat} (ha : a < N.ids.length) (hb : b < N.ids.length) (h1 : N.lt a b = false) (h2 : N.lt b c = false) : N.lt a c = false := by
  cases hac : N.lt a c
  · rfl
  · cases hba : N.lt b a
    · rw [h.lt_eq ha hb h1 hba] at hac
      rw [hac] at h2
      cases h2
    · rw [LN.lt_trans hba hac] at h2
      cases h2

/-- how many are less -/
def rankF (N : LN) (k : Nat) : Nat := ((List.range N.ids.length).filter fun m => N.lt m k).length
theorem filter_lt {α : Type} (f g : α → Bool) : ∀ (l : List α), (∀ x ∈ l, f x = true → g x = true) → (l.filter f).length ≤ (l.filter g).length
  | [], _ => Nat.le_refl _
  | a :: l, h => by
    have ih := filter_lt f g l (fun x hx => h x (List.mem_cons_of_mem _ hx))
    cases hf : f a
    · cases hg : g a <;> simp [hf, hg] <;> omega
    · have hg := h a (by simp) hf
      simp [hf, hg]
      omega
theorem filter_slt {α : Type} (f g : α → Bool) : ∀ (l : List α), (∀ x ∈ l, f x = true → g x = true) → ∀ a ∈ l, f a = false → g a = true → (l.filter f).length < (l.filter g).length
  | [], _, a, ha, _, _ => by cases ha
  | b :: l, h, a, ha, hf, hg => by
    rcases List.mem_cons.1 ha with rfl | ha
    · have := filter_lt f g l (fun x hx => h x (List.mem_cons_of_mem _ hx))
      simp [hf, hg]
      omega
    · have ih := filter_slt f g l (fun x hx => h x (List.mem_cons_of_mem _ hx)) a ha hf hg
      cases hfb : f b
      · cases hgb : g b <;> simp [hfb, hgb] <;> omega
      · have hgb := h b (by simp) hfb
        simp [hfb, hgb]
        omega
theorem rank_lt {N : LN} {x y : Nat} (hx : x < N.ids.length) (h : N.lt x y = true) : rankF N x < rankF N y :=
  filter_slt _ _ _ (fun m _ hm => LN.lt_trans hm h) x (List.mem_range.2 hx) (LN.lt_irrefl N x) h
def rankSum (N : LN) (r : List Nat) : Nat := (r.map (rankF N)).sum
theorem sum_set (f : Nat → Nat) : ∀ (r : List Nat) (j x : Nat), j < r.length → f x < f (r.getD j 0) → ((r.set j x).map f).sum < (r.map f).sum
  | [], j, x, hj, _ => absurd hj (Nat.not_lt_zero _)
  | a :: r, 0, x, _, h => by
    simp only [List.set_cons_zero, List.map_cons, List.sum_cons]
    have h : f x < f a := h
    omega
  | a :: r, j + 1, x, hj, h => by
    simp only [List.set_cons_succ, List.map_cons, List.sum_cons]
    have := sum_set f r j x (by simpa using hj) h
    omega

theorem stR_eq (N : LN) (s : List Nat × Bool) (d : Lk) : stR N s d = if N.lt (s.1.getD d.i 0) (s.1.getD d.j 0) = true then (s.1.set d.j (s.1.getD d.i 0), true) else s := rfl
/-- what holds of roots at any time -/
structure RInv (N : LN) (r : List Nat) : Prop where
  len : r.length = N.ids.length
  lt : ∀ i, i < N.ids.length → r.getD i 0 < N.ids.length
  conn : ∀ i, i < N.ids.length → Conn N i (r.getD i 0)
  le : ∀ i, i < N.ids.length → N.lt i (r.getD i 0) = false
theorem rinv_start (N : LN) : RInv N (List.range N.ids.length) :=
  ⟨by simp, fun i hi => by simp [hi], fun i hi => by simp [hi]; exact .refl _, fun i hi => by simp [hi]; exact LN.lt_irrefl N i⟩
theorem getD_set {α : Type} (r : List α) (j k : Nat) (x z : α) (hj : j < r.length) : (r.set j x).getD k z = if k = j then x else r.getD k z := by
  by_cases h : k = j
  · subst h
    simp [hj]
  · rw [if_neg h]
    simp [List.getElem?_set, Ne.symm h]
theorem RInv.step {N : LN} (hok : N.Ok) {s : List Nat × Bool} (h : RInv N s.1) {d : Lk} (hd : d ∈ N.dirs) : RInv N (stR N s d).1 := by
  rw [stR_eq]
  split
  · rename_i hlt
    have h1 := hok.from_lt hd
    have h2 := hok.to_lt hd
    have hj : d.j < s.1.length := by rw [h.len]; exact h2.2.1
    refine ⟨by simp [h.len], fun i hi => ?_, fun i hi => ?_, fun i hi => ?_⟩
    · show (s.1.set d.j (s.1.getD d.i 0)).getD i 0 < _
      rw [getD_set _ _ _ _ _ hj]
      split
      · exact h.lt _ h1.2.1
      · exact h.lt _ hi
    · show Conn N i ((s.1.set d.j (s.1.getD d.i 0)).getD i 0)
      rw [getD_set _ _ _ _ _ hj]
      split
      · rename_i e
        rw [e]
        exact (conn_back hd).trans (h.conn _ h1.2.1)
      · exact h.conn _ hi
    · show N.lt i ((s.1.set d.j (s.1.getD d.i 0)).getD i 0) = false
      rw [getD_set _ _ _ _ _ hj]
      split
      · rename_i e
        rw [e]
        exact hok.nlt_trans h2.2.1 (h.lt _ h2.2.1) (h.le _ h2.2.1) (LN.lt_asymm hlt)
      · exact h.le _ hi
  · exact h
/-- a round, so far -/
def rdR (N : LN) (r : List Nat) (k : Nat) : List Nat × Bool := (N.dirs.take k).foldl (stR N) (r, false)
theorem take_snoc {α : Type} {l : List α} {k : Nat} {d : α} (hd : l[k]? = some d) : l.take (k + 1) = l.take k ++ [d] := by
  obtain ⟨hk, rfl⟩ := List.getElem?_eq_some_iff.1 hd
  exact List.take_succ_eq_append_getElem hk
theorem rdR_succ {N : LN} {r : List Nat} {k : Nat} {d : Lk} (hd : N.dirs[k]? = some d) : rdR N r (k + 1) = stR N (rdR N r k) d := by
  unfold rdR
  rw [take_snoc hd, List.foldl_append]
  rfl
theorem rdR_inv {N : LN} (hok : N.Ok) {r : List Nat} (h : RInv N r) : ∀ k, k ≤ N.dirs.length → RInv N (rdR N r k).1
  | 0, _ => h
  | k + 1, hk => by
    have hd := List.getElem?_eq_getElem (show k < N.dirs.length by omega)
    rw [rdR_succ hd]
    exact (rdR_inv hok h k (by omega)).step hok (List.mem_of_getElem? hd)
theorem rdR_change {N : LN} (hok : N.Ok) {r : List Nat} (h : RInv N r) : ∀ k, k ≤ N.dirs.length → ((rdR N r k).2 = true ∧ rankSum N (rdR N r k).1 < rankSum N r) ∨ ((rdR N r k) = (r, false) ∧ ∀ m d, m < k → N.dirs[m]? = some d → N.lt (r.getD d.i 0) (r.getD d.j 0) = false)
  | 0, _ => .inr ⟨rfl, fun m d hm => absurd hm (Nat.not_lt_zero _)⟩
  | k + 1, hk => by
    have hd := List.getElem?_eq_getElem (show k < N.dirs.length by omega)
    have hmem := List.mem_of_getElem? hd
    have hinv := rdR_inv hok h k (by omega)
    have h1 := hok.from_lt hmem
    have h2 := hok.to_lt hmem
    have ih := rdR_change hok h k (by omega)
    rw [rdR_succ hd]
    generalize N.dirs[k] = d at *
    generalize hs : rdR N r k = s at *
    have hdec : N.lt (s.1.getD d.i 0) (s.1.getD d.j 0) = true → rankSum N (s.1.set d.j (s.1.getD d.i 0)) < rankSum N s.1 := fun hlt =>
      sum_set (rankF N) s.1 d.j _ (by rw [hinv.len]; exact h2.2.1) (rank_lt (hinv.lt _ h1.2.1) hlt)
    by_cases hlt : N.lt (s.1.getD d.i 0) (s.1.getD d.j 0) = true
    · have e : stR N s d = (s.1.set d.j (s.1.getD d.i 0), true) := by rw [stR_eq, if_pos hlt]
      rw [e]
      refine .inl ⟨rfl, ?_⟩
      have := hdec hlt
      rcases ih with ⟨_, h3⟩ | ⟨h3, _⟩
      · show rankSum N (s.1.set _ _) < _
        omega
      · show rankSum N (s.1.set _ _) < _
        rw [h3] at this
        rw [h3]
        exact this
    · have e : stR N s d = s := by rw [stR_eq, if_neg hlt]
      rw [e]
      rcases ih with h3 | ⟨h3, h4⟩
      · exact .inl h3
      · refine .inr ⟨h3, fun m d' hm hd' => ?_⟩
        rcases Nat.lt_or_eq_of_le (Nat.le_of_lt_succ hm) with h5 | rfl
        · exact h4 m d' h5 hd'
        · rw [hd] at hd'
          cases hd'
          rw [h3] at hlt
          simpa using hlt

/-- r is each bridge's root -/
structure IsRoots (N : LN) (r : List Nat) : Prop where
  len : r.length = N.ids.length
  lt : ∀ i, i < N.ids.length → r.getD i 0 < N.ids.length
  conn : ∀ i, i < N.ids.length → Conn N i (r.getD i 0)
  least : ∀ i j, i < N.ids.length → Conn N i j → N.lt j (r.getD i 0) = false
theorem RInv.fixed {N : LN} (hok : N.Ok) {r : List Nat} (h : RInv N r) (hf : ∀ d ∈ N.dirs, N.lt (r.getD d.i 0) (r.getD d.j 0) = false) : IsRoots N r := by
  have same : ∀ i j, i < N.ids.length → Conn N i j → r.getD i 0 = r.getD j 0 := fun i j hi hc => by
    induction hc with
    | refl => rfl
    | @step d hc hd ih =>
      rw [ih]
      have h3 : N.lt (r.getD d.j 0) (r.getD d.i 0) = false := hf d.turn (dirs_turn hd)
      exact hok.lt_eq (h.lt d.i (hok.from_lt hd).2.1) (h.lt d.j (hok.to_lt hd).2.1) (hf d hd) h3
  refine ⟨h.len, h.lt, h.conn, fun i j hi hc => ?_⟩
  rw [same i j hi hc]
  exact h.le j (conn_lt hok hi hc)
theorem IsRoots.same {N : LN} (hok : N.Ok) {r : List Nat} (h : IsRoots N r) {i j : Nat} (hi : i < N.ids.length) (hc : Conn N i j) : r.getD i 0 = r.getD j 0 := by
  have hj := conn_lt hok hi hc
  exact hok.lt_eq (h.lt i hi) (h.lt j hj) (h.least j _ hj (hc.symm.trans (h.conn i hi))) (h.least i _ hi (hc.trans (h.conn j hj)))
theorem IsRoots.uniq {N : LN} (hok : N.Ok) {r r' : List Nat} (h : IsRoots N r) (h' : IsRoots N r') : r = r' := by
  refine List.ext_getElem (by rw [h.len, h'.len]) fun i h1 h2 => ?_
  have hi : i < N.ids.length := by rw [← h.len]; exact h1
  have e := hok.lt_eq (h.lt i hi) (h'.lt i hi) (h'.least i _ hi (h.conn i hi)) (h.least i _ hi (h'.conn i hi))
  simpa [h1, h2] using e
end Go.Proofs.Ytcmokhpnooldgaa
