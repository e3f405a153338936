/- The document's table and the program's: one law for both. By an AI agent. -/
import Derived.Test.YtcdklbhfcfamnaaLearnMay
namespace Go.Proofs.Ytcdklbhfcfamnaa
open Go.RowKit Go.MapKept Go.Maps Go.WideShapes Go.Sort Grow

/-- the document's list is the table, told in order -/
def Same (L l : List Ent) : Prop := l.Perm (L.map Ent.told) ∧ l.Pairwise (fun x y => x.key < y.key)
theorem told_is (e : Ent) (v : Int) (m : Mac6) : e.told.is v m = e.is v m := rfl
theorem told_key (e : Ent) : e.told.key = e.key := rfl
theorem key_eq {v : Int} {m : Mac6} {e : Ent} {x : Ent} (hv : x.v = v) (hm : x.m = m) : e.is v m = true ↔ e.key = x.key := by
  rw [is_true, ← hv, ← hm]
  constructor
  · intro h
    unfold Ent.key
    rw [h.1, h.2]
  · intro h
    exact key_inj h
theorem any_perm {l l' : List Ent} (h : l.Perm l') (f : Ent → Bool) : l.any f = l'.any f := by
  cases hb : l'.any f
  · rw [List.any_eq_false] at hb ⊢
    exact fun e he => hb e (h.mem_iff.1 he)
  · rw [List.any_eq_true] at hb ⊢
    obtain ⟨e, he, hf⟩ := hb
    exact ⟨e, h.mem_iff.2 he, hf⟩
theorem any_told {L l : List Ent} (h : Same L l) (f : Ent → Bool) (hf : ∀ e, f e.told = f e) : l.any f = L.any f := by
  rw [any_perm h.1, List.any_map]
  congr 1
  funext e
  exact hf e
theorem may_same {L l : List Ent} (h : Same L l) (zs : List Int) (v : Int) (m : Mac6) (p : Int) : mayN zs l v m p = mayN zs L v m p := by
  unfold mayN
  rw [any_told h _ (fun e => rfl)]
theorem on_same {L l : List Ent} (h : Same L l) (p : Int) : onN p l = onN p L := by
  rw [onN_perm h.1]
  unfold onN
  rw [List.filter_map, List.length_map]
  rfl
theorem learn_same {L l : List Ent} (h : Same L l) (zs : List Int) (v : Int) (m : Mac6) (p : Int) : learnN zs l v m p = learnN zs L v m p := by
  unfold learnN
  rw [may_same h, any_told h _ (fun e => rfl), on_same h]
theorem same_nodup {L l : List Ent} (h : Same L l) : (l.map fun e => keyV e.v e.m).Nodup := by
  rw [List.nodup_iff_pairwise_ne, List.pairwise_map]
  refine h.2.imp fun {a b} hab e => ?_
  obtain ⟨h1, h2⟩ := keyV_inj e
  have : a.key = b.key := by unfold Ent.key; rw [h1, h2]
  omega
theorem same_len {L l : List Ent} (h : Same L l) : l.length = L.length := by rw [h.1.length_eq, List.length_map]
theorem same_ages {L l : List Ent} (h : Same L l) {n k : Nat} (hk : Kept n k L) : ∀ e ∈ l, 0 ≤ e.age ∧ e.age ≤ k := fun e he => by
  obtain ⟨e0, he0, rfl⟩ := List.mem_map.1 (h.1.mem_iff.1 he)
  obtain ⟨_, _, a3, a4⟩ := hk e0 he0
  unfold Ent.told
  show 0 ≤ (if e0.fixed = true then 0 else e0.age) ∧ (if e0.fixed = true then 0 else e0.age) ≤ (k : Int)
  split <;> omega
theorem same_all {L l ds : List Ent} (h : Same L l) (hp : ds.Perm (L.map Ent.told)) (hs : ds.Pairwise fun x y => x.key ≤ y.key) : ds = l := by
  have h2 := h.2
  refine List.Perm.eq_of_pairwise (le := fun x y => x.key ≤ y.key) (fun a b ha hb hab hba => ?_) hs (h2.imp fun {a b} h => by omega) (hp.trans h.1.symm)
  have hb' : b ∈ l := hb
  have ha' : a ∈ l := h.1.mem_iff.2 (hp.mem_iff.1 ha)
  have e : a.key = b.key := by omega
  obtain ⟨i, hi, rfl⟩ := List.getElem_of_mem ha'
  obtain ⟨j, hj, rfl⟩ := List.getElem_of_mem hb'
  rcases Nat.lt_trichotomy i j with hij | hij | hij
  · have := List.pairwise_iff_getElem.1 h2 i j hi hj hij
    omega
  · subst hij
    rfl
  · have := List.pairwise_iff_getElem.1 h2 j i hj hi hij
    omega

/-! ### a new entry in its place -/
theorem putF_perm (x : Ent) (l : List Ent) : ∀ s : List Ent × Bool, ((l.foldl (putS x) s).1 ++ (if (l.foldl (putS x) s).2 = true then [] else [x])).Perm ((s.1 ++ (if s.2 = true then [] else [x])) ++ others x.v x.m l) := by
  induction l with
  | nil => intro s; show List.Perm _ (_ ++ []); rw [List.append_nil]; exact .refl _
  | cons d l ih =>
    intro s
    refine (ih (putS x s d)).trans ?_
    obtain ⟨o, b⟩ := s
    unfold putS others
    by_cases h1 : d.is x.v x.m = true
    · rw [List.filter_cons_of_neg (by rw [h1]; simp)]
      simp [h1]
    · rw [List.filter_cons_of_pos (by simpa using h1)]
      cases b
      · by_cases h2 : x.key < d.key
        · simp [h1, h2]
        · simp only [h1, h2]
          simp
          exact List.Perm.append_left o (List.Perm.swap _ _ _)
      · simp [h1]
theorem put_perm (l : List Ent) (x : Ent) : (putL l x).Perm (x :: others x.v x.m l) := by
  have h := putF_perm x l ([], false)
  have e : putL l x = (putF x l).1 ++ (if (putF x l).2 = true then [] else [x]) := by
    unfold putL
    split <;> simp
  rw [e]
  exact h
/-- what is built stays in order; what comes stands behind it -/
def PutOk (x : Ent) (s : List Ent × Bool) (l : List Ent) : Prop := s.1.Pairwise (fun a b => a.key < b.key) ∧ (∀ a ∈ s.1, ∀ d ∈ l, a.key < d.key) ∧ (s.2 = false → ∀ a ∈ s.1, a.key < x.key) ∧ (s.2 = true → ∀ d ∈ l, x.key < d.key)
theorem putF_sorted (x : Ent) (l : List Ent) (hl : l.Pairwise fun a b => a.key < b.key) : ∀ s, PutOk x s l → PutOk x (l.foldl (putS x) s) [] := by
  induction l with
  | nil => exact fun s h => h
  | cons d l ih =>
    intro s h
    rw [List.pairwise_cons] at hl
    refine ih hl.2 _ ?_
    obtain ⟨o, b⟩ := s
    obtain ⟨h1, h2, h3, h4⟩ := h
    simp only at h1 h2 h3 h4
    have h2d : ∀ a ∈ o, a.key < d.key := fun a ha => h2 a ha d (by simp)
    have h2l : ∀ a ∈ o, ∀ e ∈ l, a.key < e.key := fun a ha e he => h2 a ha e (by simp [he])
    unfold putS
    by_cases hi : d.is x.v x.m = true
    · rw [if_pos hi]
      have hk := (key_eq (x := x) rfl rfl).1 hi
      exact ⟨h1, h2l, h3, fun hb e he => h4 hb e (by simp [he])⟩
    · rw [if_neg hi]
      have hk : d.key ≠ x.key := fun e => hi ((key_eq (x := x) rfl rfl).2 e)
      cases b
      · have h3' := h3 rfl
        by_cases hx : x.key < d.key
        · simp only [hx, Bool.not_false, decide_true, Bool.and_self, if_true]
          refine ⟨?_, ?_, (fun hh => by cases hh), fun _ e he => ?_⟩
          · rw [List.pairwise_append, List.pairwise_append]
            refine ⟨⟨h1, by simp, fun a ha c hc => ?_⟩, by simp, fun a ha c hc => ?_⟩
            · rw [List.mem_singleton] at hc
              rw [hc]
              exact h3' a ha
            · rw [List.mem_singleton] at hc
              rw [hc]
              rcases List.mem_append.1 ha with ha | ha
              · exact h2d a ha
              · rw [List.mem_singleton] at ha
                rw [ha]
                exact hx
          · intro a ha e he
            have hde := hl.1 e he
            rcases List.mem_append.1 ha with ha | ha
            · rcases List.mem_append.1 ha with ha | ha
              · exact h2l a ha e he
              · rw [List.mem_singleton] at ha
                rw [ha]
                omega
            · rw [List.mem_singleton] at ha
              rw [ha]
              exact hde
          · have := hl.1 e he
            omega
        · simp only [hx, Bool.not_false, decide_false, Bool.and_false, Bool.false_eq_true, if_false]
          refine ⟨?_, ?_, (fun _ a ha => ?_), fun hh => by cases hh⟩
          · rw [List.pairwise_append]
            refine ⟨h1, by simp, fun a ha c hc => ?_⟩
            rw [List.mem_singleton] at hc
            rw [hc]
            exact h2d a ha
          · intro a ha e he
            rcases List.mem_append.1 ha with ha | ha
            · exact h2l a ha e he
            · rw [List.mem_singleton] at ha
              rw [ha]
              exact hl.1 e he
          · rcases List.mem_append.1 ha with ha | ha
            · exact h3' a ha
            · rw [List.mem_singleton] at ha
              rw [ha]
              omega
      · have h4' := h4 rfl
        simp only [Bool.not_true, Bool.false_and, Bool.false_eq_true, if_false]
        refine ⟨?_, ?_, (fun hh => by cases hh), fun _ e he => h4' e (by simp [he])⟩
        · rw [List.pairwise_append]
          refine ⟨h1, by simp, fun a ha c hc => ?_⟩
          rw [List.mem_singleton] at hc
          rw [hc]
          exact h2d a ha
        · intro a ha e he
          rcases List.mem_append.1 ha with ha | ha
          · exact h2l a ha e he
          · rw [List.mem_singleton] at ha
            rw [ha]
            exact hl.1 e he
theorem put_sorted (l : List Ent) (x : Ent) (hl : l.Pairwise fun a b => a.key < b.key) : (putL l x).Pairwise fun a b => a.key < b.key := by
  obtain ⟨h1, _, h3, _⟩ := putF_sorted x l hl ([], false) ⟨List.Pairwise.nil, ⟨fun a ha => absurd ha (by simp), ⟨fun _ a ha => absurd ha (by simp), fun h => absurd h (by simp)⟩⟩⟩
  change (putF x l).1.Pairwise _ at h1
  change (putF x l).2 = false → ∀ a ∈ (putF x l).1, a.key < x.key at h3
  unfold putL
  cases hb : (putF x l).2
  · rw [if_neg (by simp), List.pairwise_append]
    refine ⟨h1, by simp, fun a ha c hc => ?_⟩
    rw [List.mem_singleton] at hc
    rw [hc]
    exact h3 hb a ha
  · rw [if_pos rfl]
    exact h1
theorem same_put {L L' l : List Ent} (h : Same L l) {v : Int} {m : Mac6} {p : Int} {f : Bool} (hp : L'.Perm (⟨v, m, p, 0, f⟩ :: others v m L)) : Same L' (putL l ⟨v, m, p, 0, f⟩) := by
  refine ⟨?_, put_sorted l _ h.2⟩
  refine (put_perm l _).trans ?_
  have h1 := hp.map Ent.told
  refine List.Perm.trans ?_ h1.symm
  rw [List.map_cons]
  have e : (⟨v, m, p, 0, f⟩ : Ent).told = ⟨v, m, p, 0, f⟩ := by cases f <;> rfl
  rw [e]
  refine List.Perm.cons _ ?_
  have h2 : (others v m l).Perm (others v m (L.map Ent.told)) := h.1.filter _
  have h3 : others v m (L.map Ent.told) = (others v m L).map Ent.told := by
    unfold others
    rw [List.filter_map]
    rfl
  rw [h3] at h2
  exact h2

/-! ### what goes -/
theorem same_filter {L l : List Ent} (h : Same L l) {f g : Ent → Bool} (hf : ∀ e ∈ L, f e.told = g e) : Same (L.filter g) (l.filter f) := by
  refine ⟨?_, h.2.filter _⟩
  refine (h.1.filter f).trans ?_
  rw [List.filter_map]
  rw [List.filter_congr (p := f ∘ Ent.told) (q := g) (fun e he => hf e he)]
theorem keepW_clear (n : Int) (e : Ent) : keepW n (-1) e.told = Ent.stays (fun e => decide (n < e.age)) e := by
  unfold keepW Ent.stays Ent.goes Ent.told
  cases e.fixed
  · by_cases h : e.age ≤ n
    · have : ¬ n < e.age := by omega
      simp [h, this]
    · have : n < e.age := by omega
      simp [h, this]
  · simp
theorem keepW_drop {p : Int} (hp : 0 ≤ p) (e : Ent) : keepW 0 p e.told = Ent.stays (fun e => e.port == p) e := by
  have h1 : decide (p < 0) = false := decide_eq_false (by omega)
  unfold keepW Ent.stays Ent.goes Ent.told
  rw [h1, decide_eq_true hp]
  cases e.fixed
  · by_cases h : e.port = p <;> simp [h]
  · simp
theorem goes_len (f : Ent → Bool) (L : List Ent) : (L.length : Int) - ((L.filter (Ent.stays f)).length : Nat) = ((L.filter (Ent.goes f)).length : Nat) := by
  induction L with
  | nil => rfl
  | cons e L ih =>
    rw [List.filter_cons, List.filter_cons, List.length_cons]
    unfold Ent.stays at ih ⊢
    cases e.goes f <;> simp <;> omega
theorem same_clear {L l : List Ent} (h : Same L l) (n : Int) : Same (L.filter (Ent.stays fun e => decide (n < e.age))) (l.filter (keepW n (-1))) ∧ (l.length : Int) - ((l.filter (keepW n (-1))).length : Nat) = ((L.filter (Ent.goes fun e => decide (n < e.age))).length : Nat) := by
  have h1 := same_filter h (f := keepW n (-1)) (g := Ent.stays fun e => decide (n < e.age)) (fun e _ => keepW_clear n e)
  refine ⟨h1, ?_⟩
  rw [same_len h1, same_len h]
  exact goes_len _ L
theorem same_drop {L l : List Ent} (h : Same L l) {p : Int} (hp : 0 ≤ p) : Same (L.filter (Ent.stays fun e => e.port == p)) (l.filter (keepW 0 p)) ∧ (l.length : Int) - ((l.filter (keepW 0 p)).length : Nat) = ((L.filter (Ent.goes fun e => e.port == p)).length : Nat) := by
  have h1 := same_filter h (f := keepW 0 p) (g := Ent.stays fun e => e.port == p) (fun e _ => keepW_drop hp e)
  refine ⟨h1, ?_⟩
  rw [same_len h1, same_len h]
  exact goes_len _ L
theorem drop_none {L : List Ent} {n k : Nat} (hk : Kept n k L) {p : Int} (hp : p < 0) : L.filter (Ent.stays fun e => e.port == p) = L ∧ L.filter (Ent.goes fun e => e.port == p) = [] := by
  have hne : ∀ e ∈ L, (e.port == p) = false := fun e he => by
    have := (hk e he).1
    simp
    omega
  refine ⟨List.filter_eq_self.2 fun e he => ?_, List.filter_eq_nil_iff.2 fun e he => ?_⟩
  · unfold Ent.stays Ent.goes
    simp only [hne e he]
    simp
  · unfold Ent.goes
    simp only [hne e he]
    simp
theorem kept_filter {L : List Ent} {n k : Nat} (hk : Kept n k L) (f : Ent → Bool) : Kept n k (L.filter f) := fun e he => hk e (List.mem_filter.1 he).1
theorem same_tick {L l : List Ent} (h : Same L l) (a : Int) : Same (tickL a L) ((l.map agedR).filter (keepO a)) := by
  have key : ∀ e : Ent, (agedR e).key = e.key := fun e => by
    unfold agedR
    split <;> rfl
  refine ⟨?_, ?_⟩
  · refine ((h.1.map agedR).filter (keepO a)).trans ?_
    have e : ∀ L : List Ent, ((L.map Ent.told).map agedR).filter (keepO a) = (tickL a L).map Ent.told := by
      intro L
      unfold tickL
      induction L with
      | nil => rfl
      | cons e L ih =>
        rw [List.map_cons, List.map_cons, List.map_cons, List.filter_cons, List.filter_cons, ih]
        have e1 : keepO a (agedR e.told) = Ent.stays (fun e => decide (a ≤ e.age)) e.older := by
          unfold keepO agedR Ent.stays Ent.goes Ent.told Ent.older
          cases hf : e.fixed
          · by_cases h : e.age + 1 < a
            · have : ¬ a ≤ e.age + 1 := by omega
              simp [hf, h, this]
            · have : a ≤ e.age + 1 := by omega
              simp [hf, h, this]
          · simp [hf]
        have e2 : agedR e.told = e.older.told := by
          unfold agedR Ent.told Ent.older
          cases hf : e.fixed <;> simp [hf]
        rw [e1]
        cases Ent.stays (fun e => decide (a ≤ e.age)) e.older
        · simp
        · simp [e2]
    rw [e]
  · refine List.Pairwise.filter _ ?_
    rw [List.pairwise_map]
    exact h.2.imp fun {x y} hxy => by rw [key, key]; exact hxy

/-! ### where one is -/
theorem same_hit {L l : List Ent} (h : Same L l) (honce : ∀ a ∈ L, ∀ b ∈ L, a.v = b.v → a.m = b.m → a = b) {e0 : Ent} (he : e0 ∈ L) {i : Nat} (hi : i < l.length) (his : l[i].is e0.v e0.m = true) : l[i].port = e0.port := by
  obtain ⟨e1, he1, h1⟩ := List.mem_map.1 (h.1.mem_iff.1 (List.getElem_mem hi))
  rw [← h1] at his ⊢
  obtain ⟨k1, k2⟩ := is_true.1 his
  have := honce e1 he1 e0 he k1 k2
  rw [this]
  rfl
theorem same_in {L l : List Ent} (h : Same L l) {e0 : Ent} (he : e0 ∈ L) (hno : ∀ x ∈ l, x.is e0.v e0.m = false) : False := by
  have := hno e0.told (h.1.mem_iff.2 (List.mem_map.2 ⟨e0, he, rfl⟩))
  rw [told_is, is_true.2 ⟨rfl, rfl⟩] at this
  cases this
theorem same_out {L l : List Ent} (h : Same L l) {v : Int} {m : Mac6} (hn : ¬ HasKey L v m) {i : Nat} (hi : i < l.length) (his : l[i].is v m = true) : False := by
  obtain ⟨e1, he1, h1⟩ := List.mem_map.1 (h.1.mem_iff.1 (List.getElem_mem hi))
  rw [← h1] at his
  obtain ⟨k1, k2⟩ := is_true.1 his
  exact hn ⟨e1, he1, k1, k2⟩
theorem same_nil : Same [] [] := ⟨.nil, .nil⟩
end Go.Proofs.Ytcdklbhfcfamnaa
