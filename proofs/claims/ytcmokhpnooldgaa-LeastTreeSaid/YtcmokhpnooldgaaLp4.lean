/- The links both ends of which forward make a tree: what LeastTree counts. By an AI agent. -/
import Derived.Test.YtcmokhpnooldgaaLp3
namespace Go.Proofs.Ytcmokhpnooldgaa

theorem SV.better_cost {v u : SV} (h : v.better u = true) (e : v.r = u.r) : v.c ≤ u.c := by
  unfold SV.better at h
  rw [Vec.better_iff, e, Ord.lt_irrefl] at h
  rcases h with h | ⟨_, h | ⟨h, _⟩⟩
  · cases h
  · omega
  · omega
theorem SV.better_less {v u : SV} (e : v.r = u.r) (h : v.c < u.c) : v.better u = true := by
  unfold SV.better
  rw [Vec.better_iff]
  exact .inr ⟨by rw [e], .inl h⟩
theorem Walk.final {N : LN} {s i : Nat} {c : Int} (h : Walk N s i c) (hne : s ≠ i) : ∃ e ∈ N.dirs, ∃ c', e.j = i ∧ Walk N s e.i c' ∧ c = c' + N.cost e := by
  cases h with
  | nil => exact absurd rfl hne
  | snoc hw hd => exact ⟨_, hd, _, rfl, hw, rfl⟩
theorem tree_root {N : LN} {R : List Nat} {D q : List Int} (h : Sol N R D q) {i : Nat} (hi : i < N.ids.length) (hq : 0 ≤ q.getD i 0) : R.getD i 0 ≠ i := fun e => by
  have := h.ports.root i hi e
  omega
theorem tree_near {N : LN} {R : List Nat} {D q : List Int} (h : Sol N R D q) {d : Lk} (hd : d ∈ N.dirs) : R.getD d.i 0 = R.getD d.j 0 ∧ D.getD d.j 0 ≤ D.getD d.i 0 + N.cost d := by
  have h1 := h.ok.from_lt hd
  have h2 := h.ok.to_lt hd
  have e := h.roots.same h.ok h1.2.1 (conn_edge hd)
  refine ⟨e, h.dist.least d.j _ h2.2.1 ?_⟩
  rw [← e]
  exact .snoc (h.dist.walk d.i h1.2.1) hd

/-- d goes from a bridge's parent to the bridge, by its root port -/
def Kid (R : List Nat) (q : List Int) (d : Lk) : Prop := R.getD d.j 0 ≠ d.j ∧ q.getD d.j 0 = d.q
theorem Sol.kid {N : LN} {R : List Nat} {D q : List Int} (h : Sol N R D q) {d : Lk} (hd : d ∈ N.dirs) (hk : Kid R q d) : D.getD d.j 0 = D.getD d.i 0 + N.cost d := by
  have h2 := h.ok.to_lt hd
  obtain ⟨d0, hd0, hj, hq, hb⟩ := h.ports.port d.j h2.2.1 hk.1
  have h20 := h.ok.to_lt hd0
  have hj' : d0.b.toNat = d.b.toNat := hj
  obtain rfl : d0 = d := to_uniq h.ok hd0 hd (by omega) (by rw [← hq, hk.2])
  have hn := (tree_near h hd).2
  obtain ⟨e, he, c', hej, hw, hc⟩ := (h.dist.walk d0.j h2.2.1).final hk.1
  have hle : D.getD e.i 0 ≤ c' := h.dist.least e.i c' (h.ok.from_lt he).2.1 (by rw [(tree_near h he).1, hej]; exact hw)
  have hbest : D.getD d0.i 0 + N.cost d0 ≤ D.getD e.i 0 + N.cost e := by
    rcases hb e he hej with rfl | hb
    · exact Int.le_refl _
    · exact SV.better_cost hb (by unfold hearV; rw [hej])
  omega
theorem Sol.kid_forw {N : LN} {R : List Nat} {D q : List Int} (h : Sol N R D q) {d : Lk} (hd : d ∈ N.dirs) (hk : Kid R q d) : forwB N D q d.a d.p = true ∧ forwB N D q d.b d.q = true := by
  have hc := h.ok.cost_le hd
  have e := h.kid hd hk
  constructor
  · have := forwB_some h.ok D q (dirs_turn hd)
    refine (show forwB N D q d.turn.b d.turn.q = true from ?_)
    rw [this, Bool.or_eq_true]
    exact .inl (SV.better_less rfl (show D.getD d.i 0 < D.getD d.j 0 by omega))
  · rw [forwB_some h.ok D q hd, hk.2]
    simp
theorem Sol.forw_kid {N : LN} {R : List Nat} {D q : List Int} (h : Sol N R D q) {d : Lk} (hd : d ∈ N.dirs) (h1 : forwB N D q d.a d.p = true) (h2 : forwB N D q d.b d.q = true) : Kid R q d ∨ Kid R q d.turn := by
  have f1 := h.ok.from_lt hd
  have f2 := h.ok.to_lt hd
  have h1 : forwB N D q d.turn.b d.turn.q = true := h1
  rw [forwB_some h.ok D q (dirs_turn hd), Bool.or_eq_true] at h1
  rw [forwB_some h.ok D q hd, Bool.or_eq_true] at h2
  rcases h2 with h2 | h2
  · rcases h1 with h1 | h1
    · have h1 : (tellV N D d.i d.p).better (tellV N D d.j d.q) = true := h1
      rw [SV.better_asymm h2] at h1
      cases h1
    · have h1 : q.getD d.i 0 = d.p := eq_of_beq h1
      have h0 : 0 ≤ q.getD d.i 0 := by rw [h1]; exact f1.2.2.1
      exact .inr ⟨tree_root h f1.2.1 h0, h1⟩
  · have h2 : q.getD d.j 0 = d.q := eq_of_beq h2
    have h0 : 0 ≤ q.getD d.j 0 := by rw [h2]; exact f2.2.2.1
    exact .inl ⟨tree_root h f2.2.1 h0, h2⟩
theorem dirs_nodup {N : LN} (h : N.Ok) : N.dirs.Nodup := List.Pairwise.of_map Lk.fr (fun _ _ h e => h (congrArg _ e)) h.once
theorem dirs_at {N : LN} {m : Nat} (hm : m < N.links.length) : N.dirs[2 * m]? = some (N.lk m) ∧ N.dirs[2 * m + 1]? = some (N.lk m).turn := dirs_get_of N.links m hm
theorem lk_uniq {N : LN} (h : N.Ok) {m m' : Nat} (hm : m < N.links.length) (hm' : m' < N.links.length) {d : Lk} (h1 : d = N.lk m ∨ d = (N.lk m).turn) (h2 : d = N.lk m' ∨ d = (N.lk m').turn) : m = m' := by
  have e := dirs_len N
  have key : ∀ m, m < N.links.length → (d = N.lk m ∨ d = (N.lk m).turn) → ∃ x, x < N.dirs.length ∧ x / 2 = m ∧ N.dirs[x]? = some d := fun m hm h => by
    have h3 := dirs_at hm
    rcases h with rfl | rfl
    · exact ⟨2 * m, by omega, by omega, h3.1⟩
    · exact ⟨2 * m + 1, by omega, by omega, h3.2⟩
  obtain ⟨x, hx, ex, h3⟩ := key m hm h1
  obtain ⟨y, hy, ey, h4⟩ := key m' hm' h2
  have : x = y := (List.getElem?_inj hx (dirs_nodup h)).1 (h3.trans h4.symm)
  omega
theorem lk_dirs {N : LN} {m : Nat} (hm : m < N.links.length) {d : Lk} (h1 : d = N.lk m ∨ d = (N.lk m).turn) : d ∈ N.dirs := by
  rcases h1 with rfl | rfl
  · exact List.mem_of_getElem? (dirs_at hm).1
  · exact List.mem_of_getElem? (dirs_at hm).2

/-- what is united when k links are through: S, the bridges whose way up is in; t, where each bridge's ways up end -/
structure TreeI (N : LN) (R : List Nat) (D q : List Int) (k : Nat) (one : List Int) (S : List Nat) (t : Nat → Nat) : Prop where
  len : one.length = N.ids.length
  nd : S.Nodup
  mem : ∀ x, x ∈ S ↔ ∃ m d, m < k ∧ (d = N.lk m ∨ d = (N.lk m).turn) ∧ Kid R q d ∧ d.j = x
  tlt : ∀ i, i < N.ids.length → t i < N.ids.length
  same : ∀ i j, i < N.ids.length → j < N.ids.length → (one.getD i 0 = one.getD j 0 ↔ t i = t j)
  out : ∀ i, i < N.ids.length → t i ∉ S
  le : ∀ i, i < N.ids.length → D.getD (t i) 0 ≤ D.getD i 0
  root : ∀ i, i < N.ids.length → R.getD (t i) 0 = R.getD i 0
  own : ∀ i, i < N.ids.length → i ∉ S → t i = i
def startT (n : Nat) : List Int := (List.range n).map fun i : Nat => (i : Int)
theorem startT_get {n i : Nat} (h : i < n) : (startT n).getD i 0 = i := by simp [startT, h]
theorem tree_start (N : LN) (R : List Nat) (D q : List Int) : TreeI N R D q 0 (startT N.ids.length) [] id := by
  refine ⟨by simp [startT], by simp, fun x => ⟨fun h => (by cases h), fun ⟨m, d, h, _⟩ => absurd h (Nat.not_lt_zero _)⟩, fun i h => h, fun i j hi hj => ?_, fun i h h' => (by cases h'), fun i h => Int.le_refl _, fun i h => rfl, fun i h _ => rfl⟩
  rw [startT_get hi, startT_get hj]
  show _ ↔ i = j
  omega
theorem TreeI.skip {N : LN} {R : List Nat} {D q : List Int} (hs : Sol N R D q) {k : Nat} {one : List Int} {S : List Nat} {t : Nat → Nat} (h : TreeI N R D q k one S t) (hk : k < N.links.length)
    (hn : ¬ (forwB N D q (N.lk k).a (N.lk k).p = true ∧ forwB N D q (N.lk k).b (N.lk k).q = true)) : TreeI N R D q (k + 1) one S t := by
  refine ⟨h.len, h.nd, fun x => ?_, h.tlt, h.same, h.out, h.le, h.root, h.own⟩
  rw [h.mem]
  refine ⟨fun ⟨m, d, hm, h'⟩ => ⟨m, d, by omega, h'⟩, fun ⟨m, d, hm, hd, hkid, hj⟩ => ⟨m, d, ?_, hd, hkid, hj⟩⟩
  by_cases e : m = k
  · subst e
    have hmem := lk_dirs hk hd
    have hb := hs.kid_forw hmem hkid
    rcases hd with rfl | rfl
    · exact absurd hb hn
    · exact absurd (And.intro hb.2 hb.1) hn
  · omega
theorem tree_merge {a b oi oj oc op : Int} {ti tj tc tp : Nat} (hab : a = op ∧ b = oc ∨ a = oc ∧ b = op) (e1 : oi = oj ↔ ti = tj) (e2 : oi = oc ↔ ti = tc) (e3 : oi = op ↔ ti = tp) (e4 : oj = oc ↔ tj = tc) (e5 : oj = op ↔ tj = tp) (hne : tc ≠ tp) :
    ((if oi = b then a else oi) = (if oj = b then a else oj)) ↔ ((if ti = tc then tp else ti) = (if tj = tc then tp else tj)) := by
  rcases hab with ⟨rfl, rfl⟩ | ⟨rfl, rfl⟩
  · simp only [e2, e4]
    (repeat' split) <;> omega
  · simp only [e3, e5]
    (repeat' split) <;> omega
theorem TreeI.join {N : LN} {R : List Nat} {D q : List Int} (hs : Sol N R D q) {k : Nat} {one : List Int} {S : List Nat} {t : Nat → Nat} (h : TreeI N R D q k one S t) (hk : k < N.links.length) {d : Lk} (hd : d = N.lk k ∨ d = (N.lk k).turn) (hkid : Kid R q d)
    {a b : Int} (hab : a = one.getD d.i 0 ∧ b = one.getD d.j 0 ∨ a = one.getD d.j 0 ∧ b = one.getD d.i 0) :
    one.getD d.i 0 ≠ one.getD d.j 0 ∧ ∃ S' t', S'.length = S.length + 1 ∧ TreeI N R D q (k + 1) (one.map fun x => if x = b then a else x) S' t' := by
  have hmem := lk_dirs hk hd
  have f1 := hs.ok.from_lt hmem
  have f2 := hs.ok.to_lt hmem
  have hc := hs.ok.cost_le hmem
  have e := hs.kid hmem hkid
  have hnot : d.j ∉ S := fun hm => by
    obtain ⟨m, d', hm, hd', hkid', hj⟩ := (h.mem _).1 hm
    have hmem' := lk_dirs (show m < N.links.length by omega) hd'
    have f2' := hs.ok.to_lt hmem'
    have hj' : d'.b.toNat = d.b.toNat := hj
    obtain rfl : d' = d := to_uniq hs.ok hmem' hmem (by omega) (by rw [← hkid'.2, ← hkid.2, hj])
    have := lk_uniq hs.ok (show m < N.links.length by omega) hk hd' hd
    omega
  have hown := h.own _ f2.2.1 hnot
  have hle := h.le _ f1.2.1
  have hne : t d.j ≠ t d.i := fun e' => by
    rw [hown] at e'
    rw [← e'] at hle
    omega
  refine ⟨fun e' => hne ((h.same _ _ f1.2.1 f2.2.1).1 e').symm, d.j :: S, fun i => if t i = t d.j then t d.i else t i, rfl, ?_⟩
  refine ⟨by rw [List.length_map]; exact h.len, List.nodup_cons.2 ⟨hnot, h.nd⟩, fun x => ?_, fun i hi => ?_, fun i j hi hj => ?_, fun i hi => ?_, fun i hi => ?_, fun i hi => ?_, fun i hi hni => ?_⟩
  · rw [List.mem_cons, h.mem]
    constructor
    · rintro (rfl | ⟨m, d', hm, h'⟩)
      · exact ⟨k, d, by omega, hd, hkid, rfl⟩
      · exact ⟨m, d', by omega, h'⟩
    · rintro ⟨m, d', hm, hd', hkid', hj⟩
      by_cases ek : m = k
      · subst ek
        refine .inl ?_
        rcases hd with rfl | rfl <;> rcases hd' with rfl | rfl
        · exact hj.symm
        · have := hs.kid (dirs_turn hmem) hkid'
          have hc' := hs.ok.cost_le (dirs_turn hmem)
          have this : D.getD (N.lk m).i 0 = D.getD (N.lk m).j 0 + N.cost (N.lk m).turn := this
          omega
        · have hmem' := lk_dirs hk (Or.inl rfl)
          have := hs.kid hmem' hkid'
          have hc' := hs.ok.cost_le hmem'
          have e : D.getD (N.lk m).i 0 = D.getD (N.lk m).j 0 + N.cost (N.lk m).turn := e
          omega
        · exact hj.symm
      · exact .inr ⟨m, d', by omega, hd', hkid', hj⟩
  · show (if t i = t d.j then t d.i else t i) < _
    split
    · exact h.tlt _ f1.2.1
    · exact h.tlt _ hi
  · have g : ∀ i, i < N.ids.length → (one.map fun x => if x = b then a else x).getD i 0 = if one.getD i 0 = b then a else one.getD i 0 := fun i hi => by
      rw [← h.len] at hi
      simp [hi]
    rw [g i hi, g j hj]
    exact tree_merge hab (h.same i j hi hj) (h.same i _ hi f2.2.1) (h.same i _ hi f1.2.1) (h.same j _ hj f2.2.1) (h.same j _ hj f1.2.1) hne
  · show (if t i = t d.j then t d.i else t i) ∉ d.j :: S
    rw [List.mem_cons, not_or]
    split
    · exact ⟨fun e' => hne (by rw [hown, e']), h.out _ f1.2.1⟩
    · rename_i hx
      exact ⟨fun e' => hx (by rw [hown, e']), h.out _ hi⟩
  · show D.getD (if t i = t d.j then t d.i else t i) 0 ≤ _
    split
    · rename_i hx
      have h3 := h.le i hi
      rw [hx, hown] at h3
      omega
    · exact h.le _ hi
  · show R.getD (if t i = t d.j then t d.i else t i) 0 = _
    split
    · rename_i hx
      rw [h.root _ f1.2.1, (tree_near hs hmem).1, ← h.root i hi, hx, hown]
    · exact h.root _ hi
  · rw [List.mem_cons, not_or] at hni
    show (if t i = t d.j then t d.i else t i) = i
    rw [h.own i hi hni.2, hown, if_neg hni.1]
theorem TreeI.take {N : LN} {R : List Nat} {D q : List Int} (hs : Sol N R D q) {k : Nat} {one : List Int} {S : List Nat} {t : Nat → Nat} (h : TreeI N R D q k one S t) (hk : k < N.links.length)
    (h1 : forwB N D q (N.lk k).a (N.lk k).p = true) (h2 : forwB N D q (N.lk k).b (N.lk k).q = true) :
    one.getD (N.lk k).i 0 ≠ one.getD (N.lk k).j 0 ∧ ∃ S' t', S'.length = S.length + 1 ∧ TreeI N R D q (k + 1) (one.map fun x => if x = one.getD (N.lk k).j 0 then one.getD (N.lk k).i 0 else x) S' t' := by
  rcases hs.forw_kid (lk_dirs hk (.inl rfl)) h1 h2 with hkid | hkid
  · exact h.join hs hk (.inl rfl) hkid (.inl ⟨rfl, rfl⟩)
  · have := h.join hs hk (.inr rfl) hkid (a := one.getD (N.lk k).i 0) (b := one.getD (N.lk k).j 0) (.inr ⟨rfl, rfl⟩)
    exact ⟨fun e => this.1 e.symm, this.2⟩

def nTrees (R : List Nat) : Nat → Nat
  | 0 => 0
  | k + 1 => nTrees R k + if R.getD k 0 = k then 1 else 0
theorem nTrees_le (R : List Nat) : ∀ k, nTrees R k ≤ k
  | 0 => Nat.le_refl _
  | k + 1 => by
    have := nTrees_le R k
    show nTrees R k + (if R.getD k 0 = k then 1 else 0) ≤ k + 1
    split <;> omega
theorem tree_count (R : List Nat) : ∀ (n : Nat) (S : List Nat), S.Nodup → (∀ x, x ∈ S ↔ x < n ∧ R.getD x 0 ≠ x) → S.length + nTrees R n = n
  | 0, S, _, h => by
    have : S = [] := List.eq_nil_iff_forall_not_mem.2 fun x hx => absurd ((h x).1 hx).1 (Nat.not_lt_zero _)
    rw [this]
    rfl
  | n + 1, S, hn, h => by
    show S.length + (nTrees R n + if R.getD n 0 = n then 1 else 0) = n + 1
    by_cases e : R.getD n 0 = n
    · have := tree_count R n S hn fun x => by
        rw [h x]
        refine ⟨fun ⟨h1, h2⟩ => ⟨?_, h2⟩, fun ⟨h1, h2⟩ => ⟨by omega, h2⟩⟩
        by_cases ex : x = n
        · subst ex; exact absurd e h2
        · omega
      rw [if_pos e]
      omega
    · have hm : n ∈ S := (h n).2 ⟨by omega, e⟩
      have := tree_count R n (S.erase n) (hn.erase n) fun x => by
        rw [hn.mem_erase_iff, h x]
        refine ⟨fun ⟨h1, h2, h3⟩ => ⟨by omega, h3⟩, fun ⟨h1, h2⟩ => ⟨by omega, by omega, h2⟩⟩
      rw [List.length_erase_of_mem hm] at this
      have := List.length_pos_of_mem hm
      rw [if_neg e]
      omega
theorem TreeI.fin {N : LN} {R : List Nat} {D q : List Int} (hs : Sol N R D q) {one : List Int} {S : List Nat} {t : Nat → Nat} (h : TreeI N R D q N.links.length one S t) :
    S.length + nTrees R N.ids.length = N.ids.length ∧ ∀ d ∈ N.dirs, one.getD d.i 0 = one.getD d.j 0 := by
  have hm : ∀ x, x ∈ S ↔ x < N.ids.length ∧ R.getD x 0 ≠ x := fun x => by
    rw [h.mem]
    constructor
    · rintro ⟨m, d, hm, hd, hkid, rfl⟩
      exact ⟨(hs.ok.to_lt (lk_dirs hm hd)).2.1, hkid.1⟩
    · rintro ⟨hx, hr⟩
      obtain ⟨d, hd, rfl, hq, _⟩ := hs.ports.port x hx hr
      obtain ⟨l, hl, hd'⟩ := mem_dirs.1 hd
      obtain ⟨m, hm, rfl⟩ := List.mem_iff_getElem.1 hl
      have el : N.lk m = N.links[m] := by unfold LN.lk; simp [hm]
      exact ⟨m, d, hm, by rw [el]; exact hd', ⟨hr, hq⟩, rfl⟩
  refine ⟨tree_count R _ S h.nd hm, fun d hd => ?_⟩
  have f1 := hs.ok.from_lt hd
  have f2 := hs.ok.to_lt hd
  have top : ∀ i, i < N.ids.length → t i = R.getD i 0 := fun i hi => by
    have h1 := h.out i hi
    rw [hm] at h1
    have h2 := h.tlt i hi
    have h3 : R.getD (t i) 0 = t i := by
      by_cases e : R.getD (t i) 0 = t i
      · exact e
      · exact absurd ⟨h2, e⟩ h1
    rw [← h3, h.root i hi]
  rw [h.same _ _ f1.2.1 f2.2.1, top _ f1.2.1, top _ f2.2.1, (tree_near hs hd).1]
end Go.Proofs.Ytcmokhpnooldgaa
