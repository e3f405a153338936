/- Distances, as a plain law: walks, ways without a circle, rounds of relaxing. By an AI agent. -/
import Derived.Test.YtcmokhpnooldgaaLn8
namespace Go.Proofs.Ytcmokhpnooldgaa

/-- a walk over links from s, and what it costs -/
inductive Walk (N : LN) (s : Nat) : Nat → Int → Prop
  | nil : Walk N s s 0
  | snoc {d : Lk} {c : Int} : Walk N s d.i c → d ∈ N.dirs → Walk N s d.j (c + N.cost d)
/-- a walk that comes nowhere twice: where it ends, where it was ahead of that -/
inductive SPath (N : LN) (s : Nat) : Nat → List Nat → Int → Prop
  | one : SPath N s s [] 0
  | ext {d : Lk} {l : List Nat} {c : Int} : SPath N s d.i l c → d ∈ N.dirs → d.j ∉ d.i :: l → SPath N s d.j (d.i :: l) (c + N.cost d)

theorem LN.Ok.cost_le {N : LN} (h : N.Ok) {d : Lk} (hd : d ∈ N.dirs) : 1 ≤ N.cost d ∧ N.cost d ≤ 65535 := by
  have h1 := h.to_lt hd
  have h2 := h.cost (N.cs d.j) (LN.cs_mem (by have := h.len; omega))
  unfold okCosts at h2
  simp only [Bool.and_eq_true, List.all_eq_true] at h2
  have h3 := h2.2 _ (getD_mem18 h1.2.2.2)
  unfold okCost at h3
  exact of_decide_eq_true h3
theorem Walk.conn {N : LN} {s i : Nat} {c : Int} (h : Walk N s i c) : Conn N s i := by
  induction h with
  | nil => exact .refl _
  | snoc _ hd ih => exact .step ih hd
theorem Conn.walk {N : LN} {s i : Nat} (h : Conn N s i) : ∃ c, Walk N s i c := by
  induction h with
  | refl => exact ⟨0, .nil⟩
  | step _ hd ih =>
    obtain ⟨c, hc⟩ := ih
    exact ⟨_, .snoc hc hd⟩
theorem Walk.nonneg {N : LN} (hok : N.Ok) {s i : Nat} {c : Int} (h : Walk N s i c) : 0 ≤ c ∧ (c = 0 → i = s) := by
  induction h with
  | nil => exact ⟨Int.le_refl _, fun _ => rfl⟩
  | snoc _ hd ih =>
    have := hok.cost_le hd
    exact ⟨by omega, fun h => by omega⟩
theorem SPath.walk {N : LN} {s i : Nat} {l : List Nat} {c : Int} (h : SPath N s i l c) : Walk N s i c := by
  induction h with
  | one => exact .nil
  | ext _ hd _ ih => exact .snoc ih hd
theorem SPath.cut {N : LN} (hok : N.Ok) {s i : Nat} {l : List Nat} {c : Int} (h : SPath N s i l c) : ∀ j ∈ i :: l, ∃ l' c', SPath N s j l' c' ∧ c' ≤ c := by
  induction h with
  | one =>
    intro j hj
    simp only [List.mem_singleton] at hj
    subst hj
    exact ⟨[], 0, .one, Int.le_refl _⟩
  | @ext d l c hp hd hn ih =>
    intro j hj
    rcases List.mem_cons.1 hj with rfl | hj
    · exact ⟨_, _, .ext hp hd hn, Int.le_refl _⟩
    · obtain ⟨l', c', h1, h2⟩ := ih j hj
      have := hok.cost_le hd
      exact ⟨l', c', h1, by omega⟩
theorem Walk.path {N : LN} (hok : N.Ok) {s i : Nat} {c : Int} (h : Walk N s i c) : ∃ l c', SPath N s i l c' ∧ c' ≤ c := by
  induction h with
  | nil => exact ⟨[], 0, .one, Int.le_refl _⟩
  | @snoc d c _ hd ih =>
    obtain ⟨l, c', h1, h2⟩ := ih
    have hc := hok.cost_le hd
    by_cases hm : d.j ∈ d.i :: l
    · obtain ⟨l', c'', h3, h4⟩ := h1.cut hok d.j hm
      exact ⟨l', c'', h3, by omega⟩
    · exact ⟨_, _, .ext h1 hd hm, by omega⟩
theorem nodup_len : ∀ (n : Nat) (l : List Nat), l.Nodup → (∀ x ∈ l, x < n) → l.length ≤ n
  | 0, l, _, h => by
    cases l with
    | nil => exact Nat.le_refl _
    | cons a l => exact absurd (h a (by simp)) (Nat.not_lt_zero _)
  | n + 1, l, hn, h => by
    have ih := nodup_len n (l.erase n) (hn.erase n) (fun x hx => by
      have h1 := (hn.mem_erase_iff).1 hx
      have h2 := h x h1.2
      have h3 := h1.1
      omega)
    by_cases hm : n ∈ l
    · rw [List.length_erase_of_mem hm] at ih
      omega
    · rw [List.erase_of_not_mem hm] at ih
      omega
theorem SPath.nodup {N : LN} (hok : N.Ok) {s i : Nat} {l : List Nat} {c : Int} (h : SPath N s i l c) (hs : s < N.ids.length) : (i :: l).Nodup ∧ (∀ x ∈ i :: l, x < N.ids.length) ∧ 0 ≤ c ∧ c ≤ 65535 * (l.length : Int) := by
  induction h with
  | one => exact ⟨by simp, by simp [hs], Int.le_refl _, by simp⟩
  | @ext d l c hp hd hn ih =>
    obtain ⟨h1, h2, h3, h4⟩ := ih
    have hc := hok.cost_le hd
    refine ⟨List.nodup_cons.2 ⟨hn, h1⟩, fun x hx => ?_, by omega, ?_⟩
    · rcases List.mem_cons.1 hx with rfl | hx
      · exact (hok.to_lt hd).2.1
      · exact h2 x hx
    · rw [List.length_cons]
      omega
theorem SPath.short {N : LN} (hok : N.Ok) {s i : Nat} {l : List Nat} {c : Int} (h : SPath N s i l c) (hs : s < N.ids.length) : l.length + 1 ≤ N.ids.length ∧ 0 ≤ c ∧ c ≤ 1000000 := by
  obtain ⟨h1, h2, h3, h4⟩ := h.nodup hok hs
  have := nodup_len _ _ h1 h2
  rw [List.length_cons] at this
  have := hok.n16
  exact ⟨by omega, h3, by omega⟩

/-- rounds over all links -/
def rounds18 {σ : Type} (step : σ → Lk → σ) (ds : List Lk) : Nat → σ → σ
  | 0, s => s
  | k + 1, s => ds.foldl step (rounds18 step ds k s)
section
variable {σ : Type} {N : LN} {step : σ → Lk → σ} {I : σ → Prop} {LE : σ → Nat → Int → Prop}
theorem fold_inv (hI : ∀ s d, d ∈ N.dirs → I s → I (step s d)) : ∀ (ds : List Lk) (s : σ), (∀ d ∈ ds, d ∈ N.dirs) → I s → I (ds.foldl step s)
  | [], _, _, h => h
  | d :: ds, s, hd, h => fold_inv hI ds _ (fun x hx => hd x (List.mem_cons_of_mem _ hx)) (hI s d (hd d (by simp)) h)
theorem rounds_inv (hI : ∀ s d, d ∈ N.dirs → I s → I (step s d)) (s : σ) (h : I s) : ∀ k, I (rounds18 step N.dirs k s)
  | 0 => h
  | k + 1 => fold_inv hI _ _ (fun _ hd => hd) (rounds_inv hI s h k)
theorem fold_le (hI : ∀ s d, d ∈ N.dirs → I s → I (step s d)) (mono : ∀ s d i c, I s → d ∈ N.dirs → LE s i c → LE (step s d) i c) : ∀ (ds : List Lk) (s : σ) (i : Nat) (c : Int), (∀ d ∈ ds, d ∈ N.dirs) → I s → LE s i c → LE (ds.foldl step s) i c
  | [], _, _, _, _, _, h => h
  | d :: ds, s, i, c, hd, hi, h => fold_le hI mono ds _ i c (fun x hx => hd x (List.mem_cons_of_mem _ hx)) (hI s d (hd d (by simp)) hi) (mono s d i c hi (hd d (by simp)) h)
theorem fold_relax (hI : ∀ s d, d ∈ N.dirs → I s → I (step s d)) (mono : ∀ s d i c, I s → d ∈ N.dirs → LE s i c → LE (step s d) i c) (relax : ∀ s d c, I s → d ∈ N.dirs → LE s d.i c → LE (step s d) d.j (c + N.cost d)) :
    ∀ (ds : List Lk) (s : σ) (c : Int), (∀ d ∈ ds, d ∈ N.dirs) → I s → ∀ d ∈ ds, LE s d.i c → LE (ds.foldl step s) d.j (c + N.cost d)
  | [], _, _, _, _, d, hd, _ => by cases hd
  | e :: ds, s, c, hds, hi, d, hd, h => by
    have he := hds e (by simp)
    have hds' := fun x hx => hds x (List.mem_cons_of_mem _ hx)
    rcases List.mem_cons.1 hd with rfl | hd
    · exact fold_le hI mono ds _ _ _ hds' (hI s d he hi) (relax s d c hi he h)
    · exact fold_relax hI mono relax ds _ c hds' (hI s e he hi) d hd (mono s e _ _ hi he h)
theorem bellman (hI : ∀ s d, d ∈ N.dirs → I s → I (step s d)) (mono : ∀ s d i c, I s → d ∈ N.dirs → LE s i c → LE (step s d) i c) (relax : ∀ s d c, I s → d ∈ N.dirs → LE s d.i c → LE (step s d) d.j (c + N.cost d))
    (s0 : σ) (h0 : I s0) {s i : Nat} {l : List Nat} {c : Int} (hp : SPath N s i l c) (hs : LE s0 s 0) : ∀ k, l.length ≤ k → LE (rounds18 step N.dirs k s0) i c := by
  have up : ∀ i c, LE s0 i c → ∀ k, LE (rounds18 step N.dirs k s0) i c := fun i c h k => by
    induction k with
    | zero => exact h
    | succ k ih => exact fold_le hI mono _ _ _ _ (fun _ hd => hd) (rounds_inv hI s0 h0 k) ih
  induction hp with
  | one => exact fun k _ => up _ _ hs k
  | @ext d l c _ hd _ ih =>
    intro k hk
    rw [List.length_cons] at hk
    obtain ⟨k', rfl⟩ : ∃ k', k = k' + 1 := ⟨k - 1, by omega⟩
    exact fold_relax hI mono relax _ _ c (fun _ h => h) (rounds_inv hI s0 h0 k') d hd (ih k' (by omega))
end

/-- d is each bridge's distance from its root -/
structure IsDist (N : LN) (r : List Nat) (d : List Int) : Prop where
  len : d.length = N.ids.length
  walk : ∀ i, i < N.ids.length → Walk N (r.getD i 0) i (d.getD i 0)
  least : ∀ i c, i < N.ids.length → Walk N (r.getD i 0) i c → d.getD i 0 ≤ c
theorem IsDist.uniq {N : LN} {r : List Nat} {d d' : List Int} (h : IsDist N r d) (h' : IsDist N r d') : d = d' := by
  refine List.ext_getElem (by rw [h.len, h'.len]) fun i h1 h2 => ?_
  have hi : i < N.ids.length := by rw [← h.len]; exact h1
  have e1 := h.least i _ hi (h'.walk i hi)
  have e2 := h'.least i _ hi (h.walk i hi)
  have e : d.getD i 0 = d'.getD i 0 := by omega
  simpa [h1, h2] using e
/-- what holds of distances at any time -/
structure DInv (N : LN) (r : List Nat) (s : List Int) : Prop where
  len : s.length = N.ids.length
  bd : ∀ i, i < N.ids.length → 0 ≤ s.getD i 0 ∧ s.getD i 0 ≤ 1099511627776
  walk : ∀ i, i < N.ids.length → s.getD i 0 = 1099511627776 ∨ Walk N (r.getD i 0) i (s.getD i 0)
def startD (r : List Nat) : List Int := (List.range r.length).map fun i => if r.getD i 0 = i then 0 else 1099511627776
theorem startD_get {r : List Nat} {i : Nat} (h : i < r.length) : (startD r).getD i 0 = if r.getD i 0 = i then 0 else 1099511627776 := by simp [startD, h]
theorem dinv_start {N : LN} {r : List Nat} (hr : IsRoots N r) : DInv N r (startD r) := by
  have g : ∀ i, i < N.ids.length → (startD r).getD i 0 = if r.getD i 0 = i then 0 else 1099511627776 := fun i hi => by
    have : i < r.length := by rw [hr.len]; exact hi
    simp [startD, this]
  refine ⟨by simp [startD, hr.len], fun i hi => ?_, fun i hi => ?_⟩
  · rw [g i hi]
    split <;> omega
  · rw [g i hi]
    split
    · rename_i e
      right
      rw [e]
      exact .nil
    · exact .inl rfl
theorem stD_get {N : LN} {s : List Int} {d : Lk} (hj : d.j < s.length) (i : Nat) : (stD N s d).getD i 0 = if i = d.j then min (s.getD d.j 0) (s.getD d.i 0 + N.cost d) else s.getD i 0 := by
  unfold stD
  exact getD_set _ _ _ _ _ hj
theorem DInv.step {N : LN} (hok : N.Ok) {r : List Nat} (hr : IsRoots N r) {s : List Int} (h : DInv N r s) {d : Lk} (hd : d ∈ N.dirs) : DInv N r (stD N s d) := by
  have h1 := hok.from_lt hd
  have h2 := hok.to_lt hd
  have hc := hok.cost_le hd
  have hj : d.j < s.length := by rw [h.len]; exact h2.2.1
  have hbi := h.bd d.i h1.2.1
  have hbj := h.bd d.j h2.2.1
  refine ⟨by unfold stD; rw [List.length_set]; exact h.len, fun i hi => ?_, fun i hi => ?_⟩
  · rw [stD_get hj]
    split
    · omega
    · exact h.bd i hi
  · rw [stD_get hj]
    split
    · rename_i e
      subst e
      by_cases hm : s.getD d.j 0 ≤ s.getD d.i 0 + N.cost d
      · rw [Int.min_eq_left hm]
        exact h.walk _ hi
      · rw [Int.min_eq_right (by omega)]
        right
        have hw : Walk N (r.getD d.i 0) d.i (s.getD d.i 0) := by
          rcases h.walk d.i h1.2.1 with e | hw
          · omega
          · exact hw
        rw [← hr.same hok h1.2.1 (conn_edge hd)]
        exact .snoc hw hd
    · exact h.walk i hi
theorem dist_is {N : LN} (hok : N.Ok) {r : List Nat} (hr : IsRoots N r) : IsDist N r (rounds18 (stD N) N.dirs N.ids.length (startD r)) := by
  have hinv := rounds_inv (N := N) (step := stD N) (I := DInv N r) (fun s d hd h => h.step hok hr hd) (startD r) (dinv_start hr) N.ids.length
  have up : ∀ i l c, i < N.ids.length → SPath N (r.getD i 0) i l c → (rounds18 (stD N) N.dirs N.ids.length (startD r)).getD i 0 ≤ c := fun i l c hi hp => by
    have hs := hr.lt i hi
    refine bellman (N := N) (step := stD N) (I := DInv N r) (LE := fun s i c => s.getD i 0 ≤ c) (fun s d hd h => h.step hok hr hd) (fun s d i c h hd hle => ?_) (fun s d c h hd hle => ?_) (startD r) (dinv_start hr) hp ?_ _ (by have := hp.short hok hs; omega)
    · show (stD N s d).getD i 0 ≤ c
      rw [stD_get (by rw [h.len]; exact (hok.to_lt hd).2.1)]
      split
      · rename_i e
        subst e
        have hle : s.getD d.j 0 ≤ c := hle
        omega
      · exact hle
    · show (stD N s d).getD d.j 0 ≤ _
      rw [stD_get (by rw [h.len]; exact (hok.to_lt hd).2.1), if_pos rfl]
      have hle : s.getD d.i 0 ≤ c := hle
      omega
    · show (startD r).getD (r.getD i 0) 0 ≤ 0
      have e : r.getD (r.getD i 0) 0 = r.getD i 0 := (hr.same hok hi (hr.conn i hi)).symm
      have hl : r.getD i 0 < r.length := by rw [hr.len]; exact hs
      rw [startD_get hl, if_pos e]
      exact Int.le_refl _
  have low : ∀ i c, i < N.ids.length → Walk N (r.getD i 0) i c → (rounds18 (stD N) N.dirs N.ids.length (startD r)).getD i 0 ≤ c := fun i c hi hw => by
    obtain ⟨l, c', hp, hle⟩ := hw.path hok
    have := up i l c' hi hp
    omega
  refine ⟨hinv.len, fun i hi => ?_, low⟩
  rcases hinv.walk i hi with e | hw
  · obtain ⟨c, hw⟩ := (hr.conn i hi).symm.walk
    obtain ⟨l, c', hp, _⟩ := hw.path hok
    have h1 := up i l c' hi hp
    have h2 := hp.short hok (hr.lt i hi)
    omega
  · exact hw
end Go.Proofs.Ytcmokhpnooldgaa
