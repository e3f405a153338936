/- Root ports, as a plain law: the best of what is heard. By an AI agent. -/
import Derived.Test.YtcmokhpnooldgaaLn11
namespace Go.Proofs.Ytcmokhpnooldgaa

theorem SV.better_trans {a b c : SV} (h1 : a.better b = true) (h2 : b.better c = true) : a.better c = true := Vec.better_trans h1 h2
theorem SV.better_asymm {a b : SV} (h : a.better b = true) : b.better a = false := Vec.better_asymm h
theorem SV.better_irrefl (a : SV) : a.better a = false := Vec.better_irrefl _ _ _ _
theorem SV.better_total {a b : SV} (h1 : a.better b = false) (h2 : b.better a = false) : a = b := by
  obtain ⟨e1, e2, e3, e4⟩ := Vec.better_total _ _ _ _ _ _ _ _ h1 h2
  exact SV.ext_of (Id8.ext_l e1) e2 (Id8.ext_l e3) e4
theorem fr_inj {N : LN} (h : N.Ok) {d d' : Lk} (hd : d ∈ N.dirs) (hd' : d' ∈ N.dirs) (e : d.fr = d'.fr) : d = d' := by
  obtain ⟨i, hi, rfl⟩ := List.mem_iff_getElem.1 hd
  obtain ⟨j, hj, rfl⟩ := List.mem_iff_getElem.1 hd'
  have key : ∀ a b, (ha : a < N.dirs.length) → (hb : b < N.dirs.length) → a < b → N.dirs[a].fr ≠ N.dirs[b].fr := fun a b ha hb hab e => by
    have hn := nodup_take h.once (i := b) (by simpa using hb)
    refine hn ?_
    simp only [List.getElem_map]
    rw [← e]
    have h1 : ((N.dirs.map Lk.fr).take b)[a]'(by rw [List.length_take, List.length_map]; omega) = N.dirs[a].fr := by simp
    rw [← h1]
    exact List.getElem_mem _
  rcases Nat.lt_trichotomy i j with h1 | h1 | h1
  · exact absurd e (key i j hi hj h1)
  · subst h1; rfl
  · exact absurd e.symm (key j i hj hi h1)
theorem hear_inj {N : LN} (h : N.Ok) {R : List Nat} {D : List Int} {d d' : Lk} (hd : d ∈ N.dirs) (hd' : d' ∈ N.dirs) (e : hearV N R D d = hearV N R D d') : d = d' := by
  have e1 : N.id d.i = N.id d'.i := congrArg SV.b e
  have e2 : d.p + 1 = d'.p + 1 := congrArg SV.p e
  have h1 := h.from_lt hd
  have h2 := h.from_lt hd'
  have e3 := h.id_inj h1.2.1 h2.2.1 e1
  refine fr_inj h hd hd' ?_
  unfold Lk.fr
  have e4 : d.a = d'.a := by
    have := Int.toNat_of_nonneg h1.1
    have := Int.toNat_of_nonneg h2.1
    have e3 : d.a.toNat = d'.a.toNat := e3
    omega
  rw [e4, show d.p = d'.p by omega]

/-- q is each bridge's root port -/
structure IsPorts (N : LN) (R : List Nat) (D : List Int) (q : List Int) : Prop where
  len : q.length = N.ids.length
  root : ∀ i, i < N.ids.length → R.getD i 0 = i → q.getD i 0 = -1
  port : ∀ i, i < N.ids.length → R.getD i 0 ≠ i → ∃ d ∈ N.dirs, d.j = i ∧ q.getD i 0 = d.q ∧ ∀ d' ∈ N.dirs, d'.j = i → d' = d ∨ (hearV N R D d).better (hearV N R D d') = true
theorem IsPorts.uniq {N : LN} {R : List Nat} {D q q' : List Int} (h : IsPorts N R D q) (h' : IsPorts N R D q') : q = q' := by
  refine List.ext_getElem (by rw [h.len, h'.len]) fun i h1 h2 => ?_
  have hi : i < N.ids.length := by rw [← h.len]; exact h1
  have e : q.getD i 0 = q'.getD i 0 := by
    by_cases hr : R.getD i 0 = i
    · rw [h.root i hi hr, h'.root i hi hr]
    · obtain ⟨d, hd, hj, hq, hb⟩ := h.port i hi hr
      obtain ⟨d', hd', hj', hq', hb'⟩ := h'.port i hi hr
      rw [hq, hq']
      rcases hb d' hd' hj' with rfl | h3
      · rfl
      · rcases hb' d hd hj with rfl | h4
        · rfl
        · rw [SV.better_asymm h3] at h4
          cases h4
  simpa [h1, h2] using e
/-- what holds on the way -/
structure PInv (N : LN) (R : List Nat) (D : List Int) (ds : List Lk) (s : List Int × List SV) : Prop where
  len : s.1.length = N.ids.length
  len2 : s.2.length = N.ids.length
  root : ∀ i, i < N.ids.length → R.getD i 0 = i → s.1.getD i 0 = -1
  port : ∀ i, i < N.ids.length → R.getD i 0 ≠ i → (s.1.getD i 0 = -1 ∧ ∀ d ∈ ds, d.j ≠ i) ∨ ∃ d ∈ ds, d.j = i ∧ s.1.getD i 0 = d.q ∧ s.2.getD i .zero = hearV N R D d ∧ ∀ d' ∈ ds, d'.j = i → d' = d ∨ (hearV N R D d).better (hearV N R D d') = true
theorem pinv_start (N : LN) (R : List Nat) (D : List Int) : PInv N R D [] (List.replicate N.ids.length (-1), List.replicate N.ids.length .zero) := by
  refine ⟨by simp, by simp, fun i hi _ => by simp [hi], fun i hi _ => .inl ⟨by simp [hi], fun d hd => by cases hd⟩⟩
theorem PInv.new {N : LN} (hok : N.Ok) {R : List Nat} {D : List Int} {ds : List Lk} {s : List Int × List SV} (h : PInv N R D ds s) (hds : ∀ d ∈ ds, d ∈ N.dirs) {d : Lk} (hd : d ∈ N.dirs) (hn : d ∉ ds) : 0 ≤ s.1.getD d.j 0 → hearV N R D d ≠ s.2.getD d.j .zero := fun hq e => by
  have h2 := hok.to_lt hd
  by_cases hr : R.getD d.j 0 = d.j
  · have := h.root d.j h2.2.1 hr
    omega
  · rcases h.port d.j h2.2.1 hr with ⟨h3, _⟩ | ⟨d0, hd0, hj, _, hb, _⟩
    · omega
    · rw [hb] at e
      exact hn (hear_inj hok hd (hds _ hd0) e ▸ hd0)
theorem PInv.step {N : LN} (hok : N.Ok) {R : List Nat} {D : List Int} {ds : List Lk} {s : List Int × List SV} (h : PInv N R D ds s) (hds : ∀ d ∈ ds, d ∈ N.dirs) {d : Lk} (hd : d ∈ N.dirs) (hn : d ∉ ds) : PInv N R D (ds ++ [d]) (stP N R D s d) := by
  have h2 := hok.to_lt hd
  have hj1 : d.j < s.1.length := by rw [h.len]; exact h2.2.1
  have hj2 : d.j < s.2.length := by rw [h.len2]; exact h2.2.1
  unfold stP
  by_cases hr : R.getD d.j 0 = d.j
  · rw [if_pos hr]
    refine ⟨h.len, h.len2, h.root, fun i hi hri => ?_⟩
    have hne : d.j ≠ i := fun e => hri (e ▸ hr)
    rcases h.port i hi hri with ⟨h3, h4⟩ | ⟨d0, hd0, h4, h5, h6, h7⟩
    · refine .inl ⟨h3, fun d' hd' => ?_⟩
      rcases List.mem_append.1 hd' with h' | h'
      · exact h4 d' h'
      · simp only [List.mem_singleton] at h'
        rw [h']; exact hne
    · refine .inr ⟨d0, List.mem_append_left _ hd0, h4, h5, h6, fun d' hd' hj' => ?_⟩
      rcases List.mem_append.1 hd' with h' | h'
      · exact h7 d' h' hj'
      · simp only [List.mem_singleton] at h'
        rw [h'] at hj'
        exact absurd hj' hne
  · rw [if_neg hr]
    have hold := h.port d.j h2.2.1 hr
    by_cases hb : s.1.getD d.j 0 < 0 ∨ (hearV N R D d).better (s.2.getD d.j .zero) = true
    · rw [if_pos hb]
      refine ⟨by simp [h.len], by simp [h.len2], fun i hi hri => ?_, fun i hi hri => ?_⟩
      · have hne : i ≠ d.j := fun e => hr (e ▸ hri)
        show (s.1.set d.j d.q).getD i 0 = -1
        rw [getD_set _ _ _ _ _ hj1, if_neg hne]
        exact h.root i hi hri
      · by_cases e : i = d.j
        · subst e
          refine .inr ⟨d, by simp, rfl, ?_, ?_, fun d' hd' hj' => ?_⟩
          · show (s.1.set d.j d.q).getD d.j 0 = d.q
            rw [getD_set _ _ _ _ _ hj1, if_pos rfl]
          · show (s.2.set d.j (hearV N R D d)).getD d.j .zero = _
            rw [getD_set _ _ _ _ _ hj2, if_pos rfl]
          · rcases List.mem_append.1 hd' with h' | h'
            · right
              rcases hold with ⟨_, h4⟩ | ⟨d0, hd0, h4, h5, h6, h7⟩
              · exact absurd hj' (h4 d' h')
              · have hbt : (hearV N R D d).better (hearV N R D d0) = true := by
                  rcases hb with hb | hb
                  · have := hok.to_lt (hds _ hd0)
                    omega
                  · rw [← h6]; exact hb
                rcases h7 d' h' hj' with rfl | h8
                · exact hbt
                · exact SV.better_trans hbt h8
            · simp only [List.mem_singleton] at h'
              exact .inl h'
        · have e1 : (s.1.set d.j d.q).getD i 0 = s.1.getD i 0 := by rw [getD_set _ _ _ _ _ hj1, if_neg e]
          have e2 : (s.2.set d.j (hearV N R D d)).getD i .zero = s.2.getD i .zero := by rw [getD_set _ _ _ _ _ hj2, if_neg e]
          rcases h.port i hi hri with ⟨h3, h4⟩ | ⟨d0, hd0, h4, h5, h6, h7⟩
          · refine .inl ⟨e1.trans h3, fun d' hd' => ?_⟩
            rcases List.mem_append.1 hd' with h' | h'
            · exact h4 d' h'
            · simp only [List.mem_singleton] at h'
              rw [h']; exact fun e' => e e'.symm
          · refine .inr ⟨d0, List.mem_append_left _ hd0, h4, e1.trans h5, e2.trans h6, fun d' hd' hj' => ?_⟩
            rcases List.mem_append.1 hd' with h' | h'
            · exact h7 d' h' hj'
            · simp only [List.mem_singleton] at h'
              rw [h'] at hj'
              exact absurd hj'.symm e
    · rw [if_neg hb]
      have hb1 : 0 ≤ s.1.getD d.j 0 := by
        rcases Int.lt_or_le (s.1.getD d.j 0) 0 with h3 | h3
        · exact absurd (.inl h3) hb
        · exact h3
      have hb2 : (hearV N R D d).better (s.2.getD d.j .zero) = false := by
        cases hc : (hearV N R D d).better (s.2.getD d.j .zero)
        · rfl
        · exact absurd (.inr hc) hb
      have hnew := h.new hok hds hd hn hb1
      refine ⟨h.len, h.len2, h.root, fun i hi hri => ?_⟩
      rcases h.port i hi hri with ⟨h3, h4⟩ | ⟨d0, hd0, h4, h5, h6, h7⟩
      · refine .inl ⟨h3, fun d' hd' => ?_⟩
        rcases List.mem_append.1 hd' with h' | h'
        · exact h4 d' h'
        · simp only [List.mem_singleton] at h'
          rw [h']
          intro e'
          rw [e'] at hb1
          omega
      · refine .inr ⟨d0, List.mem_append_left _ hd0, h4, h5, h6, fun d' hd' hj' => ?_⟩
        rcases List.mem_append.1 hd' with h' | h'
        · exact h7 d' h' hj'
        · simp only [List.mem_singleton] at h'
          right
          rw [h'] at hj' ⊢
          rw [hj', h6] at hb2 hnew
          cases hc : (hearV N R D d0).better (hearV N R D d)
          · exact absurd (SV.better_total hb2 hc) hnew
          · rfl
def stPs (N : LN) (R : List Nat) (D : List Int) (k : Nat) : List Int × List SV := (N.dirs.take k).foldl (stP N R D) (List.replicate N.ids.length (-1), List.replicate N.ids.length .zero)
theorem dirs_new {N : LN} (hok : N.Ok) {k : Nat} {d : Lk} (hd : N.dirs[k]? = some d) : d ∉ N.dirs.take k := fun hm => by
  obtain ⟨hk, rfl⟩ := List.getElem?_eq_some_iff.1 hd
  have hn := nodup_take hok.once (i := k) (by simpa using hk)
  refine hn ?_
  rw [List.getElem_map, ← List.map_take]
  exact List.mem_map.2 ⟨_, hm, rfl⟩
theorem stPs_succ {N : LN} {R : List Nat} {D : List Int} {k : Nat} {d : Lk} (hd : N.dirs[k]? = some d) : stPs N R D (k + 1) = stP N R D (stPs N R D k) d := by
  unfold stPs
  rw [take_snoc hd, List.foldl_append]
  rfl
theorem stPs_inv {N : LN} (hok : N.Ok) (R : List Nat) (D : List Int) : ∀ k, k ≤ N.dirs.length → PInv N R D (N.dirs.take k) (stPs N R D k)
  | 0, _ => pinv_start N R D
  | k + 1, hk => by
    have hd := List.getElem?_eq_getElem (show k < N.dirs.length by omega)
    rw [stPs_succ hd, take_snoc hd]
    exact (stPs_inv hok R D k (by omega)).step hok (fun d h => List.mem_of_mem_take h) (List.mem_of_getElem? hd) (dirs_new hok hd)
theorem Walk.last {N : LN} {s i : Nat} {c : Int} (h : Walk N s i c) (hne : s ≠ i) : ∃ d ∈ N.dirs, d.j = i := by
  cases h with
  | nil => exact absurd rfl hne
  | snoc _ hd => exact ⟨_, hd, rfl⟩
theorem ports_is {N : LN} (hok : N.Ok) {R : List Nat} (hR : IsRoots N R) (D : List Int) : IsPorts N R D (stPs N R D N.dirs.length).1 := by
  have h := stPs_inv hok R D N.dirs.length (Nat.le_refl _)
  rw [List.take_length] at h
  refine ⟨h.len, h.root, fun i hi hr => ?_⟩
  rcases h.port i hi hr with ⟨_, h4⟩ | ⟨d, hd, h4, h5, _, h7⟩
  · exfalso
    obtain ⟨c, hw⟩ := (hR.conn i hi).symm.walk
    obtain ⟨d, hd, hj⟩ := hw.last hr
    exact h4 d hd hj
  · exact ⟨d, hd, h4, h5, h7⟩
end Go.Proofs.Ytcmokhpnooldgaa
