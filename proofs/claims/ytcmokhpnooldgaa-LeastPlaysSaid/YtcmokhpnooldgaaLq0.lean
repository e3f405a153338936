/- The document's answers of nets, as a plain law: distances by rounds from any start, the best that there is a way to, the best port. By an AI agent. -/
import Derived.Test.YtcmokhpnooldgaaLp3
namespace Go.Proofs.Ytcmokhpnooldgaa

/-- one link's end, in a round of the document's distances -/
def stE (N : LN) (st : List Int) (d : Lk) : List Int :=
  if 0 ≤ st.getD d.i 0 ∧ (st.getD d.j 0 < 0 ∨ st.getD d.i 0 + N.cost d < st.getD d.j 0) then st.set d.j (st.getD d.i 0 + N.cost d) else st
/-- what holds of them behind B ends -/
structure EInv (N : LN) (s : Nat) (B : Nat) (st : List Int) : Prop where
  len : st.length = N.ids.length
  val : ∀ i, i < N.ids.length → st.getD i 0 = -1 ∨ (0 ≤ st.getD i 0 ∧ st.getD i 0 ≤ 65535 * (B : Int) ∧ Walk N s i (st.getD i 0))
theorem stE_get {N : LN} {st : List Int} {d : Lk} (hj : d.j < st.length) (i : Nat) : (stE N st d).getD i 0 = if i = d.j ∧ 0 ≤ st.getD d.i 0 ∧ (st.getD d.j 0 < 0 ∨ st.getD d.i 0 + N.cost d < st.getD d.j 0) then st.getD d.i 0 + N.cost d else st.getD i 0 := by
  unfold stE
  by_cases h : 0 ≤ st.getD d.i 0 ∧ (st.getD d.j 0 < 0 ∨ st.getD d.i 0 + N.cost d < st.getD d.j 0)
  · rw [if_pos h, getD_set _ _ _ _ _ hj]
    by_cases e : i = d.j
    · rw [if_pos e, if_pos ⟨e, h⟩]
    · rw [if_neg e, if_neg (fun x => e x.1)]
  · rw [if_neg h, if_neg (fun x => h x.2)]
theorem stE_len (N : LN) (st : List Int) (d : Lk) : (stE N st d).length = st.length := by
  unfold stE
  split
  · exact List.length_set
  · rfl
theorem EInv.step {N : LN} (hok : N.Ok) {s B : Nat} {st : List Int} (h : EInv N s B st) {d : Lk} (hd : d ∈ N.dirs) : EInv N s (B + 1) (stE N st d) := by
  have h1 := hok.from_lt hd
  have h2 := hok.to_lt hd
  have hc := hok.cost_le hd
  have hj : d.j < st.length := by rw [h.len]; exact h2.2.1
  refine ⟨by rw [stE_len]; exact h.len, fun i hi => ?_⟩
  rw [stE_get hj]
  split
  · rename_i hx
    rcases h.val d.i h1.2.1 with e | ⟨e1, e2, e3⟩
    · omega
    · refine .inr ⟨by omega, by omega, ?_⟩
      rw [hx.1]
      exact .snoc e3 hd
  · rcases h.val i hi with e | ⟨e1, e2, e3⟩
    · exact .inl e
    · exact .inr ⟨e1, by omega, e3⟩
theorem EInv.fold {N : LN} (hok : N.Ok) {s : Nat} : ∀ (ds : List Lk) {B : Nat} {st : List Int}, (∀ d ∈ ds, d ∈ N.dirs) → EInv N s B st → EInv N s (B + ds.length) (ds.foldl (stE N) st)
  | [], _, _, _, h => h
  | d :: ds, B, st, hd, h => by
    have := EInv.fold hok ds (fun x hx => hd x (List.mem_cons_of_mem _ hx)) (h.step hok (hd d (by simp)))
    rw [List.length_cons, show B + (ds.length + 1) = B + 1 + ds.length by omega]
    exact this
def startE (n s : Nat) : List Int := (List.replicate n (-1)).set s 0
theorem startE_inv {N : LN} {s : Nat} : EInv N s 0 (startE N.ids.length s) := by
  refine ⟨by simp [startE], fun i hi => ?_⟩
  unfold startE
  by_cases e : s = i
  · subst e
    refine .inr ?_
    rw [getD_set _ _ _ _ _ (by simpa using hi), if_pos rfl]
    exact ⟨Int.le_refl _, by omega, .nil⟩
  · refine .inl ?_
    simp only [List.getD, List.getElem?_set, if_neg e]
    simp [hi]
def allE (N : LN) (s k t : Nat) : List Int := (N.dirs.take t).foldl (stE N) (rounds18 (stE N) N.dirs k (startE N.ids.length s))
theorem allE_zero (N : LN) (s : Nat) : allE N s 0 0 = startE N.ids.length s := rfl
theorem allE_succ {N : LN} (s k : Nat) {t : Nat} {d : Lk} (hd : N.dirs[t]? = some d) : allE N s k (t + 1) = stE N (allE N s k t) d := by
  unfold allE
  rw [take_snoc hd, List.foldl_append]
  rfl
theorem allE_all (N : LN) (s k : Nat) : allE N s k (2 * N.links.length) = allE N s (k + 1) 0 := by
  unfold allE
  rw [← dirs_len, List.take_length]
  rfl
theorem allE_inv {N : LN} (hok : N.Ok) (s : Nat) : ∀ (k t : Nat), t ≤ N.dirs.length → EInv N s (k * N.dirs.length + t) (allE N s k t) := by
  have hr : ∀ k, EInv N s (k * N.dirs.length) (rounds18 (stE N) N.dirs k (startE N.ids.length s)) := fun k => by
    induction k with
    | zero => rw [Nat.zero_mul]; exact startE_inv
    | succ k ih =>
      have := EInv.fold hok N.dirs (fun _ h => h) ih
      rw [Nat.succ_mul]
      exact this
  intro k t ht
  have := EInv.fold hok (N.dirs.take t) (fun d h => List.mem_of_mem_take h) (hr k)
  rw [List.length_take, Nat.min_eq_left ht] at this
  exact this
theorem allE_bd {N : LN} (hok : N.Ok) (hl : N.links.length ≤ 1000) (s : Nat) {k t : Nat} (hk : k ≤ N.ids.length) (ht : t ≤ N.dirs.length) {i : Nat} (hi : i < N.ids.length) : -1 ≤ (allE N s k t).getD i 0 ∧ (allE N s k t).getD i 0 ≤ 10000000000 := by
  have hn := hok.n16
  have hL := dirs_len N
  have hm : k * N.dirs.length ≤ 16 * 2000 := Nat.mul_le_mul (by omega) (by omega)
  rcases (allE_inv hok s k t ht).val i hi with e | ⟨e1, e2, _⟩
  · omega
  · omega
theorem allE_len {N : LN} (hok : N.Ok) (s : Nat) {k t : Nat} (ht : t ≤ N.dirs.length) : (allE N s k t).length = N.ids.length := (allE_inv hok s k t ht).len
/-- the document's distances from a start -/
def distE (N : LN) (s : Nat) : List Int := allE N s N.ids.length 0
theorem distE_len {N : LN} (hok : N.Ok) (s : Nat) : (distE N s).length = N.ids.length := allE_len hok s (Nat.zero_le _)
theorem distE_walk {N : LN} (hok : N.Ok) (s : Nat) {i : Nat} (hi : i < N.ids.length) : (distE N s).getD i 0 = -1 ∨ (0 ≤ (distE N s).getD i 0 ∧ Walk N s i ((distE N s).getD i 0)) := by
  rcases (allE_inv hok s N.ids.length 0 (Nat.zero_le _)).val i hi with e | ⟨e1, _, e2⟩
  · exact .inl e
  · exact .inr ⟨e1, e2⟩
theorem distE_least {N : LN} (hok : N.Ok) {s : Nat} (hs : s < N.ids.length) {i : Nat} (hi : i < N.ids.length) {c : Int} (hw : Walk N s i c) : 0 ≤ (distE N s).getD i 0 ∧ (distE N s).getD i 0 ≤ c := by
  obtain ⟨l, c', hp, hle⟩ := hw.path hok
  have hsh := hp.short hok hs
  have h := bellman (N := N) (step := stE N) (I := fun st => ∃ B, EInv N s B st) (LE := fun st i c => i < N.ids.length → 0 ≤ st.getD i 0 ∧ st.getD i 0 ≤ c)
    (fun st d hd ⟨B, h⟩ => ⟨B + 1, h.step hok hd⟩)
    (fun st d i c ⟨B, h⟩ hd hle hi => by
      have h2 := hok.to_lt hd
      have hc := hok.cost_le hd
      rw [stE_get (by rw [h.len]; exact h2.2.1)]
      have := hle hi
      split
      · rename_i hx
        rw [← hx.1] at hx
        omega
      · exact this)
    (fun st d c ⟨B, h⟩ hd hle hi => by
      have h1 := hok.from_lt hd
      have h2 := hok.to_lt hd
      have hc := hok.cost_le hd
      rw [stE_get (by rw [h.len]; exact h2.2.1)]
      have := hle h1.2.1
      split
      · omega
      · rename_i hx
        have hx : ¬ (0 ≤ st.getD d.i 0 ∧ (st.getD d.j 0 < 0 ∨ st.getD d.i 0 + N.cost d < st.getD d.j 0)) := fun y => hx ⟨rfl, y⟩
        omega)
    (startE N.ids.length s) ⟨0, startE_inv⟩ hp (fun _ => by
      unfold startE
      rw [getD_set _ _ _ _ _ (by simpa using hs), if_pos rfl]
      exact ⟨Int.le_refl _, Int.le_refl _⟩) N.ids.length (by omega) hi
  have h : 0 ≤ (distE N s).getD i 0 ∧ (distE N s).getD i 0 ≤ c' := h
  omega
theorem distE_conn {N : LN} (hok : N.Ok) {s : Nat} (hs : s < N.ids.length) {i : Nat} (hi : i < N.ids.length) : 0 ≤ (distE N s).getD i 0 ↔ Conn N s i := by
  constructor
  · intro h
    rcases distE_walk hok s hi with e | ⟨_, e⟩
    · omega
    · exact e.conn
  · intro h
    obtain ⟨c, hw⟩ := h.walk
    exact (distE_least hok hs hi hw).1

/-- the document's search for the least -/
def bestF (N : LN) (st : List Int) (i : Nat) : Nat → Nat
  | 0 => i
  | k + 1 => if 0 ≤ st.getD k 0 ∧ N.lt k (bestF N st i k) = true then k else bestF N st i k
theorem bestF_lt {N : LN} {st : List Int} {i : Nat} (hi : i < N.ids.length) : ∀ k, k ≤ N.ids.length → bestF N st i k < N.ids.length
  | 0, _ => hi
  | k + 1, h => by
    have := bestF_lt (st := st) hi k (by omega)
    unfold bestF
    split <;> omega
theorem bestF_inv {N : LN} {st : List Int} {i : Nat} (hi : i < N.ids.length) (hc : ∀ k, k < N.ids.length → (0 ≤ st.getD k 0 ↔ Conn N i k)) : ∀ k, k ≤ N.ids.length → Conn N i (bestF N st i k) ∧ ∀ j, j < k → Conn N i j → N.lt j (bestF N st i k) = false
  | 0, _ => ⟨.refl i, fun j hj => absurd hj (Nat.not_lt_zero _)⟩
  | k + 1, h => by
    obtain ⟨ih1, ih2⟩ := bestF_inv hi hc k (by omega)
    unfold bestF
    by_cases hx : 0 ≤ st.getD k 0 ∧ N.lt k (bestF N st i k) = true
    · rw [if_pos hx]
      refine ⟨(hc k (by omega)).1 hx.1, fun j hj hcj => ?_⟩
      rcases Nat.lt_or_eq_of_le (Nat.le_of_lt_succ hj) with h1 | rfl
      · have h2 := ih2 j h1 hcj
        cases h3 : N.lt j k
        · rfl
        · have := Ord.lt_trans _ _ _ h3 hx.2
          unfold LN.lt at h2
          rw [this] at h2
          cases h2
      · exact Ord.lt_irrefl _
    · rw [if_neg hx]
      refine ⟨ih1, fun j hj hcj => ?_⟩
      rcases Nat.lt_or_eq_of_le (Nat.le_of_lt_succ hj) with h1 | rfl
      · exact ih2 j h1 hcj
      · cases h3 : N.lt j (bestF N st i j)
        · rfl
        · exact absurd ⟨(hc j (by omega)).2 hcj, h3⟩ hx
def rootsE (N : LN) : List Nat := (List.range N.ids.length).map fun i => bestF N (distE N i) i N.ids.length
theorem rootsE_is {N : LN} (hok : N.Ok) : IsRoots N (rootsE N) := by
  have g : ∀ i, i < N.ids.length → (rootsE N).getD i 0 = bestF N (distE N i) i N.ids.length := fun i hi => by simp [rootsE, hi]
  have inv : ∀ i, i < N.ids.length → _ := fun i hi => bestF_inv (st := distE N i) hi (fun k hk => distE_conn hok hi hk) N.ids.length (Nat.le_refl _)
  refine ⟨by simp [rootsE], fun i hi => ?_, fun i hi => ?_, fun i j hi hcj => ?_⟩
  · rw [g i hi]; exact bestF_lt hi _ (Nat.le_refl _)
  · rw [g i hi]; exact (inv i hi).1
  · rw [g i hi]; exact (inv i hi).2 j (conn_lt hok hi hcj) hcj
theorem best_root {N : LN} (hok : N.Ok) {R : List Nat} (hR : IsRoots N R) {i : Nat} (hi : i < N.ids.length) : bestF N (distE N i) i N.ids.length = R.getD i 0 := by
  rw [← (rootsE_is hok).uniq hok hR]
  simp [rootsE, hi]
theorem dist_root {N : LN} (hok : N.Ok) {R : List Nat} {D : List Int} (hR : IsRoots N R) (hD : IsDist N R D) {i : Nat} (hi : i < N.ids.length) : (distE N (R.getD i 0)).getD i 0 = D.getD i 0 := by
  have hr := hR.lt i hi
  have h1 := distE_least hok hr hi (hD.walk i hi)
  rcases distE_walk hok (R.getD i 0) hi with e | ⟨_, e⟩
  · omega
  · have := hD.least i _ hi e
    omega

/-- what a bridge hears by a link, without the root -/
def hear0 (N : LN) (D : List Int) (d : Lk) : SV := ⟨.zero, D.getD d.i 0 + N.cost d, N.id d.i, d.p + 1⟩
def stQ (N : LN) (D : List Int) (s : Int × SV) (d : Lk) : Int × SV := if s.1 < 0 ∨ (hear0 N D d).better s.2 = true then (d.q, hear0 N D d) else s
theorem hear0_inj {N : LN} (h : N.Ok) {D : List Int} {d d' : Lk} (hd : d ∈ N.dirs) (hd' : d' ∈ N.dirs) (e : hear0 N D d = hear0 N D d') : d = d' := by
  have e1 : N.id d.i = N.id d'.i := congrArg SV.b e
  have e2 : d.p + 1 = d'.p + 1 := congrArg SV.p e
  have h1 := h.from_lt hd
  have h2 := h.from_lt hd'
  have e3 := h.id_inj h1.2.1 h2.2.1 e1
  refine fr_inj h hd hd' ?_
  unfold Lk.fr
  have e4 : d.a = d'.a := by
    have := Int.toNat_of_nonneg h1.1
    have := Int.toNat_of_nonneg h2.1
    have e3 : d.a.toNat = d'.a.toNat := e3
    omega
  rw [e4, show d.p = d'.p by omega]
/-- the best of those that are through -/
def PQ (N : LN) (D : List Int) (L : List Lk) (s : Int × SV) : Prop := (L = [] ∧ s.1 = -1) ∨ ∃ d ∈ L, s = (d.q, hear0 N D d) ∧ ∀ d' ∈ L, d' = d ∨ (hear0 N D d).better (hear0 N D d') = true
theorem PQ.step {N : LN} (hok : N.Ok) {D : List Int} {L : List Lk} {s : Int × SV} (h : PQ N D L s) (hL : ∀ d ∈ L, d ∈ N.dirs) {d : Lk} (hd : d ∈ N.dirs) : PQ N D (L ++ [d]) (stQ N D s d) := by
  unfold stQ
  rcases h with ⟨rfl, h1⟩ | ⟨d0, h0, rfl, hb⟩
  · rw [if_pos (.inl (by omega))]
    exact .inr ⟨d, by simp, rfl, fun d' h' => .inl (by simpa using h')⟩
  · have hq := (hok.to_lt (hL d0 h0)).2.2.1
    by_cases hx : (hear0 N D d).better (hear0 N D d0) = true
    · rw [if_pos (.inr hx)]
      refine .inr ⟨d, by simp, rfl, fun d' h' => ?_⟩
      rcases List.mem_append.1 h' with h' | h'
      · rcases hb d' h' with rfl | h2
        · exact .inr hx
        · exact .inr (SV.better_trans hx h2)
      · exact .inl (by simpa using h')
    · rw [if_neg (fun hh => hh.elim (fun (h2 : d0.q < 0) => by omega) hx)]
      refine .inr ⟨d0, by simp [h0], rfl, fun d' h' => ?_⟩
      rcases List.mem_append.1 h' with h' | h'
      · exact hb d' h'
      · obtain rfl : d' = d := by simpa using h'
        cases h3 : (hear0 N D d0).better (hear0 N D d')
        · exact .inl (hear0_inj hok hd (hL d0 h0) (SV.better_total (by simpa using hx) h3))
        · exact .inr rfl
/-- one link's end in the search for a bridge's port -/
def stQf (N : LN) (D : List Int) (b p : Int) (s : Int × SV) (d : Lk) : Int × SV := if d.b = b ∧ d.q = p then stQ N D s d else s
def LN.turns (N : LN) : List Lk := N.dirs.map Lk.turn
theorem turns_len (N : LN) : N.turns.length = 2 * N.links.length := by unfold LN.turns; rw [List.length_map, dirs_len]
theorem turns_get {N : LN} {k : Nat} (h : k < N.links.length) : N.turns[2 * k]? = some (N.lk k).turn ∧ N.turns[2 * k + 1]? = some (N.lk k) := by
  have := dirs_get h
  unfold LN.turns
  rw [List.getElem?_map, List.getElem?_map, this.1, this.2]
  exact ⟨rfl, rfl⟩
theorem mem_turns {N : LN} {d : Lk} : d ∈ N.turns ↔ d ∈ N.dirs := by
  unfold LN.turns
  rw [List.mem_map]
  exact ⟨fun ⟨e, he, h⟩ => h ▸ dirs_turn he, fun h => ⟨d.turn, dirs_turn h, rfl⟩⟩
def portIn (N : LN) (D : List Int) (b p : Int) (s : Int × SV) (t : Nat) : Int × SV := (N.turns.take t).foldl (stQf N D b p) s
theorem portIn_succ {N : LN} (D : List Int) (b p : Int) (s : Int × SV) {t : Nat} {d : Lk} (hd : N.turns[t]? = some d) : portIn N D b p s (t + 1) = stQf N D b p (portIn N D b p s t) d := by
  unfold portIn
  rw [take_snoc hd, List.foldl_append]
  rfl
def portQ (N : LN) (D : List Int) (b : Int) : Nat → Int × SV
  | 0 => (-1, .zero)
  | k + 1 => portIn N D b k (portQ N D b k) (2 * N.links.length)
theorem portIn_inv {N : LN} (hok : N.Ok) (D : List Int) (b p : Int) : ∀ (ds L : List Lk) (s : Int × SV), (∀ d ∈ ds, d ∈ N.dirs) → (∀ d ∈ L, d ∈ N.dirs) → PQ N D L s → PQ N D (L ++ ds.filter fun d => decide (d.b = b ∧ d.q = p)) (ds.foldl (stQf N D b p) s)
  | [], L, s, _, _, h => by simpa using h
  | d :: ds, L, s, hd, hL, h => by
    rw [List.foldl_cons]
    have hdd := hd d (by simp)
    by_cases hx : d.b = b ∧ d.q = p
    · rw [show stQf N D b p s d = stQ N D s d from if_pos hx, List.filter_cons, if_pos (decide_eq_true hx)]
      have := portIn_inv hok D b p ds (L ++ [d]) (stQ N D s d) (fun x hx => hd x (List.mem_cons_of_mem _ hx)) (fun x hx => by
        rcases List.mem_append.1 hx with h1 | h1
        · exact hL x h1
        · obtain rfl : x = d := by simpa using h1
          exact hdd) (h.step hok hL hdd)
      rw [List.append_assoc] at this
      exact this
    · rw [show stQf N D b p s d = s from if_neg hx, List.filter_cons, if_neg (by simpa using hx)]
      exact portIn_inv hok D b p ds L s (fun x hx => hd x (List.mem_cons_of_mem _ hx)) hL h
theorem portQ_inv {N : LN} (hok : N.Ok) (D : List Int) (b : Int) : ∀ k : Nat, ∃ L : List Lk, (∀ d, d ∈ L ↔ d ∈ N.dirs ∧ d.b = b ∧ d.q < (k : Int)) ∧ PQ N D L (portQ N D b k)
  | 0 => ⟨[], fun d => ⟨fun h => (by cases h), fun ⟨h1, _, h3⟩ => by have := (hok.to_lt h1).2.2.1; omega⟩, .inl ⟨rfl, rfl⟩⟩
  | k + 1 => by
    obtain ⟨L, h1, h2⟩ := portQ_inv hok D b k
    have h := portIn_inv hok D b k (N.turns.take (2 * N.links.length)) L (portQ N D b k) (fun d hd => mem_turns.1 (List.mem_of_mem_take hd)) (fun d hd => ((h1 d).1 hd).1) h2
    refine ⟨_, fun d => ?_, h⟩
    rw [← turns_len, List.take_length, List.mem_append, List.mem_filter, h1, mem_turns, decide_eq_true_eq]
    constructor
    · rintro (⟨a1, a2, a3⟩ | ⟨a1, a2, a3⟩)
      · exact ⟨a1, a2, by omega⟩
      · exact ⟨a1, a2, by omega⟩
    · rintro ⟨a1, a2, a3⟩
      by_cases e : d.q = (k : Int)
      · exact .inr ⟨a1, a2, e⟩
      · exact .inl ⟨a1, a2, by omega⟩
theorem hear_better (N : LN) (R : List Nat) (D : List Int) {d d' : Lk} (hj : d.j = d'.j) : (hearV N R D d).better (hearV N R D d') = (hear0 N D d).better (hear0 N D d') := by
  have e : (hearV N R D d).better (hearV N R D d') = true ↔ (hear0 N D d).better (hear0 N D d') = true := by
    unfold SV.better hearV hear0
    rw [Vec.better_iff, Vec.better_iff, hj]
    simp only [Ord.lt_irrefl]
  cases h1 : (hearV N R D d).better (hearV N R D d') <;> cases h2 : (hear0 N D d).better (hear0 N D d') <;> simp_all
theorem port_is {N : LN} {R : List Nat} {D q : List Int} (hs : Sol N R D q) {b : Nat} (hb : b < N.ids.length) (hr : R.getD b 0 ≠ b) : (portQ N D b (N.cs b).length).1 = q.getD b 0 := by
  obtain ⟨L, h1, h2⟩ := portQ_inv hs.ok D b (N.cs b).length
  obtain ⟨d, hd, rfl, hq, hbest⟩ := hs.ports.port b hb hr
  have hmem : ∀ e ∈ N.dirs, e.j = d.j → e ∈ L := fun e he hj => by
    have h3 := hs.ok.to_lt he
    have hj' : e.b.toNat = d.j := hj
    refine (h1 e).2 ⟨he, by omega, ?_⟩
    rw [hj] at h3
    omega
  rcases h2 with ⟨rfl, _⟩ | ⟨d0, h0, e0, hb0⟩
  · exact absurd (hmem d hd rfl) (by simp)
  · rw [e0, hq]
    have h0' := (h1 d0).1 h0
    have hj0 : d0.j = d.j := by
      have : d0.b.toNat = d.j := by omega
      exact this
    rcases hb0 d (hmem d hd rfl) with rfl | h3
    · rfl
    · rcases hbest d0 h0'.1 hj0 with rfl | h4
      · rfl
      · rw [hear_better N R D hj0.symm] at h4
        rw [SV.better_asymm h3] at h4
        cases h4
end Go.Proofs.Ytcmokhpnooldgaa
