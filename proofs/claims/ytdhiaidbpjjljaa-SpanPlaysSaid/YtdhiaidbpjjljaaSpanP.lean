/- A bridge's part in the spanning tree, found anew: what becomes of its ports. By an AI agent. -/
import Derived.Test.YtdhiaidbpjjljaaSpan5
namespace Go.Proofs.Ytdhiaidbpjjljaa
open Go.RowKit Go.Sort Grow

/-- a port's role and state, found anew -/
def SP.onto (p : SP) (r now : Int) : SP :=
  if ((r == 1 || r == 2) && p.state == 0) = true then { p with state := 1, since := now, role := r }
  else if (!(r == 1 || r == 2) && !(p.state == 0)) = true then { p with state := 0, since := now, role := r }
  else { p with role := r }

/-- all but its ports and how often they changed -/
structure SS.Like (s t : SS) : Prop where
  id : t.id = s.id
  ma : t.ma = s.ma
  he : t.he = s.he
  de : t.de = s.de
  best : t.best = s.best
  root : t.root = s.root
  now : t.now = s.now
  len : t.ports.length = s.ports.length
theorem SS.Like.refl (s : SS) : s.Like s := ⟨rfl, rfl, rfl, rfl, rfl, rfl, rfl, rfl⟩
theorem SS.Like.trans {s t u : SS} (h : s.Like t) (k : t.Like u) : s.Like u :=
  ⟨k.id.trans h.id, k.ma.trans h.ma, k.he.trans h.he, k.de.trans h.de, k.best.trans h.best, k.root.trans h.root, k.now.trans h.now, k.len.trans h.len⟩
theorem SS.like_put (s : SS) (i : Nat) (p : SP) : s.Like (s.put i p) := ⟨rfl, rfl, rfl, rfl, rfl, rfl, rfl, s.put_len i p⟩
theorem SS.like_moved (s : SS) (i : Nat) (st : Int) : s.Like (s.moved i st) := ⟨rfl, rfl, rfl, rfl, rfl, rfl, rfl, by unfold SS.moved; rw [SS.put_len]⟩
theorem SS.like_onto (s : SS) (i : Nat) (r : Int) : s.Like (s.onto i r) := by
  unfold SS.onto SS.setRole SS.ontoS
  split
  · exact (s.like_moved i 1).trans (SS.like_put _ _ _)
  · split
    · exact (s.like_moved i 0).trans (SS.like_put _ _ _)
    · exact SS.like_put _ _ _
theorem SS.port_moved (s : SS) (i j : Nat) (st : Int) (hi : i < s.ports.length) : (s.moved i st).port j = if j = i then { s.port i with state := st, since := s.now } else s.port j := by
  exact SS.port_put ({ s with chg := s.chg + (if decide ((s.port i).state = 3) = decide (st = 3) then 0 else 1) } : SS) i j { s.port i with state := st, since := s.now } hi
theorem SS.port_onto (s : SS) (i j : Nat) (r : Int) (hi : i < s.ports.length) : (s.onto i r).port j = if j = i then (s.port i).onto r s.now else s.port j := by
  unfold SS.onto SS.setRole SS.ontoS SP.onto
  by_cases h1 : ((r == 1 || r == 2) && (s.port i).state == 0) = true
  · rw [if_pos h1, if_pos h1, SS.port_put _ _ _ _ (by rw [(s.like_moved i 1).len]; exact hi), SS.port_moved _ _ _ _ hi, SS.port_moved _ _ _ _ hi, if_pos rfl]
    by_cases hj : j = i
    · rw [if_pos hj, if_pos hj]
    · rw [if_neg hj, if_neg hj, if_neg hj]
  · rw [if_neg h1, if_neg h1]
    by_cases h2 : (!(r == 1 || r == 2) && !((s.port i).state == 0)) = true
    · rw [if_pos h2, if_pos h2, SS.port_put _ _ _ _ (by rw [(s.like_moved i 0).len]; exact hi), SS.port_moved _ _ _ _ hi, SS.port_moved _ _ _ _ hi, if_pos rfl]
      by_cases hj : j = i
      · rw [if_pos hj, if_pos hj]
      · rw [if_neg hj, if_neg hj, if_neg hj]
    · rw [if_neg h2, if_neg h2, SS.port_put _ _ _ _ hi]
theorem SS.role_like {s t : SS} (h : s.Like t) (i : Nat) (hp : t.port i = s.port i) : t.role i = s.role i := by
  unfold SS.role SS.told
  rw [hp, h.root, h.best, h.id]
theorem foundF_like (s : SS) (c : Bool) : ∀ k, s.Like (foundF s c k).1
  | 0 => SS.Like.refl s
  | k + 1 => (foundF_like s c k).trans (SS.like_onto _ _ _)
theorem foundF_port (s : SS) (c : Bool) : ∀ k, k ≤ s.ports.length → ∀ j, (foundF s c k).1.port j = if j < k then (s.port j).onto (s.role j) s.now else s.port j
  | 0, _, j => by rw [if_neg (by omega)]; rfl
  | k + 1, hk, j => by
    have ih := foundF_port s c k (by omega)
    have hl := foundF_like s c k
    have hpk : (foundF s c k).1.port k = s.port k := by rw [ih, if_neg (by omega)]
    unfold foundF
    simp only
    rw [SS.port_onto _ _ _ _ (by rw [hl.len]; omega), SS.role_like hl k hpk, hpk, hl.now]
    by_cases hj : j = k
    · subst hj
      rw [if_pos rfl, if_pos (by omega)]
    · rw [if_neg hj, ih]
      by_cases hjk : j < k
      · rw [if_pos hjk, if_pos (by omega)]
      · rw [if_neg hjk, if_neg (by omega)]
theorem foundF_chg (s : SS) (c : Bool) : ∀ k, s.chg ≤ (foundF s c k).1.chg ∧ (foundF s c k).1.chg ≤ s.chg + k
  | 0 => ⟨Int.le_refl _, by unfold foundF; simp⟩
  | k + 1 => by
    have ih := foundF_chg s c k
    have := (foundF s c k).1.onto_chg k ((foundF s c k).1.role k)
    unfold foundF
    simp only
    omega
theorem SS.port_out (s : SS) (j : Nat) (h : s.ports.length ≤ j) : s.port j = .zero := by
  unfold SS.port
  simp [List.getD, h]
theorem SS.found_like (s : SS) : s.rooted.Like s.found.1 := foundF_like _ _ _
theorem SS.found_port (s : SS) (j : Nat) (hj : j < s.ports.length) : s.found.1.port j = (s.port j).onto (s.rooted.role j) s.now := by
  have h := foundF_port s.rooted s.changed s.ports.length (Nat.le_refl _) j
  rw [if_pos hj] at h
  exact h
theorem rootF_root (s : SS) : ∀ k, k ≤ s.ports.length → (rootF s k).2 = -1 ∨ ∃ j : Nat, (rootF s k).2 = j ∧ j < k
  | 0, _ => .inl rfl
  | k + 1, hk => by
    unfold rootF rootStep
    split
    · exact .inr ⟨k, rfl, by omega⟩
    · rcases rootF_root s k (by omega) with h | ⟨j, h, hj⟩
      · exact .inl h
      · exact .inr ⟨j, h, by omega⟩
theorem SS.rooted_root (s : SS) : s.rooted.RootOk := by
  rcases rootF_root s _ (Nat.le_refl _) with h | ⟨j, h, hj⟩
  · exact .inl (by show (rootF s s.ports.length).2 < 0; rw [h]; decide)
  · exact .inr ⟨j, h, hj⟩

/-- what always holds of a bridge's part -/
structure SS.Ok (s : SS) (n : Int) : Prop where
  chg : 0 ≤ s.chg ∧ s.chg ≤ n
  now : 0 ≤ s.now ∧ s.now ≤ n
  since : ∀ k, 0 ≤ (s.port k).since ∧ (s.port k).since ≤ s.now
  age : ∀ k, 0 ≤ (s.port k).w.age ∧ (s.port k).w.age ≤ 1000
  ma : 1 ≤ s.ma ∧ s.ma ≤ 1000
  he : 1 ≤ s.he ∧ s.he ≤ 100
  de : 1 ≤ s.de ∧ s.de ≤ 1000
  root : s.RootOk
  len : s.ports.length ≤ 100
  noroot : -1 ≤ s.root
theorem SS.Ok.mono {s : SS} {n m : Int} (h : s.Ok n) (hm : n ≤ m) : s.Ok m :=
  ⟨⟨h.chg.1, Int.le_trans h.chg.2 hm⟩, ⟨h.now.1, Int.le_trans h.now.2 hm⟩, h.since, h.age, h.ma, h.he, h.de, h.root, h.len, h.noroot⟩
theorem SS.Ok.ages {s : SS} {n : Int} (h : s.Ok n) : s.AgesOk := fun k => ⟨(h.age k).1, by have := (h.age k).2; omega⟩
theorem SP.onto_since (p : SP) (r now : Int) : (p.onto r now).since = p.since ∨ (p.onto r now).since = now := by
  unfold SP.onto
  split
  · exact .inr rfl
  · split
    · exact .inr rfl
    · exact .inl rfl
theorem SP.onto_w (p : SP) (r now : Int) : (p.onto r now).w = p.w ∧ (p.onto r now).heard = p.heard ∧ (p.onto r now).up = p.up ∧ (p.onto r now).cost = p.cost ∧ (p.onto r now).role = r := by
  unfold SP.onto
  split
  · exact ⟨rfl, rfl, rfl, rfl, rfl⟩
  · split
    · exact ⟨rfl, rfl, rfl, rfl, rfl⟩
    · exact ⟨rfl, rfl, rfl, rfl, rfl⟩
theorem SS.found_len (s : SS) : s.found.1.ports.length = s.ports.length := s.found_like.len
theorem SS.Ok.found {s : SS} {n : Int} (h : s.Ok n) : s.found.1.Ok (n + 100) := by
  have hl := s.found_like
  have hc := foundF_chg s.rooted s.changed s.ports.length
  have hln := h.len
  have hlen := s.found_len
  have h1 := h.chg
  have h2 := h.now
  have hp : ∀ k, (∃ r, s.found.1.port k = (s.port k).onto r s.now) ∨ s.found.1.port k = .zero := fun k => by
    by_cases hk : k < s.ports.length
    · exact .inl ⟨_, s.found_port k hk⟩
    · exact .inr (SS.port_out _ _ (by omega))
  have hnow : s.found.1.now = s.now := hl.now
  have hrt := s.rooted_root
  have hcr : s.rooted.chg = s.chg := rfl
  refine ⟨?_, ⟨by rw [hnow]; exact h2.1, by rw [hnow]; omega⟩, fun k => ?_, fun k => ?_, ?_, ?_, ?_, ?_, by omega, ?_⟩
  · rw [hcr] at hc
    constructor
    · exact Int.le_trans h1.1 hc.1
    · refine Int.le_trans hc.2 ?_
      omega
  · rw [hnow]
    have hs := h.since k
    rcases hp k with ⟨r, e⟩ | e
    · rw [e]
      rcases (s.port k).onto_since r s.now with e | e <;> rw [e] <;> omega
    · rw [e]
      show (0 : Int) ≤ 0 ∧ (0 : Int) ≤ s.now
      omega
  · have hs := h.age k
    rcases hp k with ⟨r, e⟩ | e
    · rw [e, ((s.port k).onto_w r s.now).1]
      exact hs
    · rw [e]
      exact ⟨Int.le_refl _, by decide⟩
  · rw [hl.ma]; exact h.ma
  · rw [hl.he]; exact h.he
  · rw [hl.de]; exact h.de
  · unfold SS.RootOk
    rw [hl.root, hl.len]
    exact hrt
  · rw [hl.root]
    rcases rootF_root s _ (Nat.le_refl _) with e | ⟨j, e, hj⟩
    · show -1 ≤ (rootF s s.ports.length).2
      rw [e]
      decide
    · show -1 ≤ (rootF s s.ports.length).2
      rw [e]
      omega
theorem SS.port_map (s : SS) (f : SP → SP) (k : Nat) (hk : k < s.ports.length) : ({ s with ports := s.ports.map f } : SS).port k = f (s.port k) := by
  unfold SS.port
  simp [List.getD, hk]
theorem SS.Ok.aged {s : SS} {n : Int} (h : s.Ok n) : s.aged.Ok n := by
  have hlen : s.aged.ports.length = s.ports.length := by unfold SS.aged; simp
  have hp : ∀ k, s.aged.port k = (s.port k).aged s.ma ∨ s.aged.port k = .zero := fun k => by
    by_cases hk : k < s.ports.length
    · exact .inl (s.port_map _ k hk)
    · exact .inr (SS.port_out _ _ (by omega))
  have hma := h.ma
  refine ⟨h.chg, h.now, fun k => ?_, fun k => ?_, h.ma, h.he, h.de, ?_, by rw [hlen]; exact h.len, h.noroot⟩
  · have hs := h.since k
    have hn := h.now
    rcases hp k with e | e
    · rw [e]
      have : ((s.port k).aged s.ma).since = (s.port k).since := by
        unfold SP.aged
        split
        · split <;> rfl
        · rfl
      rw [this]
      exact hs
    · rw [e]
      exact ⟨Int.le_refl _, hn.1⟩
  · have hs := h.age k
    rcases hp k with e | e
    · rw [e]
      unfold SP.aged
      split
      · split
        · exact ⟨Int.le_refl _, show (0 : Int) ≤ 1000 by decide⟩
        · rename_i hx
          simp only
          omega
      · exact hs
    · rw [e]
      exact ⟨Int.le_refl _, by decide⟩
  · rcases h.root with e | ⟨k, e, hk⟩
    · exact .inl e
    · exact .inr ⟨k, e, by rw [hlen]; exact hk⟩

/-- a port's state goes on, when it has waited -/
def SS.mature (s : SS) (i : Nat) : SS := if (((s.port i).state == 1 || (s.port i).state == 2) && decide (s.now - (s.port i).since ≥ s.de)) = true then s.moved i ((s.port i).state + 1) else s
def matF (s : SS) : Nat → SS
  | 0 => s
  | k + 1 => (matF s k).mature k
def SP.mature (p : SP) (now de : Int) : SP := if ((p.state == 1 || p.state == 2) && decide (now - p.since ≥ de)) = true then { p with state := p.state + 1, since := now } else p
theorem SS.like_mature (s : SS) (i : Nat) : s.Like (s.mature i) := by
  unfold SS.mature
  split
  · exact s.like_moved _ _
  · exact SS.Like.refl s
theorem matF_like (s : SS) : ∀ k, s.Like (matF s k)
  | 0 => SS.Like.refl s
  | k + 1 => (matF_like s k).trans (SS.like_mature _ _)
theorem SS.port_mature (s : SS) (i j : Nat) (hi : i < s.ports.length) : (s.mature i).port j = if j = i then (s.port i).mature s.now s.de else s.port j := by
  unfold SS.mature SP.mature
  split
  · rw [SS.port_moved _ _ _ _ hi]
  · by_cases hj : j = i
    · subst hj
      rw [if_pos rfl]
    · rw [if_neg hj]
theorem matF_port (s : SS) : ∀ k, k ≤ s.ports.length → ∀ j, (matF s k).port j = if j < k then (s.port j).mature s.now s.de else s.port j
  | 0, _, j => by rw [if_neg (by omega)]; rfl
  | k + 1, hk, j => by
    have ih := matF_port s k (by omega)
    have hl := matF_like s k
    have hpk : (matF s k).port k = s.port k := by rw [ih, if_neg (by omega)]
    unfold matF
    rw [SS.port_mature _ _ _ (by rw [hl.len]; omega), hpk, hl.now, hl.de]
    by_cases hj : j = k
    · subst hj
      rw [if_pos rfl, if_pos (by omega)]
    · rw [if_neg hj, ih]
      by_cases hjk : j < k
      · rw [if_pos hjk, if_pos (by omega)]
      · rw [if_neg hjk, if_neg (by omega)]
theorem SS.mature_chg (s : SS) (i : Nat) : s.chg ≤ (s.mature i).chg ∧ (s.mature i).chg ≤ s.chg + 1 := by
  unfold SS.mature
  split
  · exact s.moved_chg _ _
  · omega
theorem matF_chg (s : SS) : ∀ k, s.chg ≤ (matF s k).chg ∧ (matF s k).chg ≤ s.chg + k
  | 0 => ⟨Int.le_refl _, by unfold matF; simp⟩
  | k + 1 => by
    have ih := matF_chg s k
    have := (matF s k).mature_chg k
    unfold matF
    omega
theorem SS.Ok.mat {s : SS} {n : Int} (h : s.Ok n) : (matF s s.ports.length).Ok (n + 100) := by
  have hl := matF_like s s.ports.length
  have hc := matF_chg s s.ports.length
  have hln := h.len
  have h1 := h.chg
  have h2 := h.now
  have hp : ∀ k, (matF s s.ports.length).port k = (s.port k).mature s.now s.de ∨ (matF s s.ports.length).port k = .zero := fun k => by
    by_cases hk : k < s.ports.length
    · exact .inl (by rw [matF_port _ _ (Nat.le_refl _), if_pos hk])
    · exact .inr (SS.port_out _ _ (by rw [hl.len]; omega))
  refine ⟨by omega, ⟨by rw [hl.now]; exact h2.1, by rw [hl.now]; omega⟩, fun k => ?_, fun k => ?_, by rw [hl.ma]; exact h.ma, by rw [hl.he]; exact h.he, by rw [hl.de]; exact h.de, by unfold SS.RootOk; rw [hl.root, hl.len]; exact h.root, by rw [hl.len]; exact hln, by rw [hl.root]; exact h.noroot⟩
  · rw [hl.now]
    have hs := h.since k
    rcases hp k with e | e
    · rw [e]
      unfold SP.mature
      split
      · simp only
        omega
      · exact hs
    · rw [e]
      exact ⟨Int.le_refl _, h2.1⟩
  · have hs := h.age k
    rcases hp k with e | e
    · rw [e]
      unfold SP.mature
      split <;> exact hs
    · rw [e]
      exact ⟨Int.le_refl _, by decide⟩

def SS.next (s : SS) : SS := { s with now := s.now + 1 }
theorem SS.Ok.next {s : SS} {n : Int} (h : s.Ok n) : s.next.Ok (n + 1) := by
  have h1 := h.chg
  have h2 := h.now
  exact ⟨⟨h1.1, by show s.chg ≤ _; omega⟩, ⟨by show 0 ≤ s.now + 1; omega, by show s.now + 1 ≤ _; omega⟩, fun k => ⟨(h.since k).1, by have := (h.since k).2; show _ ≤ s.now + 1; exact Int.le_trans this (by omega)⟩, h.age, h.ma, h.he, h.de, h.root, h.len, h.noroot⟩
/-- what becomes of a tick -/
def SS.ticked (s : SS) : SS := matF s.next.aged.found.1 s.next.aged.found.1.ports.length
def SS.tick (s : SS) : SS × List SO := (s.ticked, if (decide (s.ticked.root ≥ 0) || s.ticked.now % s.ticked.he != 0) = true then [] else s.ticked.tells (fun _ => true))
theorem SS.Ok.ticked {s : SS} {n : Int} (h : s.Ok n) : s.ticked.Ok (n + 300) := (h.next.aged.found.mat).mono (by omega)
end Go.Proofs.Ytdhiaidbpjjljaa
