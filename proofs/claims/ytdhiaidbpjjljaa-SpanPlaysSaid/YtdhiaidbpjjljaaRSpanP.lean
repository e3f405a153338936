/- causeyref17: found, in plain Lean; vectors compared. By an AI agent. -/
import Derived.Test.YtdhiaidbpjjljaaRSpan1
namespace Go.Proofs.Ytdhiaidbpjjljaa
open Go.RowKit Go.WideShapes Go.Sort Grow

set_option maxRecDepth 20000 in
theorem run_equalIn_rv0 (d : Nat) (r b r' b' : Nat → UInt8) (c p c' p' : Int) (w : World) :
    (Op.equalIn (d + 1 + 1 + 1) 57 (.agg #[.int .u8 ((r 0).toNat : Int), .int .u8 ((r 1).toNat : Int), .int .u8 ((r 2).toNat : Int), .int .u8 ((r 3).toNat : Int), .int .u8 ((r 4).toNat : Int), .int .u8 ((r 5).toNat : Int), .int .u8 ((r 6).toNat : Int), .int .u8 ((r 7).toNat : Int), .int .i64 c, .int .u8 ((b 0).toNat : Int), .int .u8 ((b 1).toNat : Int), .int .u8 ((b 2).toNat : Int), .int .u8 ((b 3).toNat : Int), .int .u8 ((b 4).toNat : Int), .int .u8 ((b 5).toNat : Int), .int .u8 ((b 6).toNat : Int), .int .u8 ((b 7).toNat : Int), .int .i64 p]) (.agg #[.int .u8 ((r' 0).toNat : Int), .int .u8 ((r' 1).toNat : Int), .int .u8 ((r' 2).toNat : Int), .int .u8 ((r' 3).toNat : Int), .int .u8 ((r' 4).toNat : Int), .int .u8 ((r' 5).toNat : Int), .int .u8 ((r' 6).toNat : Int), .int .u8 ((r' 7).toNat : Int), .int .i64 c', .int .u8 ((b' 0).toNat : Int), .int .u8 ((b' 1).toNat : Int), .int .u8 ((b' 2).toNat : Int), .int .u8 ((b' 3).toNat : Int), .int .u8 ((b' 4).toNat : Int), .int .u8 ((b' 5).toNat : Int), .int .u8 ((b' 6).toNat : Int), .int .u8 ((b' 7).toNat : Int), .int .i64 p'])).run Try.prog w = .ok (eqB [r 0, r 1, r 2, r 3, r 4, r 5, r 6, r 7] [r' 0, r' 1, r' 2, r' 3, r' 4, r' 5, r' 6, r' 7] && (c == c' && (eqB [b 0, b 1, b 2, b 3, b 4, b 5, b 6, b 7] [b' 0, b' 1, b' 2, b' 3, b' 4, b' 5, b' 6, b' 7] && p == p'))) w := by
  have m1 := run_equalIn_id8 d r r' w
  have m2 := run_equalIn_id8 d b b' w
  generalize eqB [r 0, r 1, r 2, r 3, r 4, r 5, r 6, r 7] [r' 0, r' 1, r' 2, r' 3, r' 4, r' 5, r' 6, r' 7] = e1 at m1 ⊢
  generalize eqB [b 0, b 1, b 2, b 3, b 4, b 5, b 6, b 7] [b' 0, b' 1, b' 2, b' 3, b' 4, b' 5, b' 6, b' 7] = e2 at m2 ⊢
  have k3 : (c == c') = decide (c = c') := by rw [Bool.eq_iff_iff]; simp
  have k4 : (p == p') = decide (p = p') := by rw [Bool.eq_iff_iff]; simp
  rw [k3, k4]
  by_cases h3 : c = c' <;> by_cases h4 : p = p' <;> cases e1 <;> cases e2 <;> go_simp

theorem run_equalIn_rv (d : Nat) (v u : SV) (w : World) : (Op.equalIn (d + 1 + 1 + 1) 57 (.agg v.cells) (.agg u.cells)).run Try.prog w = .ok (decide (v = u)) w := by
  refine (run_equalIn_rv0 d v.r.f v.b.f u.r.f u.b.f v.c v.p u.c u.p w).trans ?_
  congr 1
  rw [eqB_id, eqB_id]
  have k3 : (v.c == u.c) = decide (v.c = u.c) := by rw [Bool.eq_iff_iff]; simp
  have k4 : (v.p == u.p) = decide (v.p = u.p) := by rw [Bool.eq_iff_iff]; simp
  rw [k3, k4]
  by_cases h1 : v.r = u.r <;> by_cases h2 : v.c = u.c <;> by_cases h3 : v.b = u.b <;> by_cases h4 : v.p = u.p
  all_goals first
    | (rw [decide_eq_true (SV.ext_of h1 h2 h3 h4)]; simp [h1, h2, h3, h4])
    | (rw [decide_eq_false (p := v = u) (fun e => by subst e; simp at *)]; simp [h1, h2, h3, h4])

/-- a state, found anew -/
def stn (r st : Int) : Int := if r = 0 ∨ r = 3 then 0 else if st = 0 then 1 else st
theorem SS.role_four (s : SS) (i : Nat) : s.role i = 0 ∨ s.role i = 1 ∨ s.role i = 2 ∨ s.role i = 3 := by
  unfold SS.role
  split
  · exact .inl rfl
  · split
    · exact .inr (.inl rfl)
    · split
      · exact .inr (.inr (.inl rfl))
      · exact .inr (.inr (.inr rfl))
theorem SS.port_put1 (s : SS) (i : Nat) (p : SP) (hi : i < s.ports.length) : (s.put i p).port i = p := by
  unfold SS.put SS.port
  simp [List.getD, hi]
/-- what the document does to a port, and to the count of changes -/
theorem SS.onto_ref (s : SS) (i : Nat) (r : Int) (hi : i < s.ports.length) (hr : r = 0 ∨ r = 1 ∨ r = 2 ∨ r = 3) :
    (stn r (s.port i).state = (s.port i).state ∧ s.onto i r = s.put i { s.port i with role := r }) ∨
    (stn r (s.port i).state ≠ (s.port i).state ∧ (s.port i).state = 3 ∧ s.onto i r = { s with chg := s.chg + 1 }.put i { s.port i with state := stn r (s.port i).state, since := s.now, role := r }) ∨
    (stn r (s.port i).state ≠ (s.port i).state ∧ (s.port i).state ≠ 3 ∧ s.onto i r = s.put i { s.port i with state := stn r (s.port i).state, since := s.now, role := r }) := by
  have hmv : ∀ st, ((s.moved i st).setRole i r) = { s with chg := s.chg + (if decide ((s.port i).state = 3) = decide (st = 3) then 0 else 1) }.put i { s.port i with state := st, since := s.now, role := r } := fun st => by
    unfold SS.setRole SS.moved
    rw [SS.port_put1 _ _ _ (by exact hi), SS.put_put]
  unfold SS.onto SS.ontoS
  have hon : (r == 1 || r == 2) = decide (¬ (r = 0 ∨ r = 3)) := by rcases hr with rfl | rfl | rfl | rfl <;> rfl
  rw [hon]
  unfold stn
  by_cases h0 : (s.port i).state = 0
  · have h1 : ((s.port i).state == 0) = true := by simpa using h0
    rw [h1]
    by_cases hc : r = 0 ∨ r = 3
    · refine .inl ⟨by rw [if_pos hc, h0], ?_⟩
      rw [if_neg (by simp [hc]), if_neg (by simp)]
      rfl
    · refine .inr (.inr ⟨by rw [if_neg hc, if_pos h0, h0]; decide, by rw [h0]; decide, ?_⟩)
      rw [if_pos (by simp [hc]), hmv, if_neg hc, if_pos h0, if_pos (by rw [h0]; rfl)]
      simp
  · have h1 : ((s.port i).state == 0) = false := by simpa using h0
    rw [h1]
    by_cases hc : r = 0 ∨ r = 3
    · have e1 : (if r = 0 ∨ r = 3 then (0 : Int) else if (s.port i).state = 0 then 1 else (s.port i).state) = 0 := if_pos hc
      rw [e1, if_neg (by simp), if_pos (by simp [hc]), hmv]
      by_cases h3 : (s.port i).state = 3
      · refine .inr (.inl ⟨fun e => h0 e.symm, h3, ?_⟩)
        rw [if_neg (by rw [h3]; decide)]
      · refine .inr (.inr ⟨fun e => h0 e.symm, h3, ?_⟩)
        rw [if_pos (by rw [decide_eq_false h3]; rfl)]
        simp
    · refine .inl ⟨by rw [if_neg hc, if_neg h0], ?_⟩
      rw [if_neg (by simp), if_neg (by simp [hc])]
      rfl
/-- costs that may be -/
def SP.Fit (p : SP) : Prop := (0 ≤ p.w.c ∧ p.w.c ≤ 1073741824) ∧ 0 ≤ p.cost ∧ p.cost ≤ 65535
def SS.Fit (s : SS) : Prop := ∀ k, (s.port k).Fit
theorem SP.Fit.over {p : SP} (h : p.Fit) : p.over = ⟨p.w.r, p.w.c + p.cost, p.w.b, p.w.p⟩ := by
  obtain ⟨⟨h1, h2⟩, h3, h4⟩ := h
  have e1 : Vec.held p.w.c = p.w.c := by unfold Vec.held; omega
  have e2 : Vec.held p.cost = p.cost := by unfold Vec.held; omega
  unfold SP.over
  rw [e1, e2]
theorem SP.zero_fit : SP.zero.Fit := ⟨⟨by decide, by decide⟩, by decide, by decide⟩
theorem SS.Fit.of_ports {s t : SS} (h : s.Fit) (hl : t.ports.length ≤ s.ports.length) (hp : ∀ k, k < s.ports.length → (t.port k).w.c = (s.port k).w.c ∧ (t.port k).cost = (s.port k).cost) : t.Fit := fun k => by
  by_cases hk : k < s.ports.length
  · obtain ⟨h1, h2⟩ := hp k hk
    unfold SP.Fit
    rw [h1, h2]
    exact h k
  · rw [SS.port_out t k (by omega)]
    exact SP.zero_fit
theorem SS.Fit.found {s : SS} (h : s.Fit) : s.found.1.Fit := h.of_ports (Nat.le_of_eq s.found_len) (fun k hk => by
  rw [s.found_port k hk]
  have := (s.port k).onto_w (s.rooted.role k) s.now
  exact ⟨by rw [this.1], this.2.2.2.1⟩)
theorem foundF_fit {s : SS} (h : s.Fit) (c : Bool) (k : Nat) (hk : k ≤ s.ports.length) : (foundF s c k).1.Fit := h.of_ports (Nat.le_of_eq (foundF_like s c k).len) (fun j hj => by
  rw [foundF_port s c k hk j]
  split
  · have := (s.port j).onto_w (s.role j) s.now
    exact ⟨by rw [this.1], this.2.2.2.1⟩
  · exact ⟨rfl, rfl⟩)
theorem SS.port_get (s : SS) {i : Nat} (hi : i < s.ports.length) : s.ports[i] = s.port i := by
  unfold SS.port
  simp [List.getD, hi]
end Go.Proofs.Ytdhiaidbpjjljaa
