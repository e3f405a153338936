/- A bridge that hears nothing: what becomes of it, tick by tick. By an AI agent. -/
import Derived.Test.YtnpoholeemcklaaSpanForget0
namespace Go.Proofs.Ytnpoholeemcklaa
open Go.RowKit Go.WideShapes Go.Sort Grow

theorem foundF_chg_eq (s : SS) (c : Bool) (h : ∀ j, j < s.ports.length → (s.port j).state = 3 → s.role j = 1 ∨ s.role j = 2) : ∀ k, k ≤ s.ports.length → (foundF s c k).1.chg = s.chg
  | 0, _ => rfl
  | k + 1, hk => by
    have ih := foundF_chg_eq s c h k (by omega)
    have hl := foundF_like s c k
    have hpk : (foundF s c k).1.port k = s.port k := by rw [foundF_port _ _ _ (by omega), if_neg (by omega)]
    have hro : (foundF s c k).1.role k = s.role k := SS.role_like hl k hpk
    unfold foundF
    simp only
    rw [hro]
    unfold SS.onto SS.setRole SS.ontoS
    rw [hpk]
    by_cases h1 : ((s.role k == 1 || s.role k == 2) && (s.port k).state == 0) = true
    · rw [if_pos h1]
      have h0 : (s.port k).state = 0 := by
        simp only [Bool.and_eq_true, beq_iff_eq] at h1
        exact h1.2
      show ((foundF s c k).1.moved k 1).chg = s.chg
      unfold SS.moved
      rw [hpk, h0]
      show (foundF s c k).1.chg + _ = _
      rw [ih]
      simp
    · rw [if_neg h1]
      by_cases h2 : (!(s.role k == 1 || s.role k == 2) && !((s.port k).state == 0)) = true
      · rw [if_pos h2]
        have h3 : (s.port k).state ≠ 3 := fun h3 => by
          have := h k (by omega) h3
          rcases this with e | e <;> rw [e] at h2 <;> simp at h2
        show ((foundF s c k).1.moved k 0).chg = s.chg
        unfold SS.moved
        rw [hpk]
        show (foundF s c k).1.chg + _ = _
        rw [ih, decide_eq_false h3]
        simp
      · rw [if_neg h2]
        exact ih
theorem SS.found_chg_eq (s : SS) (h : ∀ j, j < s.ports.length → (s.port j).state = 3 → s.rooted.role j = 1 ∨ s.rooted.role j = 2) : s.found.1.chg = s.chg :=
  foundF_chg_eq s.rooted s.changed h s.ports.length (Nat.le_refl _)
/-- how many go on to forward -/
def cntM (s : SS) : Nat → Nat
  | 0 => 0
  | k + 1 => cntM s k + (if ((s.port k).state == 2 && decide (s.now - (s.port k).since ≥ s.de)) = true then 1 else 0)
theorem matF_chg_eq (s : SS) (h : ∀ j, j < s.ports.length → (s.port j).state ≠ 3) : ∀ k, k ≤ s.ports.length → (matF s k).chg = s.chg + cntM s k
  | 0, _ => by simp [matF, cntM]
  | k + 1, hk => by
    have ih := matF_chg_eq s h k (by omega)
    have hl := matF_like s k
    have hpk : (matF s k).port k = s.port k := by rw [matF_port _ _ (by omega), if_neg (by omega)]
    have hn3 := h k (by omega)
    unfold matF SS.mature cntM
    rw [hpk, hl.now, hl.de]
    by_cases h2 : (s.port k).state = 2
    · by_cases hc : decide (s.now - (s.port k).since ≥ s.de) = true
      · rw [hc, h2]
        simp only [if_true, Bool.and_true, beq_self_eq_true, Bool.or_true]
        unfold SS.moved
        rw [hpk, h2]
        show (matF s k).chg + _ = _
        rw [ih]
        simp
        omega
      · have hc' : decide (s.now - (s.port k).since ≥ s.de) = false := by simpa using hc
        rw [hc']
        simp only [Bool.and_false]
        simp
        exact ih
    · have hb2 : ((s.port k).state == 2) = false := by simpa using h2
      rw [hb2]
      by_cases h1 : (s.port k).state = 1
      · by_cases hc : decide (s.now - (s.port k).since ≥ s.de) = true
        · rw [hc, h1]
          simp only [beq_self_eq_true, Bool.true_or, Bool.and_true, if_true, Bool.false_and]
          unfold SS.moved
          rw [hpk, h1]
          show (matF s k).chg + _ = _
          rw [ih]
          simp
        · have hc' : decide (s.now - (s.port k).since ≥ s.de) = false := by simpa using hc
          rw [hc']
          simp only [Bool.and_false]
          simp
          exact ih
      · have hb1 : ((s.port k).state == 1) = false := by simpa using h1
        rw [hb1]
        simp
        exact ih
/-- a bridge that has heard nothing, found anew -/
theorem quiet_found (s : SS) (h : ∀ k, k < s.ports.length → (s.port k).heard = false) :
    s.rooted.root = -1 ∧ s.rooted.best = s.own ∧ ∀ k, k < s.ports.length → s.rooted.role k = if (s.port k).up = true then 2 else 0 := by
  have hrt := rootF_none s h _ (Nat.le_refl _)
  have hroot : s.rooted.root = -1 := by
    show (rootF _ _).2 = -1
    rw [hrt]
  refine ⟨hroot, ?_, fun k hk => ?_⟩
  · show (rootF _ _).1 = _
    rw [hrt]
  · unfold SS.role
    have hp : s.rooted.port k = s.port k := rfl
    rw [hp, h k hk, hroot]
    cases hu : (s.port k).up
    · simp
    · rw [if_neg (by simp), if_neg (by omega)]
      simp

/-- the state of a bridge that hears nothing: of k ports the first j were asked to be up, if even; where up, the state is st, since sc -/
structure Al (s : SS) (id : Id8) (ma he de : Int) (k j : Nat) (now st sc chg : Int) : Prop where
  id : s.id = id
  ma : s.ma = ma
  he : s.he = he
  de : s.de = de
  len : s.ports.length = k
  root : s.root = -1
  now : s.now = now
  chg : s.chg = chg
  port : ∀ p, p < k → (s.port p).heard = false ∧ (s.port p).up = (decide (p < j) && (p % 2 == 0)) ∧ ((s.port p).up = true → (s.port p).role = 2 ∧ (s.port p).state = st ∧ (s.port p).since = sc) ∧ ((s.port p).up = false → (s.port p).role = 0 ∧ (s.port p).state = 0)
theorem evens_succ (k : Nat) : (k + 1 + 1) / 2 = (k + 1) / 2 + (if k % 2 = 0 then 1 else 0) := by
  split <;> omega
theorem SP.onto_on (p : SP) (r now : Int) (hr : r = 2) (h0 : p.state ≠ 0) : p.onto r now = { p with role := 2 } := by
  unfold SP.onto
  subst hr
  have : (p.state == 0) = false := by simpa using h0
  rw [this]
  simp
theorem SP.onto_new (p : SP) (r now : Int) (hr : r = 2) (h0 : p.state = 0) : p.onto r now = { p with state := 1, since := now, role := 2 } := by
  unfold SP.onto
  subst hr
  rw [h0]
  simp
theorem SP.onto_off (p : SP) (r now : Int) (hr : r = 0) (h0 : p.state = 0) : p.onto r now = { p with role := 0 } := by
  unfold SP.onto
  subst hr
  rw [h0]
  simp
theorem al_count {s : SS} {id : Id8} {ma he de now st sc chg : Int} {k : Nat} (h : Al s id ma he de k k now st sc chg) : ∀ n, n ≤ k → countR s n = (n + 1) / 2
  | 0, _ => rfl
  | n + 1, hn => by
    have ih := al_count h n (by omega)
    obtain ⟨_, hu, h1, h2⟩ := h.port n (by omega)
    unfold countR
    rw [ih, evens_succ]
    by_cases he : n % 2 = 0
    · have hup : (s.port n).up = true := by rw [hu]; simp; omega
      rw [(h1 hup).1]
      simp [he]
    · have hup : (s.port n).up = false := by rw [hu]; simp; omega
      rw [(h2 hup).1]
      simp [he]
theorem al_fresh {id : Id8} {zs : List Int} {ma he de : Int} : Al (SS.fresh id zs ma he de).found.1 id ma he de zs.length 0 0 1 0 0 := by
  have hf := SS.fresh_same id zs ma he de
  have hlen : (SS.fresh id zs ma he de).ports.length = zs.length := by simp [SS.fresh]
  have hp : ∀ p, p < zs.length → ∃ c, (SS.fresh id zs ma he de).port p = SP.fresh c := fun p hp => ⟨zs[p], by unfold SS.port SS.fresh; simp [List.getD, hp]⟩
  have hq : ∀ k, k < (SS.fresh id zs ma he de).ports.length → ((SS.fresh id zs ma he de).port k).heard = false := fun k hk => by
    obtain ⟨c, e⟩ := hp k (by omega)
    rw [e]
    rfl
  obtain ⟨h1, h2, h3⟩ := quiet_found _ hq
  refine ⟨hf.1, hf.2.1, hf.2.2.1, hf.2.2.2.1, hf.2.2.2.2.1, (SS.found_like _).root.trans h1, hf.2.2.2.2.2, ?_, fun p hpz => ?_⟩
  · rw [SS.found_chg_eq]
    · rfl
    · intro j hj h
      obtain ⟨c, e⟩ := hp j (by omega)
      rw [e] at h
      cases h
  · obtain ⟨c, e⟩ := hp p hpz
    have h4 := h3 p (by omega)
    rw [e] at h4
    rw [SS.found_port _ _ (by omega), h4, e]
    have : (SP.fresh c).onto (if (SP.fresh c).up = true then 2 else 0) (SS.fresh id zs ma he de).now = { SP.fresh c with role := 0 } := by
      refine SP.onto_off _ _ _ ?_ rfl
      simp [SP.fresh]
    rw [this]
    refine ⟨rfl, ?_, fun h => ?_, fun _ => ⟨rfl, rfl⟩⟩
    · show false = _
      simp
    · cases h
theorem al_set {s : SS} {id : Id8} {ma he de : Int} {k j : Nat} (h : Al s id ma he de k j 0 1 0 0) (hj : j < k) : Al (s.setUp (j : Nat) (decide (j % 2 = 0))).1 id ma he de k (j + 1) 0 1 0 0 := by
  have hhas : s.has (j : Nat) = true := by unfold SS.has; simp; rw [h.len]; exact hj
  have he0 : (s.setUp (j : Nat) (decide (j % 2 = 0))).1 = (s.put j ((s.port j).upTo (decide (j % 2 = 0)))).found.1 := by
    unfold SS.setUp
    rw [if_pos hhas, Int.toNat_natCast]
    rfl
  rw [he0]
  have hjl : j < s.ports.length := by rw [h.len]; exact hj
  have hpp : ∀ p, (s.put j ((s.port j).upTo (decide (j % 2 = 0)))).port p = if p = j then (s.port j).upTo (decide (j % 2 = 0)) else s.port p := fun p => s.port_put _ _ _ hjl
  have hpj := h.port j hj
  have hjup : (s.port j).up = false := by rw [hpj.2.1]; simp
  have hjst := (hpj.2.2.2 hjup).2
  have hlen : (s.put j ((s.port j).upTo (decide (j % 2 = 0)))).ports.length = k := by rw [SS.put_len]; exact h.len
  have hup : ((s.port j).upTo (decide (j % 2 = 0))).up = decide (j % 2 = 0) ∧ ((s.port j).upTo (decide (j % 2 = 0))).heard = false ∧ ((s.port j).upTo (decide (j % 2 = 0))).state = 0 := by
    unfold SP.upTo
    by_cases he : j % 2 = 0
    · simp [he]
      exact ⟨hpj.1, hjst⟩
    · simp [he]
      exact hjst
  have hq : ∀ p, p < (s.put j ((s.port j).upTo (decide (j % 2 = 0)))).ports.length → ((s.put j ((s.port j).upTo (decide (j % 2 = 0)))).port p).heard = false := fun p hp => by
    rw [hpp]
    split
    · exact hup.2.1
    · exact (h.port p (by omega)).1
  obtain ⟨h1, h2, h3⟩ := quiet_found _ hq
  have hs := (s.put_same' j ((s.port j).upTo (decide (j % 2 = 0)))).trans (SS.found_same _)
  refine ⟨hs.id.trans h.id, hs.ma.trans h.ma, hs.he.trans h.he, hs.de.trans h.de, hs.len.trans h.len, (SS.found_like _).root.trans h1, (SS.found_now _).trans h.now, ?_, fun p hp => ?_⟩
  · rw [SS.found_chg_eq]
    · exact h.chg
    · intro q hq' h3'
      rw [hpp] at h3'
      split at h3'
      · rw [hup.2.2] at h3'
        cases h3'
      · have hpq := h.port q (by omega)
        cases hu : (s.port q).up
        · rw [(hpq.2.2.2 hu).2] at h3'
          cases h3'
        · rw [(hpq.2.2.1 hu).2.1] at h3'
          cases h3'
  · have h4 := h3 p (by omega)
    rw [SS.found_port _ _ (by omega), h4, hpp]
    have hnow : (s.put j ((s.port j).upTo (decide (j % 2 = 0)))).now = 0 := h.now
    rw [hnow]
    by_cases ep : p = j
    · subst ep
      rw [if_pos rfl]
      by_cases he : p % 2 = 0
      · have hu : ((s.port p).upTo (decide (p % 2 = 0))).up = true := by rw [hup.1]; simp [he]
        rw [if_pos hu, SP.onto_new _ _ _ rfl hup.2.2]
        refine ⟨hup.2.1, ?_, fun _ => ⟨rfl, rfl, rfl⟩, fun h => ?_⟩
        · show ((s.port p).upTo _).up = _
          rw [hu]
          simp [he]
        · have h : ((s.port p).upTo (decide (p % 2 = 0))).up = false := h
          rw [hu] at h
          cases h
      · have hu : ((s.port p).upTo (decide (p % 2 = 0))).up = false := by rw [hup.1]; simp [he]
        rw [if_neg (by rw [hu]; simp), SP.onto_off _ _ _ rfl hup.2.2]
        refine ⟨hup.2.1, ?_, fun h => ?_, fun _ => ⟨rfl, hup.2.2⟩⟩
        · show ((s.port p).upTo _).up = _
          rw [hu]
          simp [he]
        · have h : ((s.port p).upTo (decide (p % 2 = 0))).up = true := h
          rw [hu] at h
          cases h
    · rw [if_neg ep]
      obtain ⟨a1, a2, a3, a4⟩ := h.port p hp
      have hlt : decide (p < j + 1) = decide (p < j) := by
        by_cases hh : p < j
        · simp [hh]; omega
        · simp [hh]; omega
      cases hu : (s.port p).up
      · rw [if_neg (by simp), SP.onto_off _ _ _ rfl (a4 hu).2]
        refine ⟨a1, ?_, fun h => ?_, fun _ => ⟨rfl, (a4 hu).2⟩⟩
        · show (s.port p).up = _
          rw [a2, hlt]
        · have h : (s.port p).up = true := h
          rw [hu] at h
          cases h
      · rw [if_pos rfl, SP.onto_on _ _ _ rfl (by rw [(a3 hu).2.1]; decide)]
        refine ⟨a1, ?_, fun _ => ⟨rfl, (a3 hu).2⟩, fun h => ?_⟩
        · show (s.port p).up = _
          rw [a2, hlt]
        · have h : (s.port p).up = false := h
          rw [hu] at h
          cases h
/-- a tick -/
theorem al_tick {s : SS} {id : Id8} {ma he de now st sc chg : Int} {k : Nat} (h : Al s id ma he de k k now st sc chg) (h1 : 1 ≤ st) (h2 : st ≤ 2) :
    Al s.ticked id ma he de k k (now + 1) (if now + 1 - sc ≥ de then st + 1 else st) (if now + 1 - sc ≥ de then now + 1 else sc) (chg + (if st = 2 ∧ now + 1 - sc ≥ de then (((k + 1) / 2 : Nat) : Int) else 0)) := by
  have hs := s.ticked_same
  have hag : ∀ p, p < k → (s.port p).aged s.ma = s.port p := fun p hp => by
    unfold SP.aged
    rw [(h.port p hp).1]
    rfl
  have hpa : ∀ p, p < k → s.next.aged.port p = s.port p := fun p hp => by
    have := SS.port_map s.next (SP.aged s.next.ma) p (by show p < s.ports.length; rw [h.len]; exact hp)
    exact this.trans (hag p hp)
  have hal : s.next.aged.ports.length = k := by rw [SS.aged_len]; exact h.len
  have hq : ∀ p, p < s.next.aged.ports.length → (s.next.aged.port p).heard = false := fun p hp => by
    rw [hpa p (by omega)]
    exact (h.port p (by omega)).1
  obtain ⟨r1, r2, r3⟩ := quiet_found _ hq
  have hnow : s.ticked.now = now + 1 := by
    have := (matF_like s.next.aged.found.1 s.next.aged.found.1.ports.length).now
    show (matF _ _).now = _
    rw [this, SS.found_now]
    show s.now + 1 = _
    rw [h.now]
  have hfp : ∀ p, p < k → s.next.aged.found.1.port p = (if (s.port p).up = true then { s.port p with role := 2 } else { s.port p with role := 0 }) := fun p hp => by
    have hpp := h.port p hp
    rw [SS.found_port _ _ (by omega), r3 p (by omega), hpa p hp]
    cases hu : (s.port p).up
    · rw [if_neg (by simp), if_neg (by simp), SP.onto_off _ _ _ rfl (hpp.2.2.2 hu).2]
    · rw [if_pos rfl, if_pos rfl, SP.onto_on _ _ _ rfl (by rw [(hpp.2.2.1 hu).2.1]; omega)]
  have hfl : s.next.aged.found.1.ports.length = k := by rw [SS.found_len]; exact hal
  have hfn : s.next.aged.found.1.now = now + 1 := by
    rw [SS.found_now]
    show s.now + 1 = _
    rw [h.now]
  have hfd : s.next.aged.found.1.de = de := by
    rw [(SS.found_same _).de, s.next.aged_same.de]
    exact h.de
  have hno3 : ∀ j, j < s.next.aged.found.1.ports.length → (s.next.aged.found.1.port j).state ≠ 3 := fun j hj => by
    have hpp := h.port j (by omega)
    rw [hfp j (by omega)]
    cases hu : (s.port j).up
    · rw [if_neg (by simp)]
      show (s.port j).state ≠ 3
      rw [(hpp.2.2.2 hu).2]
      decide
    · rw [if_pos rfl]
      show (s.port j).state ≠ 3
      rw [(hpp.2.2.1 hu).2.1]
      omega
  have hcn : ∀ n, n ≤ k → cntM s.next.aged.found.1 n = if st = 2 ∧ now + 1 - sc ≥ de then (n + 1) / 2 else 0 := by
    intro n
    induction n with
    | zero => intro _; unfold cntM; split <;> rfl
    | succ n ih =>
      intro hn
      have hpp := h.port n (by omega)
      unfold cntM
      rw [ih (by omega), hfn, hfd, evens_succ]
      by_cases hev : n % 2 = 0
      · have hu : (s.port n).up = true := by rw [hpp.2.1]; simp; omega
        have hpn : s.next.aged.found.1.port n = { s.port n with role := 2 } := by rw [hfp n (by omega), if_pos hu]
        rw [hpn]
        simp only
        rw [(hpp.2.2.1 hu).2.1, (hpp.2.2.1 hu).2.2]
        by_cases hc : st = 2 ∧ now + 1 - sc ≥ de
        · rw [if_pos hc, if_pos hc, if_pos (by rw [hc.1]; simp; exact hc.2), if_pos hev]
        · rw [if_neg hc, if_neg hc, if_neg (by simp only [Bool.and_eq_true, beq_iff_eq, decide_eq_true_eq]; exact hc)]
      · have hu : (s.port n).up = false := by rw [hpp.2.1]; simp; omega
        have hpn : s.next.aged.found.1.port n = { s.port n with role := 0 } := by rw [hfp n (by omega), if_neg (by rw [hu]; simp)]
        have hz : (s.next.aged.found.1.port n).state = 0 := by rw [hpn]; exact (hpp.2.2.2 hu).2
        rw [hz]
        simp only [show ((0 : Int) == 2) = false from rfl, Bool.false_and, if_neg hev, Nat.add_zero]
        split <;> simp
  refine ⟨hs.id.trans h.id, hs.ma.trans h.ma, hs.he.trans h.he, hs.de.trans h.de, hs.len.trans h.len, ?_, hnow, ?_, fun p hp => ?_⟩
  · have := (matF_like s.next.aged.found.1 s.next.aged.found.1.ports.length).root
    show (matF _ _).root = _
    rw [this, (SS.found_like _).root]
    exact r1
  · show (matF _ _).chg = _
    rw [matF_chg_eq _ hno3 _ (Nat.le_refl _), hfl, hcn k (Nat.le_refl _), SS.found_chg_eq]
    · show s.chg + _ = _
      rw [h.chg]
      split <;> rfl
    · intro j hj h3
      rw [hpa j (by omega)] at h3
      have hpp := h.port j (by omega)
      cases hu : (s.port j).up
      · rw [(hpp.2.2.2 hu).2] at h3
        cases h3
      · rw [(hpp.2.2.1 hu).2.1] at h3
        omega
  · have hpp := h.port p hp
    have e : s.ticked.port p = (s.next.aged.found.1.port p).mature (now + 1) de := by
      have := matF_port s.next.aged.found.1 _ (Nat.le_refl _) p
      rw [if_pos (by omega), hfn, hfd] at this
      exact this
    rw [e, hfp p hp]
    cases hu : (s.port p).up
    · rw [if_neg (by simp)]
      have hz := (hpp.2.2.2 hu).2
      have em : ({ s.port p with role := 0 } : SP).mature (now + 1) de = { s.port p with role := 0 } := by
        unfold SP.mature
        rw [show ({ s.port p with role := 0 } : SP).state = 0 from hz]
        rfl
      rw [em]
      refine ⟨hpp.1, hpp.2.1, fun h => ?_, fun _ => ⟨rfl, hz⟩⟩
      have h : (s.port p).up = true := h
      rw [hu] at h
      cases h
    · rw [if_pos rfl]
      obtain ⟨_, b2, b3⟩ := hpp.2.2.1 hu
      have em : ({ s.port p with role := 2 } : SP).mature (now + 1) de = if now + 1 - sc ≥ de then { s.port p with role := 2, state := st + 1, since := now + 1 } else { s.port p with role := 2 } := by
        unfold SP.mature
        rw [show ({ s.port p with role := 2 } : SP).state = st from b2, show ({ s.port p with role := 2 } : SP).since = sc from b3]
        have h12 : (st == 1 || st == 2) = true := by
          simp
          omega
        rw [h12, Bool.true_and]
        by_cases hc : now + 1 - sc ≥ de
        · rw [if_pos (decide_eq_true hc), if_pos hc]
        · rw [if_neg (by simpa using hc), if_neg hc]
      rw [em]
      by_cases hc : now + 1 - sc ≥ de
      · rw [if_pos hc, if_pos hc, if_pos hc]
        refine ⟨hpp.1, hpp.2.1, fun _ => ⟨rfl, rfl, rfl⟩, fun h => ?_⟩
        have h : (s.port p).up = false := h
        rw [hu] at h
        cases h
      · rw [if_neg hc, if_neg hc, if_neg hc]
        refine ⟨hpp.1, hpp.2.1, fun _ => ⟨rfl, b2, b3⟩, fun h => ?_⟩
        have h : (s.port p).up = false := h
        rw [hu] at h
        cases h
/-- behind i ticks -/
def stA (d i : Nat) : Int := if i < d then 1 else if i < 2 * d then 2 else 3
def scA (d i : Nat) : Int := if i < d then 0 else if i < 2 * d then (d : Int) else ((2 * d : Nat) : Int)
def chA (k d i : Nat) : Int := if i < 2 * d then 0 else (((k + 1) / 2 : Nat) : Int)
theorem al_ticks {s : SS} {id : Id8} {ma he : Int} {d k : Nat} (h : Al s id ma he (d : Nat) k k 0 1 0 0) (hd : 1 ≤ d) : ∀ i, i ≤ 2 * d → Al (tickN s i) id ma he (d : Nat) k k (i : Nat) (stA d i) (scA d i) (chA k d i)
  | 0, _ => by
    have e1 : stA d 0 = 1 := by unfold stA; rw [if_pos (by omega)]
    have e2 : scA d 0 = 0 := by unfold scA; rw [if_pos (by omega)]
    have e3 : chA k d 0 = 0 := by unfold chA; rw [if_pos (by omega)]
    rw [e1, e2, e3]
    exact h
  | i + 1, hi => by
    have ih := al_ticks h hd i (by omega)
    have hst : 1 ≤ stA d i ∧ stA d i ≤ 2 := by
      unfold stA
      split
      · omega
      · rw [if_pos (by omega)]
        omega
    have ht := al_tick ih hst.1 hst.2
    have hnow : ((i : Nat) : Int) + 1 = ((i + 1 : Nat) : Int) := by omega
    rw [hnow] at ht
    have hcond : (((i + 1 : Nat) : Int) - scA d i ≥ (d : Nat)) ↔ (i + 1 = d ∨ i + 1 = 2 * d) := by
      unfold scA
      split
      · omega
      · rw [if_pos (by omega)]
        omega
    have e1 : (if ((i + 1 : Nat) : Int) - scA d i ≥ (d : Nat) then stA d i + 1 else stA d i) = stA d (i + 1) := by
      by_cases hc : i + 1 = d ∨ i + 1 = 2 * d
      · rw [if_pos (hcond.2 hc)]
        unfold stA
        rcases hc with hc | hc
        · rw [if_pos (by omega), if_neg (by omega), if_pos (by omega)]
          rfl
        · rw [if_neg (by omega), if_pos (by omega), if_neg (by omega), if_neg (by omega)]
          rfl
      · rw [if_neg (fun h => hc (hcond.1 h))]
        unfold stA
        split
        · rw [if_pos (by omega)]
        · rw [if_pos (by omega), if_neg (by omega), if_pos (by omega)]
    have e2 : (if ((i + 1 : Nat) : Int) - scA d i ≥ (d : Nat) then ((i + 1 : Nat) : Int) else scA d i) = scA d (i + 1) := by
      by_cases hc : i + 1 = d ∨ i + 1 = 2 * d
      · rw [if_pos (hcond.2 hc)]
        unfold scA
        rcases hc with hc | hc
        · rw [if_neg (by omega), if_pos (by omega)]
          omega
        · rw [if_neg (by omega), if_neg (by omega)]
          omega
      · rw [if_neg (fun h => hc (hcond.1 h))]
        unfold scA
        split
        · rw [if_pos (by omega)]
        · rw [if_pos (by omega), if_neg (by omega), if_pos (by omega)]
    have e3 : chA k d i + (if stA d i = 2 ∧ ((i + 1 : Nat) : Int) - scA d i ≥ (d : Nat) then (((k + 1) / 2 : Nat) : Int) else 0) = chA k d (i + 1) := by
      unfold chA
      rw [if_pos (by omega)]
      by_cases hc : i + 1 = 2 * d
      · rw [if_pos ⟨by unfold stA; rw [if_neg (by omega), if_pos (by omega)], hcond.2 (.inr hc)⟩, if_neg (by omega)]
        omega
      · rw [if_neg, if_pos (by omega)]
        · rfl
        · rintro ⟨a1, a2⟩
          rcases hcond.1 a2 with a3 | a3
          · unfold stA at a1
            rw [if_pos (by omega)] at a1
            cases a1
          · exact hc a3
    rw [e1, e2, e3] at ht
    exact ht
theorem stA_div (d i : Nat) (hd : 1 ≤ d) (hd8 : d ≤ 8) (hi : i ≤ 2 * d) : ((1 + i / d : Nat) : Int) = stA d i := by
  unfold stA
  rcases (show d = 1 ∨ d = 2 ∨ d = 3 ∨ d = 4 ∨ d = 5 ∨ d = 6 ∨ d = 7 ∨ d = 8 from by omega) with rfl | rfl | rfl | rfl | rfl | rfl | rfl | rfl <;> (split <;> (try split) <;> omega)
theorem div_step (h i : Nat) (h1 : 1 ≤ h) (h5 : h ≤ 5) : (i + 1) / h = i / h + (if (i + 1) % h = 0 then 1 else 0) := by
  rcases (show h = 1 ∨ h = 2 ∨ h = 3 ∨ h = 4 ∨ h = 5 from by omega) with rfl | rfl | rfl | rfl | rfl <;> split <;> omega
/-- how much is told -/
theorem al_told {s : SS} {id : Id8} {ma : Int} {h d k i : Nat} (ht : Al (tickN s (i + 1)) id ma (h : Nat) (d : Nat) k k ((i + 1 : Nat) : Int) (stA d (i + 1)) (scA d (i + 1)) (chA k d (i + 1))) (h1 : 1 ≤ h) (h5 : h ≤ 5) :
    (tickN s i).tick.2.length = ((i + 1) / h - i / h) * ((k + 1) / 2) := by
  have htt := (tickN s i).tick_told.1
  have e : (tickN s i).ticked = tickN s (i + 1) := rfl
  rw [e, ht.root, ht.now, ht.he, ht.len, al_count ht k (Nat.le_refl _)] at htt
  rw [htt, div_step h i h1 h5]
  have hm : ((((i + 1 : Nat) : Int) % (h : Nat)) != 0) = decide ((i + 1) % h ≠ 0) := by
    rw [Bool.eq_iff_iff]
    simp only [bne_iff_ne, ne_eq, decide_eq_true_eq]
    omega
  rw [hm, show decide ((-1 : Int) ≥ 0) = false from rfl, Bool.false_or]
  by_cases hc : (i + 1) % h = 0
  · rw [if_neg (by simp [hc]), if_pos hc, Nat.add_sub_cancel_left, Nat.one_mul]
  · rw [if_pos (by simp [hc]), if_neg hc, Nat.add_zero, Nat.sub_self, Nat.zero_mul]
end Go.Proofs.Ytnpoholeemcklaa
