/- Two bridges over one link: what becomes of them. By an AI agent. -/
import Derived.Test.YtnpoholeemcklaaSpanAlone0
namespace Go.Proofs.Ytnpoholeemcklaa
open Go.RowKit Go.WideShapes Go.Sort Grow

/-- one port of two is up -/
structure One (s : SS) (id : Id8) (ma he de : Int) (q : Nat) (now st sc : Int) : Prop where
  id : s.id = id
  ma : s.ma = ma
  he : s.he = he
  de : s.de = de
  len : s.ports.length = 2
  now : s.now = now
  hq : q < 2
  cost : (s.port q).cost = 20
  up : (s.port q).up = true
  st : (s.port q).state = st
  sc : (s.port q).since = sc
  down : (s.port (1 - q)).up = false ∧ (s.port (1 - q)).role = 0 ∧ (s.port (1 - q)).state = 0

theorem rootF_two (s : SS) (hl : s.ports.length = 2) (q : Nat) (hq : q < 2) (hd : (s.port (1 - q)).up = false) : rootF s s.ports.length = rootStep s q (s.own, -1) := by
  rw [hl]
  rcases (show q = 0 ∨ q = 1 from by omega) with rfl | rfl
  · show rootStep s 1 (rootStep s 0 (s.own, -1)) = _
    have hd : (s.port 1).up = false := hd
    generalize rootStep s 0 (s.own, -1) = z
    unfold rootStep
    rw [hd]
    simp
  · show rootStep s 1 (rootStep s 0 (s.own, -1)) = _
    have hd : (s.port 0).up = false := hd
    have : rootStep s 0 (s.own, -1) = (s.own, -1) := by
      unfold rootStep
      rw [hd]
      simp
    rw [this]

/-- what is heard is worse than what one tells -/
def Wkp (id : Id8) (p : SP) : Prop := p.heard = true → p.w.c = 0 ∧ Ord.lt id.l p.w.r.l = true
/-- what is heard is a better root -/
structure Stp (lid : Id8) (lp a : Int) (p : SP) : Prop where
  heard : p.heard = true
  r : p.w.r = lid
  b : p.w.b = lid
  c : p.w.c = 0
  pt : p.w.p = lp
  age : p.w.age = a

theorem sv_better_r {v u : SV} (h : Ord.lt v.r.l u.r.l = true) : v.better u = true := by
  unfold SV.better
  rw [Vec.better_iff]
  exact .inl h
theorem sv_worse_r {v u : SV} (h : Ord.lt u.r.l v.r.l = true) : v.better u = false := by
  cases hb : v.better u
  · rfl
  · unfold SV.better at hb
    have h2 := Vec.better_asymm hb
    have h3 := sv_better_r h
    unfold SV.better at h3
    rw [h3] at h2
    cases h2

theorem over_wk {id : Id8} {p : SP} (h : Wkp id p) (s : SS) (hid : s.id = id) : (p.heard && p.over.better s.own) = false := by
  cases hh : p.heard
  · rfl
  · have := h hh
    rw [Bool.true_and]
    refine sv_worse_r ?_
    show Ord.lt s.id.l p.w.r.l = true
    rw [hid]
    exact this.2

theorem two_root_wk (s : SS) {id : Id8} (hid : s.id = id) (hl : s.ports.length = 2) (q : Nat) (hq : q < 2) (hd : (s.port (1 - q)).up = false) (hw : Wkp id (s.port q)) : s.rooted.root = -1 ∧ s.rooted.best = s.own := by
  have h := rootF_two s hl q hq hd
  have h2 : rootStep s q (s.own, -1) = (s.own, -1) := by
    unfold rootStep
    have := over_wk hw s hid
    simp only
    rw [Bool.and_assoc, this]
    simp
  rw [h2] at h
  exact ⟨by show (rootF _ _).2 = -1; rw [h], by show (rootF _ _).1 = _; rw [h]⟩
theorem two_root_st (s : SS) {id lid : Id8} {lp a : Int} (hid : s.id = id) (hlt : Ord.lt lid.l id.l = true) (hl : s.ports.length = 2) (q : Nat) (hq : q < 2) (hd : (s.port (1 - q)).up = false) (hu : (s.port q).up = true) (hc : (s.port q).cost = 20) (hw : Stp lid lp a (s.port q)) :
    s.rooted.root = (q : Int) ∧ s.rooted.best = ⟨lid, 20, lid, lp⟩ := by
  have h := rootF_two s hl q hq hd
  have ho : (s.port q).over = ⟨lid, 20, lid, lp⟩ := by
    unfold SP.over
    rw [hw.r, hw.b, hw.c, hw.pt, hc]
    rfl
  have h2 : rootStep s q (s.own, -1) = ((⟨lid, 20, lid, lp⟩ : SV), (q : Int)) := by
    unfold rootStep
    simp only
    rw [hu, hw.heard, ho]
    have : (⟨lid, 20, lid, lp⟩ : SV).better s.own = true := by
      refine sv_better_r ?_
      show Ord.lt lid.l s.id.l = true
      rw [hid]
      exact hlt
    rw [this]
    rfl
  rw [h2] at h
  exact ⟨by show (rootF _ _).2 = _; rw [h], by show (rootF _ _).1 = _; rw [h]⟩
theorem two_role_wk (s : SS) {id : Id8} (hid : s.id = id) (hl : s.ports.length = 2) (q : Nat) (hq : q < 2) (hd : (s.port (1 - q)).up = false) (hu : (s.port q).up = true) (hw : Wkp id (s.port q)) : s.rooted.role q = 2 ∧ s.rooted.role (1 - q) = 0 := by
  obtain ⟨h1, h2⟩ := two_root_wk s hid hl q hq hd hw
  have hp : ∀ k, s.rooted.port k = s.port k := fun k => rfl
  constructor
  · unfold SS.role
    rw [hp, hu, h1, if_neg (by simp), if_neg (by omega), if_pos]
    cases hh : (s.port q).heard
    · rfl
    · simp only [Bool.not_true, Bool.false_or]
      refine sv_better_r ?_
      show Ord.lt (s.rooted.best.r).l (s.port q).w.r.l = true
      rw [h2]
      show Ord.lt s.id.l _ = true
      rw [hid]
      exact (hw hh).2
  · unfold SS.role
    rw [hp, hd, if_pos rfl]
theorem two_role_st (s : SS) {id lid : Id8} {lp a : Int} (hid : s.id = id) (hlt : Ord.lt lid.l id.l = true) (hl : s.ports.length = 2) (q : Nat) (hq : q < 2) (hd : (s.port (1 - q)).up = false) (hu : (s.port q).up = true) (hc : (s.port q).cost = 20) (hw : Stp lid lp a (s.port q)) :
    s.rooted.role q = 1 ∧ s.rooted.role (1 - q) = 0 := by
  obtain ⟨h1, h2⟩ := two_root_st s hid hlt hl q hq hd hu hc hw
  have hp : ∀ k, s.rooted.port k = s.port k := fun k => rfl
  constructor
  · unfold SS.role
    rw [hp, hu, h1, if_neg (by simp), if_pos rfl]
  · unfold SS.role
    rw [hp, hd, if_pos rfl]

/-- it is the root -/
structure Lo (s : SS) (id : Id8) (ma he de : Int) (q : Nat) (now st sc : Int) : Prop where
  one : One s id ma he de q now st sc
  root : s.root = -1
  best : s.best = ⟨id, 0, id, 0⟩
  role : (s.port q).role = 2
  wk : Wkp id (s.port q)
/-- the other one is -/
structure Hg (s : SS) (id lid : Id8) (lp ma he de : Int) (q : Nat) (now st sc a : Int) : Prop where
  one : One s id ma he de q now st sc
  root : s.root = (q : Int)
  best : s.best = ⟨lid, 20, lid, lp⟩
  role : (s.port q).role = 1
  str : Stp lid lp a (s.port q)

theorem SP.onto_root (p : SP) (r now : Int) (hr : r = 1 ∨ r = 2) (h0 : p.state ≠ 0) : p.onto r now = { p with role := r } := by
  unfold SP.onto
  have h1 : (p.state == 0) = false := by simpa using h0
  have h2 : (r == 1 || r == 2) = true := by rcases hr with rfl | rfl <;> rfl
  rw [h1, h2]
  rfl
theorem found_one (s : SS) {id : Id8} {ma he de : Int} {q : Nat} {now st sc : Int} (h : One s id ma he de q now st sc) (hst : st ≠ 0) (r : Int) (hr : r = 1 ∨ r = 2) (h1 : s.rooted.role q = r) (h2 : s.rooted.role (1 - q) = 0) :
    One s.found.1 id ma he de q now st sc ∧ s.found.1.port q = { s.port q with role := r } := by
  have hs := s.found_same
  have hq := h.hq
  have hp : s.found.1.port q = { s.port q with role := r } := by
    rw [s.found_port q (by rw [h.len]; exact hq), h1, SP.onto_root _ _ _ hr (by rw [h.st]; exact hst)]
  have hp2 : s.found.1.port (1 - q) = { s.port (1 - q) with role := 0 } := by
    rw [s.found_port (1 - q) (by rw [h.len]; omega), h2, SP.onto_off _ _ _ rfl h.down.2.2]
  refine ⟨⟨hs.id.trans h.id, hs.ma.trans h.ma, hs.he.trans h.he, hs.de.trans h.de, hs.len.trans h.len, s.found_now.trans h.now, hq, ?_, ?_, ?_, ?_, ?_⟩, hp⟩
  · rw [hp]; exact h.cost
  · rw [hp]; exact h.up
  · rw [hp]; exact h.st
  · rw [hp]; exact h.sc
  · rw [hp2]
    exact ⟨h.down.1, rfl, h.down.2.2⟩
theorem found_lo (s : SS) {id : Id8} {ma he de : Int} {q : Nat} {now st sc : Int} (h : One s id ma he de q now st sc) (hst : st ≠ 0) (hw : Wkp id (s.port q)) : Lo s.found.1 id ma he de q now st sc := by
  obtain ⟨r1, r2⟩ := two_role_wk s h.id h.len q h.hq h.down.1 h.up hw
  obtain ⟨t1, t2⟩ := two_root_wk s h.id h.len q h.hq h.down.1 hw
  obtain ⟨ho, hp⟩ := found_one s h hst 2 (.inr rfl) r1 r2
  refine ⟨ho, (SS.found_like s).root.trans t1, ?_, by rw [hp], by rw [hp]; exact hw⟩
  rw [(SS.found_like s).best, t2]
  show (⟨s.id, 0, s.id, 0⟩ : SV) = _
  rw [h.id]
theorem found_hg (s : SS) {id lid : Id8} {lp a ma he de : Int} {q : Nat} {now st sc : Int} (h : One s id ma he de q now st sc) (hst : st ≠ 0) (hlt : Ord.lt lid.l id.l = true) (hw : Stp lid lp a (s.port q)) : Hg s.found.1 id lid lp ma he de q now st sc a := by
  obtain ⟨r1, r2⟩ := two_role_st s h.id hlt h.len q h.hq h.down.1 h.up h.cost hw
  obtain ⟨t1, t2⟩ := two_root_st s h.id hlt h.len q h.hq h.down.1 h.up h.cost hw
  obtain ⟨ho, hp⟩ := found_one s h hst 1 (.inl rfl) r1 r2
  refine ⟨ho, (SS.found_like s).root.trans t1, (SS.found_like s).best.trans t2, by rw [hp], ?_⟩
  rw [hp]
  exact ⟨hw.heard, hw.r, hw.b, hw.c, hw.pt, hw.age⟩

theorem stA_pos (d i : Nat) : stA d i ≠ 0 ∧ 1 ≤ stA d i := by
  unfold stA
  split
  · decide
  · split <;> decide
theorem mature_stA (p : SP) (d i : Nat) (hd : 1 ≤ d) (h1 : p.state = stA d i) (h2 : p.since = scA d i) : (p.mature ((i : Int) + 1) d).state = stA d (i + 1) ∧ (p.mature ((i : Int) + 1) d).since = scA d (i + 1) := by
  unfold SP.mature
  rw [h1, h2]
  by_cases c1 : i < d
  · have e1 : stA d i = 1 := by unfold stA; rw [if_pos c1]
    have e2 : scA d i = 0 := by unfold scA; rw [if_pos c1]
    rw [e1, e2]
    by_cases c2 : i + 1 = d
    · rw [if_pos (by simp; omega)]
      unfold stA scA
      rw [if_neg (by omega), if_pos (by omega), if_neg (by omega), if_pos (by omega)]
      exact ⟨rfl, by simp only; omega⟩
    · rw [if_neg (by simp; omega)]
      unfold stA scA
      rw [if_pos (by omega), if_pos (by omega)]
      exact ⟨h1.trans e1, h2.trans e2⟩
  · by_cases c3 : i < 2 * d
    · have e1 : stA d i = 2 := by unfold stA; rw [if_neg c1, if_pos c3]
      have e2 : scA d i = (d : Int) := by unfold scA; rw [if_neg c1, if_pos c3]
      rw [e1, e2]
      by_cases c2 : i + 1 = 2 * d
      · rw [if_pos (by simp; omega)]
        unfold stA scA
        rw [if_neg (by omega), if_neg (by omega), if_neg (by omega), if_neg (by omega)]
        exact ⟨rfl, by simp only; omega⟩
      · rw [if_neg (by simp; omega)]
        unfold stA scA
        rw [if_neg (by omega), if_pos (by omega), if_neg (by omega), if_pos (by omega)]
        exact ⟨h1.trans e1, h2.trans e2⟩
    · have e1 : stA d i = 3 := by unfold stA; rw [if_neg c1, if_neg c3]
      rw [e1]
      rw [if_neg (by simp)]
      have e2 : scA d i = ((2 * d : Nat) : Int) := by unfold scA; rw [if_neg c1, if_neg c3]
      unfold stA scA
      rw [if_neg (by omega), if_neg (by omega), if_neg (by omega), if_neg (by omega)]
      exact ⟨h1.trans e1, h2.trans e2⟩

/-- a tick, but for what is heard -/
theorem one_aged {s : SS} {id : Id8} {ma he de : Int} {q : Nat} {now st sc : Int} (h : One s id ma he de q now st sc) : One s.next.aged id ma he de q (now + 1) st sc ∧ s.next.aged.port q = (s.port q).aged ma := by
  have hp : ∀ k, k < 2 → s.next.aged.port k = (s.port k).aged ma := fun k hk => by
    rw [← h.ma]
    exact SS.port_map s.next (SP.aged s.next.ma) k (by show k < s.ports.length; rw [h.len]; exact hk)
  have keep : ∀ p : SP, (p.aged ma).cost = p.cost ∧ (p.aged ma).up = p.up ∧ (p.aged ma).state = p.state ∧ (p.aged ma).since = p.since ∧ (p.aged ma).role = p.role := fun p => by
    unfold SP.aged
    split
    · split <;> exact ⟨rfl, rfl, rfl, rfl, rfl⟩
    · exact ⟨rfl, rfl, rfl, rfl, rfl⟩
  have hq := h.hq
  refine ⟨⟨h.id, h.ma, h.he, h.de, by rw [SS.aged_len]; exact h.len, by show s.now + 1 = _; rw [h.now], hq, ?_, ?_, ?_, ?_, ?_⟩, hp q hq⟩
  · rw [hp q hq, (keep _).1]; exact h.cost
  · rw [hp q hq, (keep _).2.1]; exact h.up
  · rw [hp q hq, (keep _).2.2.1]; exact h.st
  · rw [hp q hq, (keep _).2.2.2.1]; exact h.sc
  · rw [hp _ (by omega), (keep _).2.1, (keep _).2.2.2.2, (keep _).2.2.1]
    exact h.down
theorem one_mat {s : SS} {id : Id8} {ma he : Int} {d i q : Nat} (hd : 1 ≤ d) (h : One s id ma he (d : Nat) q ((i : Int) + 1) (stA d i) (scA d i)) :
    One (matF s s.ports.length) id ma he (d : Nat) q ((i : Int) + 1) (stA d (i + 1)) (scA d (i + 1)) ∧ ((matF s s.ports.length).port q).w = (s.port q).w ∧ ((matF s s.ports.length).port q).heard = (s.port q).heard ∧ ((matF s s.ports.length).port q).role = (s.port q).role := by
  have hl := matF_like s s.ports.length
  have hq := h.hq
  have hp : ∀ k, k < 2 → (matF s s.ports.length).port k = (s.port k).mature ((i : Int) + 1) d := fun k hk => by
    have := matF_port s _ (Nat.le_refl _) k
    rw [if_pos (by rw [h.len]; exact hk), h.now, h.de] at this
    exact this
  have hm := mature_stA (s.port q) d i hd h.st h.sc
  have hw := SP.mature_w (s.port q) ((i : Int) + 1) d
  have hw2 := SP.mature_w (s.port (1 - q)) ((i : Int) + 1) d
  refine ⟨⟨hl.id.trans h.id, hl.ma.trans h.ma, hl.he.trans h.he, hl.de.trans h.de, hl.len.trans h.len, hl.now.trans h.now, hq, ?_, ?_, ?_, ?_, ?_⟩, ?_, ?_, ?_⟩
  · rw [hp q hq, hw.2.2.2.1]; exact h.cost
  · rw [hp q hq, hw.2.2.1]; exact h.up
  · rw [hp q hq]; exact hm.1
  · rw [hp q hq]; exact hm.2
  · rw [hp _ (by omega), hw2.2.2.1, hw2.2.2.2.2]
    refine ⟨h.down.1, h.down.2.1, ?_⟩
    unfold SP.mature
    rw [h.down.2.2]
    exact h.down.2.2
  · rw [hp q hq]; exact hw.1
  · rw [hp q hq]; exact hw.2.1
  · rw [hp q hq]; exact hw.2.2.2.2

abbrev LoI (s : SS) (id : Id8) (ma he : Int) (d q i : Nat) : Prop := Lo s id ma he (d : Nat) q (i : Nat) (stA d i) (scA d i)
abbrev HgI (s : SS) (id lid : Id8) (lp ma he : Int) (d q i : Nat) (a : Int) : Prop := Hg s id lid lp ma he (d : Nat) q (i : Nat) (stA d i) (scA d i) a

theorem wkp_aged {id : Id8} {p : SP} (h : Wkp id p) (ma : Int) : Wkp id (p.aged ma) := by
  intro hh
  rcases p.aged_cases ma with ⟨e0, e⟩ | ⟨e0, e1, e⟩ | ⟨e0, e1, e2, e3⟩
  · rw [e] at hh ⊢
    exact h hh
  · rw [e] at hh
    cases hh
  · have h0 := h e0
    have : (p.aged ma).w.c = p.w.c ∧ (p.aged ma).w.r = p.w.r := by
      unfold SP.aged
      rw [if_pos e0, if_neg (by omega)]
      exact ⟨rfl, rfl⟩
    rw [this.1, this.2]
    exact h0
theorem stp_aged {lid : Id8} {lp a : Int} {p : SP} (h : Stp lid lp a p) (ma : Int) (hm : a + 1 < ma) : Stp lid lp (a + 1) (p.aged ma) := by
  have e : p.aged ma = { p with w := { p.w with age := p.w.age + 1 } } := by
    unfold SP.aged
    rw [if_pos h.heard, if_neg (by rw [h.age]; omega)]
  rw [e]
  exact ⟨h.heard, h.r, h.b, h.c, h.pt, by simp only; rw [h.age]⟩
theorem castNow (i : Nat) : ((i : Nat) : Int) + 1 = ((i + 1 : Nat) : Int) := by omega
theorem tick_lo {s : SS} {id : Id8} {ma he : Int} {d q i : Nat} (hd : 1 ≤ d) (h : LoI s id ma he d q i) : LoI s.ticked id ma he d q (i + 1) ∧ ((s.port q).heard = false → (s.ticked.port q).heard = false) := by
  obtain ⟨h1, h1p⟩ := one_aged h.one
  have h2 := found_lo _ h1 (stA_pos d i).1 (by rw [h1p]; exact wkp_aged h.wk ma)
  obtain ⟨h3, h3w, h3h, h3r⟩ := one_mat hd h2.one
  have hl := matF_like s.next.aged.found.1 s.next.aged.found.1.ports.length
  rw [castNow] at h3
  refine ⟨⟨h3, hl.root.trans h2.root, hl.best.trans h2.best, h3r.trans h2.role, ?_⟩, fun hh => ?_⟩
  · intro hx
    have hx : ((matF s.next.aged.found.1 s.next.aged.found.1.ports.length).port q).heard = true := hx
    rw [h3h] at hx
    have h4 := h2.wk hx
    show ((matF _ _).port q).w.c = 0 ∧ Ord.lt id.l ((matF _ _).port q).w.r.l = true
    rw [h3w]
    exact h4
  · have h5 := (s.ticked_heard q (by rw [h.one.len]; exact h.one.hq)).1
    rw [h5]
    rcases (s.port q).aged_cases s.ma with ⟨e0, e⟩ | ⟨e0, _, e⟩ | ⟨e0, _⟩
    · rw [e]; exact hh
    · exact e
    · rw [hh] at e0
      cases e0
theorem tick_hg {s : SS} {id lid : Id8} {lp ma he a : Int} {d q i : Nat} (hd : 1 ≤ d) (hlt : Ord.lt lid.l id.l = true) (h : HgI s id lid lp ma he d q i a) (hm : a + 1 < ma) : HgI s.ticked id lid lp ma he d q (i + 1) (a + 1) := by
  obtain ⟨h1, h1p⟩ := one_aged h.one
  have h2 := found_hg _ h1 (stA_pos d i).1 hlt (by rw [h1p]; exact stp_aged h.str ma hm)
  obtain ⟨h3, h3w, h3h, h3r⟩ := one_mat hd h2.one
  have hl := matF_like s.next.aged.found.1 s.next.aged.found.1.ports.length
  rw [castNow] at h3
  refine ⟨h3, hl.root.trans h2.root, hl.best.trans h2.best, h3r.trans h2.role, ?_⟩
  have hs := h2.str
  refine ⟨h3h.trans hs.heard, ?_, ?_, ?_, ?_, ?_⟩
  · show ((matF _ _).port q).w.r = _; rw [h3w]; exact hs.r
  · show ((matF _ _).port q).w.b = _; rw [h3w]; exact hs.b
  · show ((matF _ _).port q).w.c = _; rw [h3w]; exact hs.c
  · show ((matF _ _).port q).w.p = _; rw [h3w]; exact hs.pt
  · show ((matF _ _).port q).w.age = _; rw [h3w]; exact hs.age

/-- what the root tells -/
def rootW (id : Id8) (ma he de : Int) (q : Nat) : SW := ⟨id, id, 0, (q : Int) + 1, 0, ma, he, de, false, false⟩
theorem lo_word {s : SS} {id : Id8} {ma he de now st sc : Int} {q : Nat} (h : Lo s id ma he de q now st sc) : s.word q 0 = rootW id ma he de q := by
  unfold SS.word SS.told rootW
  rw [h.best, h.one.id, h.one.ma, h.one.he, h.one.de]
theorem tellsF_two {s : SS} (p : Nat → Bool) (a : Int) (hl : s.ports.length = 2) (q : Nat) (hq : q < 2) (h0 : (s.port (1 - q)).role ≠ 2) : s.tellsF p a s.ports.length = if ((s.port q).role == 2 && p q) = true then [⟨q, s.word q a⟩] else [] := by
  rw [hl]
  rcases (show q = 0 ∨ q = 1 from by omega) with rfl | rfl
  · have h0 : (s.port 1).role ≠ 2 := h0
    have e : ((s.port 1).role == 2) = false := by simpa using h0
    show (([] ++ _) ++ (if ((s.port 1).role == 2 && p 1) = true then _ else _)) = _
    rw [e]
    simp
  · have h0 : (s.port 0).role ≠ 2 := h0
    have e : ((s.port 0).role == 2) = false := by simpa using h0
    show (([] ++ (if ((s.port 0).role == 2 && p 0) = true then _ else _)) ++ _) = _
    rw [e]
    simp
theorem lo_tells {s : SS} {id : Id8} {ma he de now st sc : Int} {q : Nat} (h : Lo s id ma he de q now st sc) (p : Nat → Bool) (hp : p q = true) : s.tells p = [⟨q, rootW id ma he de q⟩] := by
  have e : s.age = (0, true) := by
    unfold SS.age
    rw [h.root]
    rfl
  unfold SS.tells
  rw [e]
  show s.tellsF p 0 s.ports.length = _
  rw [tellsF_two p 0 h.one.len q h.one.hq (by rw [h.one.down.2.1]; decide), h.role, hp, lo_word h]
  rfl
theorem hg_tells {s : SS} {id lid : Id8} {lp ma he de now st sc a : Int} {q : Nat} (h : Hg s id lid lp ma he de q now st sc a) (p : Nat → Bool) : s.tells p = [] := by
  unfold SS.tells
  split
  · rw [tellsF_two p _ h.one.len q h.one.hq (by rw [h.one.down.2.1]; decide), h.role]
    rfl
  · rfl
theorem lo_tick_out {s : SS} {id : Id8} {ma : Int} {hh d q i : Nat} (hd : 1 ≤ d) (h : LoI s id ma (hh : Nat) d q i) : s.tick.2 = if (i + 1) % hh = 0 then [⟨q, rootW id ma (hh : Nat) (d : Nat) q⟩] else [] := by
  have ht := (tick_lo hd h).1
  have e : s.tick.2 = if (decide (s.ticked.root ≥ 0) || s.ticked.now % s.ticked.he != 0) = true then [] else s.ticked.tells (fun _ => true) := rfl
  have hm : ((((i + 1 : Nat) : Int) % (hh : Nat)) != 0) = decide ((i + 1) % hh ≠ 0) := by
    rw [Bool.eq_iff_iff]
    simp only [bne_iff_ne, ne_eq, decide_eq_true_eq]
    omega
  rw [e, ht.root, ht.one.now, ht.one.he, hm, lo_tells ht _ rfl]
  by_cases hc : (i + 1) % hh = 0
  · rw [if_neg (by simp [hc]), if_pos hc]
  · rw [if_pos (by simp [hc]), if_neg hc]
theorem hg_tick_out {s : SS} {id lid : Id8} {lp ma he a : Int} {d q i : Nat} (hd : 1 ≤ d) (hlt : Ord.lt lid.l id.l = true) (h : HgI s id lid lp ma he d q i a) (hm : a + 1 < ma) : s.tick.2 = [] := by
  have ht := tick_hg hd hlt h hm
  have e : s.tick.2 = if (decide (s.ticked.root ≥ 0) || s.ticked.now % s.ticked.he != 0) = true then [] else s.ticked.tells (fun _ => true) := rfl
  rw [e, ht.root, if_pos]
  simp

/-- a word comes -/
theorem rootW_right (id : Id8) (ma he de : Int) (q : Nat) (hq : q < 2) (h1 : 1 ≤ ma ∧ ma ≤ 1000) (h2 : 0 ≤ he ∧ he ≤ 1000) (h3 : 0 ≤ de ∧ de ≤ 1000) : (rootW id ma he de q).right = true := by
  unfold SW.right rootW Bpdu.right
  simp only [Bpdu.inB, List.all_cons, List.all_nil, Bool.and_true, Bool.and_eq_true, decide_eq_true_eq]
  omega
theorem one_hear {s : SS} {id : Id8} {ma he de now st sc : Int} {q : Nat} (h : One s id ma he de q now st sc) (x : SW) : One (s.put q ((s.port q).hear x)) id ma he de q now st sc ∧ (s.put q ((s.port q).hear x)).port q = (s.port q).hear x := by
  have hql : q < s.ports.length := by rw [h.len]; exact h.hq
  have hp : (s.put q ((s.port q).hear x)).port q = (s.port q).hear x := by rw [s.port_put q q _ hql, if_pos rfl]
  have hp2 : (s.put q ((s.port q).hear x)).port (1 - q) = s.port (1 - q) := by rw [s.port_put q (1 - q) _ hql, if_neg (by have := h.hq; omega)]
  refine ⟨⟨h.id, h.ma, h.he, h.de, by rw [SS.put_len]; exact h.len, h.now, h.hq, ?_, ?_, ?_, ?_, ?_⟩, hp⟩
  · rw [hp]; exact h.cost
  · rw [hp]; exact h.up
  · rw [hp]; exact h.st
  · rw [hp]; exact h.sc
  · rw [hp2]; exact h.down
theorem take_open {s : SS} {id oid : Id8} {ma he de now st sc : Int} {q oq : Nat} (h : One s id ma he de q now st sc) (hne : oid ≠ id) (hoq : oq < 2) (hma : 1 ≤ ma ∧ ma ≤ 1000) (hhe : 0 ≤ he ∧ he ≤ 1000) (hde : 0 ≤ de ∧ de ≤ 1000) (hh : (s.port q).hears (rootW oid ma he de oq) = true) :
    s.take (q : Nat) (rootW oid ma he de oq) = (s.takeF q (rootW oid ma he de oq), s.tellsK (s.takeF q (rootW oid ma he de oq)) q) := by
  have hhas : s.has (q : Nat) = true := by unfold SS.has; simp; rw [h.len]; exact h.hq
  have hn : s.notFor (q : Nat) (rootW oid ma he de oq) = false := by
    unfold SS.notFor
    rw [hhas, Int.toNat_natCast, h.up, h.id]
    have : decide ((rootW oid ma he de oq).b = id) = false := decide_eq_false hne
    rw [this]
    rfl
  unfold SS.take
  rw [hn, rootW_right oid ma he de oq hoq hma hhe hde, Int.toNat_natCast, hh, h.ma]
  rw [if_neg (by simp), if_neg (by simp), if_neg (by show ¬ decide (ma ≤ 0) = true; simp; omega), if_pos rfl]
theorem take_strong {s : SS} {id lid : Id8} {ma he de now st sc : Int} {q oq : Nat} (h : One s id ma he de q now st sc) (hst : st ≠ 0) (hlt : Ord.lt lid.l id.l = true) (hoq : oq < 2) (hma : 1 ≤ ma ∧ ma ≤ 1000) (hhe : 0 ≤ he ∧ he ≤ 1000) (hde : 0 ≤ de ∧ de ≤ 1000) (hh : (s.port q).hears (rootW lid ma he de oq) = true) :
    ∃ s', s.take (q : Nat) (rootW lid ma he de oq) = (s', []) ∧ Hg s' id lid ((oq : Int) + 1) ma he de q now st sc 0 := by
  have hne : lid ≠ id := by
    rintro rfl
    rw [Ord.lt_irrefl] at hlt
    cases hlt
  obtain ⟨h1, h2⟩ := one_hear h (rootW lid ma he de oq)
  have h3 : Hg (s.takeF q (rootW lid ma he de oq)) id lid ((oq : Int) + 1) ma he de q now st sc 0 := found_hg _ h1 hst hlt (by
    rw [h2]
    exact ⟨rfl, rfl, rfl, rfl, rfl, rfl⟩)
  refine ⟨_, ?_, h3⟩
  rw [take_open h hne hoq hma hhe hde hh]
  congr 1
  unfold SS.tellsK
  rw [h3.root, if_pos (by simp), hg_tells h3]
theorem take_weak {s : SS} {id oid : Id8} {ma he de now st sc : Int} {q oq : Nat} (h : Lo s id ma he de q now st sc) (hst : st ≠ 0) (hlt : Ord.lt id.l oid.l = true) (hoq : oq < 2) (hma : 1 ≤ ma ∧ ma ≤ 1000) (hhe : 0 ≤ he ∧ he ≤ 1000) (hde : 0 ≤ de ∧ de ≤ 1000) (hh : (s.port q).heard = false) :
    ∃ s', s.take (q : Nat) (rootW oid ma he de oq) = (s', [⟨q, rootW id ma he de q⟩]) ∧ Lo s' id ma he de q now st sc := by
  have hne : oid ≠ id := by
    rintro rfl
    rw [Ord.lt_irrefl] at hlt
    cases hlt
  obtain ⟨h1, h2⟩ := one_hear h.one (rootW oid ma he de oq)
  have h3 : Lo (s.takeF q (rootW oid ma he de oq)) id ma he de q now st sc := found_lo _ h1 hst (by
    rw [h2]
    exact fun _ => ⟨rfl, hlt⟩)
  refine ⟨_, ?_, h3⟩
  rw [take_open h.one hne hoq hma hhe hde (by unfold SP.hears; rw [hh]; rfl)]
  congr 1
  unfold SS.tellsK
  rw [h3.root, h.best, h3.best, h3.role, if_neg, if_pos (by decide), lo_tells h3 _ (by simp)]
  simp
theorem hears_again {p : SP} {lid : Id8} {a ma he de : Int} {oq : Nat} (h : Stp lid ((oq : Int) + 1) a p) : p.hears (rootW lid ma he de oq) = true := by
  unfold SP.hears
  have h1 : decide ((rootW lid ma he de oq).b = p.w.b) = true := decide_eq_true h.b.symm
  have h2 : ((rootW lid ma he de oq).p == p.w.p) = true := by
    rw [h.pt]
    exact beq_self_eq_true _
  rw [h1, h2]
  simp
theorem hears_new {p : SP} (x : SW) (h : p.heard = false) : p.hears x = true := by
  unfold SP.hears
  rw [h]
  rfl

/-! ### two of them -/
/-- words on their way between two bridges, till none is left -/
def Ph (Fin : SS → SS → Prop) : Nat → SS → SS → Nat → List SO → Prop
  | 0, x, y, _, out => out = [] ∧ Fin x y
  | n + 1, x, y, fr, out => ∃ o : SO, out = [o] ∧ o.port = 1 - fr ∧
      ((fr = 0 ∧ Ph Fin n x (y.take 0 o.w).1 (if (y.take 0 o.w).2 = [] then 0 else 1) (y.take 0 o.w).2) ∨ (fr = 1 ∧ Ph Fin n (x.take 1 o.w).1 y (if (x.take 1 o.w).2 = [] then 1 else 0) (x.take 1 o.w).2))

/-- the first is the lesser -/
structure PA (a b : Id8) (ma : Int) (h d i : Nat) (x y : SS) : Prop where
  hx : LoI x a ma (h : Nat) d 1 i
  hy : (i < h ∧ LoI y b ma (h : Nat) d 0 i ∧ (y.port 0).heard = false) ∨ (h ≤ i ∧ HgI y b a 2 ma (h : Nat) d 0 i (((i % h : Nat) : Int) + 1))
/-- the second is -/
structure PB (a b : Id8) (ma : Int) (h d i : Nat) (x y : SS) : Prop where
  hy : LoI y b ma (h : Nat) d 0 i
  hx : (i < h ∧ LoI x a ma (h : Nat) d 1 i ∧ (x.port 1).heard = false ∧ (y.port 0).heard = false) ∨ (h ≤ i ∧ HgI x a b 1 ma (h : Nat) d 1 i ((i % h : Nat) : Int))
/-- between the two ticks -/
structure MA (a b : Id8) (ma : Int) (h d i : Nat) (x y : SS) : Prop where
  hx : LoI x a ma (h : Nat) d 1 (i + 1)
  hy : (i + 1 < h ∧ LoI y b ma (h : Nat) d 0 i ∧ (y.port 0).heard = false) ∨ (h ≤ i + 1 ∧ HgI y b a 2 ma (h : Nat) d 0 i (((i + 1) % h : Nat) : Int))
structure MB (a b : Id8) (ma : Int) (h d i : Nat) (x y : SS) : Prop where
  hy : LoI y b ma (h : Nat) d 0 i
  hx : (i + 1 < h ∧ LoI x a ma (h : Nat) d 1 (i + 1) ∧ (x.port 1).heard = false ∧ (y.port 0).heard = false) ∨ (h ≤ i + 1 ∧ ∃ g : Int, 0 ≤ g ∧ g ≤ h ∧ HgI x a b 1 ma (h : Nat) d 1 (i + 1) g ∧ ((i + 1) % h ≠ 0 → g = (((i + 1) % h : Nat) : Int)))

theorem mod_succ_ne {h i : Nat} (h1 : 1 ≤ h) (hc : (i + 1) % h ≠ 0) : (i + 1) % h = i % h + 1 := by
  have hlt := Nat.mod_lt i h1
  by_cases he : i % h + 1 = h
  · exfalso
    apply hc
    have : i + 1 = h * (i / h) + h := by
      have := Nat.div_add_mod i h
      omega
    rw [this, Nat.add_mod_right, Nat.mul_mod_right]
  · have h2 : i + 1 = h * (i / h) + (i % h + 1) := by
      have := Nat.div_add_mod i h
      omega
    rw [h2, Nat.mul_add_mod, Nat.mod_eq_of_lt (by omega)]
section
variable {a b : Id8} {ma : Int} {h d i : Nat} {x y : SS}
theorem pa_first (hab : Ord.lt a.l b.l = true) (h1 : 1 ≤ h) (h100 : h ≤ 100) (hd : 1 ≤ d) (hd1 : d ≤ 1000) (hm1 : 2 * (h : Int) + 3 ≤ ma) (hm2 : ma ≤ 1000) (hp : PA a b ma h d i x y) : ∃ n, n ≤ 2 ∧ Ph (MA a b ma h d i) n x.ticked y 0 x.tick.2 := by
  have ht := (tick_lo hd hp.hx).1
  have ho := lo_tick_out hd hp.hx
  by_cases hc : (i + 1) % h = 0
  · rw [if_pos hc] at ho
    have hhi : h ≤ i + 1 := Nat.le_of_dvd (by omega) (Nat.dvd_of_mod_eq_zero hc)
    have hyone : One y b ma (h : Nat) (d : Nat) 0 (i : Nat) (stA d i) (scA d i) ∧ (y.port 0).hears (rootW a ma (h : Nat) (d : Nat) 1) = true := by
      rcases hp.hy with ⟨_, h2, h3⟩ | ⟨_, h2⟩
      · exact ⟨h2.one, hears_new _ h3⟩
      · exact ⟨h2.one, hears_again h2.str⟩
    obtain ⟨y', e1, e2⟩ := take_strong hyone.1 (stA_pos d i).1 hab (oq := 1) (by decide) (by omega) (by omega) (by omega) hyone.2
    refine ⟨1, by decide, ⟨1, rootW a ma (h : Nat) (d : Nat) 1⟩, ho, rfl, .inl ⟨rfl, ?_⟩⟩
    have e1 : y.take 0 (rootW a ma (h : Nat) (d : Nat) 1) = (y', []) := e1
    rw [e1]
    refine ⟨rfl, ht, .inr ⟨hhi, ?_⟩⟩
    rw [hc]
    exact e2
  · rw [if_neg hc] at ho
    refine ⟨0, by decide, ho, ht, ?_⟩
    rcases hp.hy with ⟨h0, h2, h3⟩ | ⟨h0, h2⟩
    · have : i + 1 < h := by
        rcases Nat.lt_or_ge (i + 1) h with hlt | hge
        · exact hlt
        · exfalso
          have : i + 1 = h := by omega
          rw [this, Nat.mod_self] at hc
          exact hc rfl
      exact .inl ⟨this, h2, h3⟩
    · refine .inr ⟨by omega, ?_⟩
      rw [mod_succ_ne h1 hc]
      have : ((i % h + 1 : Nat) : Int) = ((i % h : Nat) : Int) + 1 := by omega
      rw [this]
      exact h2
theorem pa_second (hab : Ord.lt a.l b.l = true) (h1 : 1 ≤ h) (hd : 1 ≤ d) (hm1 : 2 * (h : Int) + 3 ≤ ma) (hp : MA a b ma h d i x y) : Ph (PA a b ma h d (i + 1)) 0 x y.ticked 1 y.tick.2 := by
  rcases hp.hy with ⟨h0, h2, h3⟩ | ⟨h0, h2⟩
  · have ht := tick_lo hd h2
    have ho := lo_tick_out hd h2
    rw [if_neg (by rw [Nat.mod_eq_of_lt h0]; omega)] at ho
    exact ⟨ho, hp.hx, .inl ⟨h0, ht.1, ht.2 h3⟩⟩
  · have hlt := Nat.mod_lt (i + 1) h1
    have hm : ((((i + 1) % h : Nat) : Int)) + 1 < ma := by omega
    exact ⟨hg_tick_out hd hab h2 hm, hp.hx, .inr ⟨h0, tick_hg hd hab h2 hm⟩⟩
theorem pb_first (hba : Ord.lt b.l a.l = true) (h1 : 1 ≤ h) (h100 : h ≤ 100) (hd : 1 ≤ d) (hd1 : d ≤ 1000) (hm1 : 2 * (h : Int) + 3 ≤ ma) (hm2 : ma ≤ 1000) (hp : PB a b ma h d i x y) : ∃ n, n ≤ 2 ∧ Ph (MB a b ma h d i) n x.ticked y 0 x.tick.2 := by
  rcases hp.hx with ⟨h0, h2, h3, h4⟩ | ⟨h0, h2⟩
  · have ht := tick_lo hd h2
    have ho := lo_tick_out hd h2
    by_cases hc : (i + 1) % h = 0
    · rw [if_pos hc] at ho
      have hhi : h ≤ i + 1 := Nat.le_of_dvd (by omega) (Nat.dvd_of_mod_eq_zero hc)
      obtain ⟨y', e1, e2⟩ := take_weak hp.hy (stA_pos d i).1 hba (oq := 1) (by decide) (by omega) (by omega) (by omega) h4
      have e1 : y.take 0 (rootW a ma (h : Nat) (d : Nat) 1) = (y', [⟨0, rootW b ma (h : Nat) (d : Nat) 0⟩]) := e1
      obtain ⟨x', e3, e4⟩ := take_strong ht.1.one (stA_pos d (i + 1)).1 hba (oq := 0) (by decide) (by omega) (by omega) (by omega) (hears_new _ (ht.2 h3))
      have e3 : x.ticked.take 1 (rootW b ma (h : Nat) (d : Nat) 0) = (x', []) := e3
      refine ⟨2, by decide, ⟨1, rootW a ma (h : Nat) (d : Nat) 1⟩, ho, rfl, .inl ⟨rfl, ?_⟩⟩
      rw [e1]
      refine ⟨⟨0, rootW b ma (h : Nat) (d : Nat) 0⟩, rfl, by simp, .inr ⟨by simp, ?_⟩⟩
      rw [e3]
      refine ⟨rfl, e2, .inr ⟨hhi, 0, Int.le_refl _, by omega, e4, fun hx => absurd hc hx⟩⟩
    · rw [if_neg hc] at ho
      have : i + 1 < h := by
        rcases Nat.lt_or_ge (i + 1) h with hlt | hge
        · exact hlt
        · exfalso
          have : i + 1 = h := by omega
          rw [this, Nat.mod_self] at hc
          exact hc rfl
      exact ⟨0, by decide, ho, hp.hy, .inl ⟨this, ht.1, ht.2 h3, h4⟩⟩
  · have hlt := Nat.mod_lt i h1
    have hm : ((i % h : Nat) : Int) + 1 < ma := by omega
    refine ⟨0, by decide, hg_tick_out hd hba h2 hm, hp.hy, .inr ⟨by omega, _, by omega, by omega, tick_hg hd hba h2 hm, fun hc => ?_⟩⟩
    rw [mod_succ_ne h1 hc]
    omega
theorem pb_second (hba : Ord.lt b.l a.l = true) (h1 : 1 ≤ h) (h100 : h ≤ 100) (hd : 1 ≤ d) (hd1 : d ≤ 1000) (hm1 : 2 * (h : Int) + 3 ≤ ma) (hm2 : ma ≤ 1000) (hp : MB a b ma h d i x y) : ∃ n, n ≤ 2 ∧ Ph (PB a b ma h d (i + 1)) n x y.ticked 1 y.tick.2 := by
  have ht := tick_lo hd hp.hy
  have ho := lo_tick_out hd hp.hy
  rcases hp.hx with ⟨h0, h2, h3, h4⟩ | ⟨h0, g, hg1, hg2, h2, h5⟩
  · rw [if_neg (by rw [Nat.mod_eq_of_lt h0]; omega)] at ho
    exact ⟨0, by decide, ho, ht.1, .inl ⟨h0, h2, h3, ht.2 h4⟩⟩
  · by_cases hc : (i + 1) % h = 0
    · rw [if_pos hc] at ho
      obtain ⟨x', e3, e4⟩ := take_strong h2.one (stA_pos d (i + 1)).1 hba (oq := 0) (by decide) (by omega) (by omega) (by omega) (hears_again h2.str)
      have e3 : x.take 1 (rootW b ma (h : Nat) (d : Nat) 0) = (x', []) := e3
      refine ⟨1, by decide, ⟨0, rootW b ma (h : Nat) (d : Nat) 0⟩, ho, rfl, .inr ⟨rfl, ?_⟩⟩
      rw [e3]
      refine ⟨rfl, ht.1, .inr ⟨h0, ?_⟩⟩
      rw [hc]
      exact e4
    · rw [if_neg hc] at ho
      refine ⟨0, by decide, ho, ht.1, .inr ⟨h0, ?_⟩⟩
      rw [← h5 hc]
      exact h2
end
/-- at the beginning -/
theorem lo_start (id : Id8) (c0 c1 : Int) (ma he : Int) (d q : Nat) (hq : q < 2) (hd : 1 ≤ d) (hc : (if q = 0 then c0 else c1) = 20) :
    LoI ((SS.fresh id [c0, c1] ma he (d : Nat)).found.1.setUp (q : Nat) true).1 id ma he d q 0 ∧ (((SS.fresh id [c0, c1] ma he (d : Nat)).found.1.setUp (q : Nat) true).1.port q).heard = false := by
  have hal : Al (SS.fresh id [c0, c1] ma he (d : Nat)).found.1 id ma he (d : Nat) 2 0 0 1 0 0 := al_fresh
  have hcost : ((SS.fresh id [c0, c1] ma he (d : Nat)).found.1.port q).cost = 20 := by
    rw [SS.found_port _ _ (by simp [SS.fresh]; exact hq), ((SS.fresh id [c0, c1] ma he (d : Nat)).port q).onto_w _ _ |>.2.2.2.1]
    rcases (show q = 0 ∨ q = 1 from by omega) with rfl | rfl
    · exact hc
    · exact hc
  generalize (SS.fresh id [c0, c1] ma he (d : Nat)).found.1 = s at *
  have hql : q < s.ports.length := by rw [hal.len]; exact hq
  have hhas : s.has (q : Nat) = true := by unfold SS.has; simp; exact hql
  have he0 : (s.setUp (q : Nat) true).1 = (s.put q { s.port q with up := true }).found.1 := by
    unfold SS.setUp
    rw [if_pos hhas, Int.toNat_natCast]
    rfl
  rw [he0]
  have hpp : (s.put q { s.port q with up := true }).port q = { s.port q with up := true } := by rw [s.port_put q q _ hql, if_pos rfl]
  have hp2 : (s.put q { s.port q with up := true }).port (1 - q) = s.port (1 - q) := by rw [s.port_put q (1 - q) _ hql, if_neg (by omega)]
  have hl : (s.put q { s.port q with up := true }).ports.length = 2 := by rw [SS.put_len]; exact hal.len
  have hpq := hal.port q hq
  have hpo := hal.port (1 - q) (by omega)
  have huq : (s.port q).up = false := by rw [hpq.2.1]; simp
  have huo : (s.port (1 - q)).up = false := by rw [hpo.2.1]; simp
  have hwk : Wkp id ((s.put q { s.port q with up := true }).port q) := by
    rw [hpp]
    intro hh
    have hh : (s.port q).heard = true := hh
    rw [hpq.1] at hh
    cases hh
  have hd' : ((s.put q { s.port q with up := true }).port (1 - q)).up = false := by rw [hp2]; exact huo
  have hu' : ((s.put q { s.port q with up := true }).port q).up = true := by rw [hpp]
  obtain ⟨r1, r2⟩ := two_role_wk (s.put q { s.port q with up := true }) hal.id hl q hq hd' hu' hwk
  obtain ⟨t1, t2⟩ := two_root_wk (s.put q { s.port q with up := true }) hal.id hl q hq hd' hwk
  have hs := (s.put_same' q { s.port q with up := true }).trans (SS.found_same _)
  have f1 : (s.put q { s.port q with up := true }).found.1.port q = { s.port q with up := true, state := 1, since := 0, role := 2 } := by
    rw [SS.found_port _ q (by rw [hl]; exact hq), r1, hpp]
    have : (s.put q { s.port q with up := true }).now = 0 := hal.now
    rw [this]
    exact SP.onto_new _ _ _ rfl (hpq.2.2.2 huq).2
  have f2 : (s.put q { s.port q with up := true }).found.1.port (1 - q) = { s.port (1 - q) with role := 0 } := by
    rw [SS.found_port _ (1 - q) (by rw [hl]; omega), r2, hp2, SP.onto_off _ _ _ rfl (hpo.2.2.2 huo).2]
  have e1 : stA d 0 = 1 := by unfold stA; rw [if_pos (by omega)]
  have e2 : scA d 0 = 0 := by unfold scA; rw [if_pos (by omega)]
  refine ⟨⟨⟨hs.id.trans hal.id, hs.ma.trans hal.ma, hs.he.trans hal.he, hs.de.trans hal.de, hs.len.trans hal.len, (SS.found_now _).trans hal.now, hq, ?_, ?_, ?_, ?_, ?_⟩, (SS.found_like _).root.trans t1, ?_, ?_, ?_⟩, ?_⟩
  · rw [f1]; exact hcost
  · rw [f1]
  · rw [f1, e1]
  · rw [f1, e2]
  · rw [f2]
    exact ⟨huo, rfl, (hpo.2.2.2 huo).2⟩
  · rw [(SS.found_like _).best, t2]
    show (⟨s.id, 0, s.id, 0⟩ : SV) = _
    rw [hal.id]
  · rw [f1]
  · rw [f1]
    intro hh
    have hh : (s.port q).heard = true := hh
    rw [hpq.1] at hh
    cases hh
  · rw [f1]
    exact hpq.1
end Go.Proofs.Ytnpoholeemcklaa
