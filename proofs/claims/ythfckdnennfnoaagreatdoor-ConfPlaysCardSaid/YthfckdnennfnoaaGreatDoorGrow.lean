/- A region that draws its order, whose operations read, call and make memory, but write nothing old: one walk of the lexical order serves every order. Of no function. By an AI agent. -/
import Derived.StillTail
import Derived.Lib.QuietBelow
namespace Go.Proofs.YthfckdnennfnoaaGreatDoor.Grow
open Go.RowKit Go.Sort Go

/-- what is known of a value, as long as nothing old is written -/
abbrev Fact := World → Value → Prop
def Stable (Le : World → World → Prop) (V : Fact) : Prop := ∀ w w' v, Le w w' → V w v → V w' v

/-- what may become of a world -/
structure LeOk (Le : World → World → Prop) : Prop where
  refl : ∀ w, Le w w
  trans : ∀ a b c, Le a b → Le b c → Le a c
  drew : ∀ w : World, Le w { w with drawn := w.drawn + 1 }
  size : ∀ a b, Le a b → a.heap.size ≤ b.heap.size

/-- nothing old is written -/
abbrev Bel : World → World → Prop := fun w w' => Below w.heap.size w w'

theorem below_trans {a b c : World} (h : Below a.heap.size a b) (k : Below b.heap.size b c) : Below a.heap.size a c := h.trans (k.mono h.size)
theorem bel_ok : LeOk Bel := ⟨fun _ => Below.refl _ _, fun _ _ _ h k => below_trans h k, fun _ => ⟨rfl, rfl, rfl, Nat.le_refl _, fun _ _ => rfl⟩, fun _ _ h => h.size⟩

def gives (P : Program) (o : Oper) (a : Act) (w : World) (K : Value → World → Prop) : Prop :=
  match (execOp a.eval o).run P w with
  | .ok (.value u) w' => K u w'
  | .ok .skip w' => K undef w'
  | .ok (.enter f args) w' => Calls P f args w' fun e w'' => ∃ u, e = .returned u ∧ K u w''
  | _ => False

/-- does it make a new variable? -/
def newB (o : Oper) : Bool := match o.op with | .alloc _ => o.guard.isNone | _ => false
def newAt (ops : Array Oper) (i : Nat) : Bool := match ops[i]? with | some o => newB o | none => false

theorem gives_new {P : Program} {o : Oper} {a : Act} {w : World} {K : Value → World → Prop} (h : gives P o a w K) (hf : newB o = true) :
    gives P o a w fun u w' => K u w' ∧ ∃ b, u = .pointer (some ⟨b, 0, none⟩) ∧ w.heap.size ≤ b ∧ b < w'.heap.size := by
  unfold newB at hf
  cases hop : o.op with
  | alloc t =>
    unfold gives execOp at h ⊢
    cases hq : P.info? t with
    | none => simp [hop, Instr.alloc, zeroValue, typeInfo, hq] at h
    | some i =>
      cases hz : i.zero with
      | none => simp [hop, Instr.alloc, zeroValue, typeInfo, hq, hz] at h
      | some z =>
        have hr : (Instr.alloc t true (.tuple #[])).run P w = .ok (.pointer (some ⟨w.heap.size, 0, none⟩)) (w.alloc (.cells z.cells t)) := by
          simp [Instr.alloc, zeroValue, typeInfo, hq, hz, newVar, newRow]
        simp only [hop, hr, Sem.run_bind, Sem.run_pure, Result.andThen_ok] at h ⊢
        exact ⟨h, w.heap.size, rfl, Nat.le_refl _, by simp⟩
  | _ => simp [hop] at hf

def dstOf (ops : Array Oper) (i : Nat) : Option Tmp := (ops[i]?).bind (·.dst)

section
variable {P : Program} {ops : Array Oper} {md : Region.Mode} {w0 : World} {a0 : Act} {Le : World → World → Prop}

/-- what operation i owes: from what is known of what it looks at, its value is known -/
def Ob (Le : World → World → Prop) (P : Program) (ops : Array Oper) (w0 : World) (a0 : Act) (V : Nat → Fact) (i : Nat) : Prop :=
  Stable Le (V i) ∧ ∀ o, ops[i]? = some o → ∀ (ρ : Act) (w : World), Le w0 w → ρ.tmps.size = a0.tmps.size →
    (∀ t ∈ o.looksAt ops, ∀ j, j < i → dstOf ops j = some t → V j w (ρ.eval (.tmp t))) →
    (∀ t ∈ o.looksAt ops, (∀ j, j < i → dstOf ops j ≠ some t) → ρ.tmps[t]? = a0.tmps[t]?) →
    if Region.wanted o (yielded ops ρ.tmps) then gives P o ρ w (fun u w' => Le w w' ∧ V i w' u) else V i w undef

def growHead (md : Region.Mode) (ops : Array Oper) (n : Nat) : Bool :=
  (List.range n).all fun i => match ops[i]? with
    | none => false
    | some o => (o.after.all fun e => !Region.binds md e || decide (e.on < i)) &&
      ((List.range n).all fun j => j == i || !(dstOf ops j).isSome || dstOf ops j != o.dst) &&
      ((o.looksAt ops).all fun t => (List.range n).all fun j => dstOf ops j != some t || (decide (j < i) && Region.waitsFor md ops i j))

def allListed (m n : Nat) : Array Bool := Array.ofFn fun i : Fin m => decide (i.val < n)

def growB (md : Region.Mode) (ops : Array Oper) (n : Nat) : Bool :=
  growHead md ops n && decide (n ≤ ops.size) && (decide (n = ops.size) || (Region.sinkB md ops n && Region.chainB md ops n)) && Region.seqB md ops (ops.size - n) n (allListed ops.size n)

theorem growHead_spec {n i : Nat} {o : Oper} (h : growHead md ops n = true) (hi : i < n) (ho : ops[i]? = some o) :
    (∀ e ∈ o.after, Region.binds md e = true → e.on < i) ∧ (∀ j d, j < n → j ≠ i → dstOf ops j = some d → o.dst ≠ some d) ∧
    (∀ t ∈ o.looksAt ops, ∀ j, j < n → dstOf ops j = some t → j < i ∧ Region.waitsFor md ops i j = true) := by
  have h1 := List.all_eq_true.1 h i (List.mem_range.2 hi)
  rw [ho] at h1
  simp only [Bool.and_eq_true] at h1
  obtain ⟨⟨h1, h2⟩, h3⟩ := h1
  refine ⟨fun e he hb => ?_, fun j d hj hne hd hod => ?_, fun t ht j hj hd => ?_⟩
  · have := Array.all_eq_true_iff_forall_mem.1 h1 e he
    simpa [hb] using this
  · have := List.all_eq_true.1 h2 j (List.mem_range.2 hj)
    rw [hd, hod] at this
    simp [hne] at this
  · have := List.all_eq_true.1 (List.all_eq_true.1 h3 t ht) j (List.mem_range.2 hj)
    rw [hd] at this
    simpa using this

/-- how far the region has come -/
structure Inv (Le : World → World → Prop) (P : Program) (ops : Array Oper) (md : Region.Mode) (w0 : World) (a0 : Act) (V : Nat → Fact) (n : Nat) (listed : Array Bool) (a : Act) (w : World) : Prop where
  head : HeadInv md ops n listed
  below : Le w0 w
  size : a.tmps.size = a0.tmps.size
  defers : a.defers = a0.defers
  facts : ∀ i, i < n → listed.getD i false = true → ∀ d, dstOf ops i = some d → V i w (a.eval (.tmp d))
  facts0 : ∀ i, i < n → listed.getD i false = true → dstOf ops i = none → ∃ u, V i w u
  rest : ∀ t, (∀ i, i < n → listed.getD i false = true → dstOf ops i ≠ some t) → a.tmps[t]? = a0.tmps[t]?
  low : ∀ i d, i < n → listed.getD i false = true → newAt ops i = true → dstOf ops i = some d → ∃ b, a.eval (.tmp d) = .pointer (some ⟨b, 0, none⟩) ∧ b < w.heap.size
  apart : ∀ i j d d', i < n → j < n → i ≠ j → listed.getD i false = true → listed.getD j false = true → newAt ops i = true → newAt ops j = true → dstOf ops i = some d → dstOf ops j = some d' → a.eval (.tmp d) ≠ a.eval (.tmp d')

theorem eval_get (a : Act) (t : Tmp) : a.eval (.tmp t) = (a.tmps[t]?).getD undef := by simp [Act.eval]

theorem get_put_ne {a : Act} {d : Option Tmp} {v : Value} {t : Tmp} (h : d ≠ some t) : (a.put d v).tmps[t]? = a.tmps[t]? := by
  cases d with
  | none => rfl
  | some d => simp [Act.put, Array.getElem?_setIfInBounds_ne (show d ≠ t from fun e => h (by rw [e]))]

theorem get_put_same {a : Act} {d : Tmp} {v : Value} (h : d < a.tmps.size) : (a.put (some d) v).tmps[d]? = some v := by
  simp [Act.put, h]

theorem put_size (a : Act) (d : Option Tmp) (v : Value) : (a.put d v).tmps.size = a.tmps.size := by cases d <;> simp [Act.put]
theorem put_defers (a : Act) (d : Option Tmp) (v : Value) : (a.put d v).defers = a.defers := by cases d <;> rfl

theorem Inv.step (ok : LeOk Le) {V : Nat → Fact} {n i : Nat} {o : Oper} {listed : Array Bool} {a : Act} {w w' : World} {v : Value} (inv : Inv Le P ops md w0 a0 V n listed a w) (hB : growHead md ops n = true) (hst : ∀ j, j < n → Stable Le (V j))
    (hsz : ∀ j d, j < n → dstOf ops j = some d → d < a0.tmps.size) (ho : ops[i]? = some o) (hi : i < n) (hr : i ∈ Region.ready md ops listed) (hb : Le w w') (hv : V i w' v) (hnew : newB o = true → ∃ b, v = .pointer (some ⟨b, 0, none⟩) ∧ w.heap.size ≤ b ∧ b < w'.heap.size) :
    Inv Le P ops md w0 a0 V n (listed.setIfInBounds i true) (a.put o.dst v) w' := by
  have hd0 : dstOf ops i = o.dst := by unfold dstOf; rw [ho]; rfl
  have hlt : i < listed.size := by rw [inv.head.size]; exact (Array.getElem?_eq_some_iff.1 ho).1
  obtain ⟨_, hdis, _⟩ := growHead_spec hB hi ho
  refine ⟨inv.head.set hr hi, ok.trans _ _ _ inv.below hb, by rw [put_size]; exact inv.size, by rw [put_defers]; exact inv.defers, fun j hj hl d hd => ?_, fun j hj hl hd => ?_, fun t ht => ?_, ?low, ?apart⟩
  case low =>
    intro j d hj hl hn hd
    by_cases hji : j = i
    · subst hji
      have hn' : newB o = true := by unfold newAt at hn; rwa [ho] at hn
      obtain ⟨b, hb1, _, hb2⟩ := hnew hn'
      rw [hd0] at hd
      have hdl := hsz j d hj (by rw [hd0]; exact hd)
      rw [eval_get, hd, get_put_same (by rw [inv.size]; exact hdl)]
      exact ⟨b, hb1, hb2⟩
    · rw [getD_set_ne false (Ne.symm hji)] at hl
      obtain ⟨b, hb1, hb2⟩ := inv.low j d hj hl hn hd
      rw [eval_get, get_put_ne (hdis j d hj hji hd), ← eval_get]
      exact ⟨b, hb1, Nat.lt_of_lt_of_le hb2 (ok.size _ _ hb)⟩
  case apart =>
    intro j k d d' hj hk hjk hl hl' hn hn' hd hd'
    have fresh : ∀ (j k : Nat) (d d' : Tmp), j < n → j = i → k < n → k ≠ i → (listed.setIfInBounds i true).getD k false = true → newAt ops j = true → newAt ops k = true → dstOf ops j = some d → dstOf ops k = some d' → (a.put o.dst v).eval (.tmp d) ≠ (a.put o.dst v).eval (.tmp d') := by
      intro j k d d' hj hji hk hki hl' hn hn' hd hd'
      subst hji
      have hnb : newB o = true := by unfold newAt at hn; rwa [ho] at hn
      obtain ⟨b, hb1, hb2, _⟩ := hnew hnb
      rw [getD_set_ne false (Ne.symm hki)] at hl'
      obtain ⟨b', hb3, hb4⟩ := inv.low k d' hk hl' hn' hd'
      rw [hd0] at hd
      have hdl := hsz j d hj (by rw [hd0]; exact hd)
      rw [eval_get (a.put o.dst v) d', get_put_ne (hdis k d' hk hki hd'), ← eval_get, hb3, eval_get, hd, get_put_same (by rw [inv.size]; exact hdl)]
      rw [Option.getD_some, hb1]
      intro e
      simp at e
      omega
    by_cases hji : j = i
    · exact fresh j k d d' hj hji hk (by omega) hl' hn hn' hd hd'
    · by_cases hki : k = i
      · exact Ne.symm (fresh k j d' d hk hki hj hji hl hn' hn hd' hd)
      · rw [getD_set_ne false (Ne.symm hji)] at hl
        rw [getD_set_ne false (Ne.symm hki)] at hl'
        rw [eval_get (a.put o.dst v) d, eval_get (a.put o.dst v) d', get_put_ne (hdis j d hj hji hd), get_put_ne (hdis k d' hk hki hd'), ← eval_get, ← eval_get]
        exact inv.apart j k d d' hj hk hjk hl hl' hn hn' hd hd'
  rotate_left
  · by_cases hji : j = i
    · subst hji
      exact ⟨v, hv⟩
    · rw [getD_set_ne false (Ne.symm hji)] at hl
      obtain ⟨u, hu⟩ := inv.facts0 j hj hl hd
      exact ⟨u, hst j hj _ _ _ hb hu⟩
  rotate_right
  · by_cases hji : j = i
    · subst hji
      rw [hd0] at hd
      have hdl := hsz j d hj (by rw [hd0]; exact hd)
      rw [eval_get, hd, get_put_same (by rw [inv.size]; exact hdl)]
      exact hv
    · rw [getD_set_ne false (Ne.symm hji)] at hl
      have h1 := inv.facts j hj hl d hd
      rw [eval_get, get_put_ne (hdis j d hj hji hd), ← eval_get]
      exact hst j hj _ _ _ hb h1
  · have hne : o.dst ≠ some t := by
      rw [← hd0]
      exact ht i hi (by simp [hlt])
    rw [get_put_ne hne]
    refine inv.rest t fun j hj hl => ht j hj ?_
    by_cases hji : j = i
    · subst hji; simp [hlt]
    · rw [getD_set_ne false (Ne.symm hji)]; exact hl

theorem upon_of_gives {o : Oper} {a : Act} {w : World} {K : Act → World → Prop} {Q : Exit → Act → World → Prop} {R : Value → World → Prop} (h : gives P o a w R) (hk : ∀ v w', R v w' → K (a.put o.dst v) w') : o.wp P a w K Q := by
  unfold gives at h
  unfold Oper.wp
  generalize (execOp a.eval o).run P w = r at *
  cases r with
  | ok n w' =>
    cases n <;> simp only at h <;> simp only [Oper.upon]
    case value u => exact hk _ _ h
    case skip => exact hk _ _ h
    case enter f args =>
      exact h.mono fun e w'' ⟨u, he, hr⟩ => by subst he; exact hk _ _ hr
  | halt x w' => simp only at h

theorem exists_ready {n : Nat} {listed : Array Bool} (hB : growHead md ops n = true) (hs : listed.size = ops.size) (hn : n ≤ ops.size) : ∀ (k i : Nat), i = k → i < n → listed.getD i true = false → Region.ready md ops listed ≠ [] := by
  intro k
  induction k using Nat.strongRecOn with
  | _ k ih =>
    intro i hik hi hun h0
    subst hik
    obtain ⟨o, ho⟩ : ∃ o, ops[i]? = some o := ⟨ops[i], Array.getElem?_eq_getElem (by omega)⟩
    obtain ⟨hb, _, _⟩ := growHead_spec hB hi ho
    by_cases hall : ∀ e ∈ o.after, Region.binds md e = true → listed.getD e.on false = true
    · have : i ∈ Region.ready md ops listed := mem_ready.2 ⟨hun, o, ho, hall⟩
      rw [h0] at this
      cases this
    · obtain ⟨e, he⟩ := Classical.not_forall.1 hall
      obtain ⟨hm, he⟩ := Classical.not_imp.1 he
      obtain ⟨hbi, he⟩ := Classical.not_imp.1 he
      have hlt := hb e hm hbi
      refine ih e.on hlt e.on rfl (by omega) (getD_in (by omega) (by simpa using he)) h0

theorem listed_eq {n : Nat} {listed : Array Bool} (h : HeadInv md ops n listed) (hn : n ≤ ops.size) (hall : ∀ i, i < n → listed.getD i true = true) : listed = allListed ops.size n := by
  apply Array.ext
  · simp [allListed, h.size]
  · intro i h1 h2
    simp only [allListed, Array.getElem_ofFn]
    by_cases hi : i < n
    · have := hall i hi
      simp [h1] at this
      simp [this, hi]
    · have := h.tail i (by omega) (by rw [← h.size]; exact h1)
      simp [h1] at this
      simp [this, hi]

/-- new variables are unlike each other -/
def Apart (ops : Array Oper) (n : Nat) (a : Act) : Prop := ∀ i j d d', i < n → j < n → i ≠ j → newAt ops i = true → newAt ops j = true → dstOf ops i = some d → dstOf ops j = some d' → a.eval (.tmp d) ≠ a.eval (.tmp d')

theorem wpAny_grow (ok : LeOk Le) {V : Nat → Fact} {n : Nat} {l : List Oper} {Q : Exit → Act → World → Prop} (hops : ops = l.toArray) (hB : growB md ops n = true) (hob : ∀ i, i < n → Ob Le P ops w0 a0 V i) (hsz : ∀ j d, j < n → dstOf ops j = some d → d < a0.tmps.size)
    (hfin : ∀ a w, Le w0 w → a.tmps.size = a0.tmps.size → a.defers = a0.defers → (∀ i d, i < n → dstOf ops i = some d → V i w (a.eval (.tmp d))) → (∀ i, i < n → dstOf ops i = none → ∃ u, V i w u) → (∀ t, (∀ i, i < n → dstOf ops i ≠ some t) → a.tmps[t]? = a0.tmps[t]?) → Apart ops n a → wpList P ops Q (l.drop n) a w) :
    ∀ (m : Nat) (L : List Nat) (listed : Array Bool) (a : Act) (w : World), L.length = m → L.Nodup → (∀ i, i ∈ L ↔ i < n ∧ listed.getD i true = false) → Inv Le P ops md w0 a0 V n listed a w → wpAny P md ops Q (m + (ops.size - n)) listed a w := by
  simp only [growB, Bool.and_eq_true, Bool.or_eq_true, decide_eq_true_eq] at hB
  obtain ⟨⟨⟨hH, hn⟩, hT⟩, hS⟩ := hB
  intro m
  induction m with
  | zero =>
    intro L listed a w hL _ hmem inv
    obtain rfl := List.eq_nil_of_length_eq_zero hL
    have hall : ∀ i, i < n → listed.getD i true = true := fun i hi => by
      cases hq : listed.getD i true with
      | true => rfl
      | false =>
        have := (hmem i).2 ⟨hi, hq⟩
        cases this
    have e := listed_eq inv.head hn hall
    have hf : ∀ i, i < n → listed.getD i false = true := fun i hi => by
      have h1 := hall i hi
      have h2 : i < listed.size := by rw [inv.head.size]; omega
      simp [h2] at h1 ⊢; exact h1
    have h1 := hfin a w inv.below inv.size inv.defers (fun i d hi hd => inv.facts i hi (hf i hi) d hd) (fun i hi hd => inv.facts0 i hi (hf i hi) hd) (fun t ht => inv.rest t fun i hi _ => ht i hi) (fun i j d d' hi hj hij => inv.apart i j d d' hi hj hij (hf i hi) (hf j hj))
    have hlen : (l.drop n).length = ops.size - n := by rw [hops]; simp
    have h2 := wpAny_of_seq (P := P) (md := md) (Q' := Q) (l.drop n) n listed a w (fun j => by rw [hops]; simp [List.getElem?_drop]) (by rw [hlen, e]; exact hS) h1
    rw [hlen] at h2
    rwa [Nat.zero_add]
  | succ m ih =>
    intro L listed a w hL hnd hmem inv
    rw [show m + 1 + (ops.size - n) = (m + (ops.size - n)) + 1 by omega]
    obtain ⟨x, hx⟩ : ∃ x, x ∈ L := by
      cases L with
      | nil => simp at hL
      | cons x _ => exact ⟨x, by simp⟩
    obtain ⟨hxn, hxu⟩ := (hmem x).1 hx
    refine ⟨fun h0 => absurd h0 (exists_ready hH inv.head.size hn x x rfl hxn hxu), fun i hr => ?_⟩
    obtain ⟨hun, o, ho, hwait⟩ := mem_ready.1 hr
    have hi : i < n := by
      rcases hT with hT | ⟨hs, hc⟩
      · rw [hT]; exact (Array.getElem?_eq_some_iff.1 ho).1
      · rcases Nat.lt_or_ge i n with h | h
        · exact h
        · rcases Nat.lt_or_ge n ops.size with hlt | hge
          · exact absurd hr (tail_waits hs hc hlt inv.head _ x rfl hxn hxu i h)
          · have := (Array.getElem?_eq_some_iff.1 ho).1
            omega
    obtain ⟨hb, hdis, hsrc⟩ := growHead_spec hH hi ho
    have hiL : i ∈ L := (hmem i).2 ⟨hi, hun⟩
    have hlt : i < listed.size := by rw [inv.head.size]; exact (Array.getElem?_eq_some_iff.1 ho).1
    have go : ∀ (v : Value) (w' : World), Le w w' → V i w' v → (newB o = true → ∃ b, v = .pointer (some ⟨b, 0, none⟩) ∧ w.heap.size ≤ b ∧ b < w'.heap.size) → wpAny P md ops Q (m + (ops.size - n)) (listed.setIfInBounds i true) (a.put o.dst v) w' := by
      intro v w' hbw hv hnew
      refine ih (L.erase i) _ _ _ (by rw [List.length_erase_of_mem hiL, hL]; rfl) (hnd.erase i) (fun j => ?_) (inv.step ok hH (fun j hj => (hob j hj).1) hsz ho hi hr hbw hv hnew)
      rw [hnd.mem_erase_iff, hmem j]
      by_cases hji : j = i
      · subst hji
        simp [hlt]
      · rw [getD_set_ne true (Ne.symm hji)]
        simp [hji]
    have hlisted : ∀ t ∈ o.looksAt ops, ∀ j, j < n → dstOf ops j = some t → listed.getD j false = true := by
      intro t ht j hj hd
      obtain ⟨_, hw⟩ := hsrc t ht j hj hd
      obtain ⟨oj, hoj, e, he, hbi, hon⟩ := Region.waitsFor_spec hw
      obtain rfl : oj = o := Option.some.inj (hoj.symm.trans ho)
      rw [← hon]
      exact hwait e he hbi
    have h1 := (hob i hi).2 o ho a w inv.below inv.size (fun t ht j hj hd => inv.facts j (by omega) (hlisted t ht j (by omega) hd) t hd)
      (fun t ht hno => inv.rest t fun j hj hl hd => by
        obtain ⟨hlt', _⟩ := hsrc t ht j hj hd
        exact hno j hlt' hd)
    unfold wpOp
    simp only [ho]
    split
    · rename_i hw
      simp only [hw, if_true] at h1
      cases hnb : newB o with
      | false => exact .inl (upon_of_gives h1 fun v w' ⟨hbw, hv⟩ => go v w' hbw hv fun h => by rw [hnb] at h; cases h)
      | true => exact .inl (upon_of_gives (gives_new h1 hnb) fun v w' ⟨⟨hbw, hv⟩, hx⟩ => go v w' hbw hv fun _ => hx)
    · rename_i hw
      rw [if_neg hw] at h1
      refine go _ _ (ok.refl _) h1 fun hnb => absurd ?_ hw
      unfold newB at hnb
      cases hop : o.op <;> simp [hop] at hnb
      simp [Region.wanted, hnb]

/-! ### the walk: exact values in the frame; of special ones only a fact -/

/-- the worlds in which nothing old was written -/
def Later (w0 : World) : World → Prop := fun w' => ∃ p : Regrown, w' = grow (redrawn w0 p.d) p.os

theorem later_iff {w0 w : World} : Later w0 w ↔ Below w0.heap.size w0 w :=
  ⟨fun ⟨p, h⟩ => by rw [h]; exact below_regrown w0 p.d p.os, fun h => regrown_of_below h⟩

/-- an operation that leaves an exact value; a call may make memory -/
def quietUpon (Le : World → World → Prop) (P : Program) (w : World) (v : Value) : Result Next → Prop
  | .ok (.value u) w' => w' = w ∧ u = v
  | .ok .skip w' => w' = w ∧ v = undef
  | .ok (.enter f args) w' => w' = w ∧ Calls P f args w (fun e w'' => e = .returned v ∧ Le w w'')
  | _ => False
def quietAt (Le : World → World → Prop) (P : Program) (o : Oper) (a : Act) (w : World) (v : Value) : Prop := quietUpon Le P w v ((execOp a.eval o).run P w)
def quietL (Le : World → World → Prop) (P : Program) (o : Oper) (a : Act) (w0 : World) (next : Act → Prop) : Prop := ∃ v, (∀ w, Le w0 w → quietAt Le P o a w v) ∧ next (a.put o.dst v)
def quiet (P : Program) (o : Oper) (a : Act) (w0 : World) (next : Act → Prop) : Prop := ∃ v, (∀ p : Regrown, quietAt Bel P o a (grow (redrawn w0 p.d) p.os) v) ∧ next (a.put o.dst v)

def putAll (R : Act → World → Prop) : List (Tmp × Fact) → Act → World → Prop
  | [], a, w => R a w
  | (t, V) :: S, a, w => ∀ u, V w u → putAll R S (a.put (some t) u) w

/-- what a special operation owes -/
def Owes (Le : World → World → Prop) (P : Program) (ops : Array Oper) (w0 : World) (a : Act) (S : List (Tmp × Fact)) (o : Oper) (V : Fact) : Prop :=
  ∀ (ρ : Act) (w : World), Le w0 w → (∀ p ∈ S, p.1 ∈ o.looksAt ops → p.2 w (ρ.eval (.tmp p.1))) → (∀ t ∈ o.looksAt ops, t ∉ S.map Prod.fst → ρ.eval (.tmp t) = a.eval (.tmp t)) →
    gives P o ρ w (fun u w' => Le w w' ∧ V w' u)

def guardSlots (ops : Array Oper) (o : Oper) : List Tmp :=
  match o.guard with
  | some (g, _) => ((ops[g]?).bind (·.dst)).toList
  | none => []

/-- the operation runs, and what tells so is an exact value -/
def wantB (ops : Array Oper) (o : Oper) (a : Act) (S : List (Tmp × Fact)) : Bool := Region.wanted o (yielded ops a.tmps) && (guardSlots ops o).all fun t => !(S.map Prod.fst).contains t

def Mix (Le : World → World → Prop) (P : Program) (ops : Array Oper) (w0 : World) (R : Act → World → Prop) : List Oper → Act → List (Tmp × Fact) → List Fact → Prop
  | [], a, S, F => ∀ w, Le w0 w → (∀ f ∈ F, ∃ u, f w u) → putAll R S a w
  | o :: rest, a, S, F =>
    ((∀ cs b, o.op ≠ .select cs b) ∧ (∀ t ∈ o.looksAt ops, t ∉ S.map Prod.fst) ∧ if Region.wanted o (yielded ops a.tmps) then quietL Le P o a w0 (fun a' => Mix Le P ops w0 R rest a' S F) else Mix Le P ops w0 R rest (a.put o.dst undef) S F) ∨
    (wantB ops o a S = true ∧ ∃ d V, o.dst = some d ∧ Stable Le V ∧ Owes Le P ops w0 a S o V ∧ Mix Le P ops w0 R rest (a.put o.dst undef) (S ++ [(d, V)]) F) ∨
    (wantB ops o a S = true ∧ ∃ v, Owes Le P ops w0 a S o (fun _ u => u = v) ∧ Mix Le P ops w0 R rest (a.put o.dst v) S F) ∨
    (wantB ops o a S = true ∧ o.dst = none ∧ ∃ V, Stable Le V ∧ Owes Le P ops w0 a S o V ∧ Mix Le P ops w0 R rest a S (F ++ [V]))

structure Rel (ops : Array Oper) (a0 : Act) (V : Nat → Fact) (k : Nat) (a : Act) (S : List (Tmp × Fact)) (F : List Fact) : Prop where
  size : a.tmps.size = a0.tmps.size
  defers : a.defers = a0.defers
  exact_ : ∀ j t, j < k → dstOf ops j = some t → (t ∈ S.map Prod.fst) ∨ V j = fun _ v => v = a.eval (.tmp t)
  special : ∀ p ∈ S, ∃ j, j < k ∧ dstOf ops j = some p.1 ∧ V j = p.2
  stored : ∀ f ∈ F, ∃ j, j < k ∧ dstOf ops j = none ∧ V j = f
  rest : ∀ t, (∀ j, j < k → dstOf ops j ≠ some t) → a.tmps[t]? = a0.tmps[t]?

theorem get_of_eval {a b : Act} (hs : a.tmps.size = b.tmps.size) {t : Tmp} (h : a.eval (.tmp t) = b.eval (.tmp t)) : a.tmps[t]? = b.tmps[t]? := by
  rw [eval_get, eval_get] at h
  by_cases ht : t < a.tmps.size
  · rw [Array.getElem?_eq_getElem ht, Array.getElem?_eq_getElem (show t < b.tmps.size from hs ▸ ht)] at h ⊢
    simpa using h
  · rw [Array.getElem?_eq_none (Nat.le_of_not_lt ht), Array.getElem?_eq_none (Nat.le_of_not_lt (hs ▸ ht))]

theorem Rel.agree {V : Nat → Fact} {k : Nat} {a ρ : Act} {S : List (Tmp × Fact)} {F : List Fact} (r : Rel ops a0 V k a S F) {w : World} (hs : ρ.tmps.size = a0.tmps.size) {t : Tmp} (hS : t ∉ S.map Prod.fst)
    (h1 : ∀ j, j < k → dstOf ops j = some t → V j w (ρ.eval (.tmp t))) (h2 : (∀ j, j < k → dstOf ops j ≠ some t) → ρ.tmps[t]? = a0.tmps[t]?) : ρ.tmps[t]? = a.tmps[t]? := by
  by_cases hj : ∃ j, j < k ∧ dstOf ops j = some t
  · obtain ⟨j, hj, hd⟩ := hj
    have h3 := h1 j hj hd
    rcases r.exact_ j t hj hd with h | h
    · exact absurd h hS
    · rw [h] at h3
      exact get_of_eval (by rw [hs, r.size]) h3
  · have hno : ∀ j, j < k → dstOf ops j ≠ some t := fun j h1 h2 => hj ⟨j, h1, h2⟩
    rw [h2 hno, r.rest t hno]

theorem yielded_congr {tmps tmps' : Array Value} {o : Oper} (h : ∀ t ∈ o.looksAt ops, tmps'[t]? = tmps[t]?) : Region.wanted o (yielded ops tmps') = Region.wanted o (yielded ops tmps) := by
  unfold Region.wanted
  cases hg : o.guard with
  | none => rfl
  | some gw =>
    obtain ⟨g, want⟩ := gw
    have : yielded ops tmps' g = yielded ops tmps g := by
      unfold yielded
      cases ht : (ops[g]?).bind (·.dst) with
      | none => rfl
      | some t =>
        have := h t (by simp [Oper.looksAt, hg, ht])
        simp [this]
    simp only [this]

theorem wanted_guard {tmps tmps' : Array Value} {o : Oper} (h : ∀ t ∈ guardSlots ops o, tmps'[t]? = tmps[t]?) : Region.wanted o (yielded ops tmps') = Region.wanted o (yielded ops tmps) := by
  unfold Region.wanted
  cases hg : o.guard with
  | none => rfl
  | some gw =>
    obtain ⟨g, want⟩ := gw
    have : yielded ops tmps' g = yielded ops tmps g := by
      unfold yielded
      cases ht : (ops[g]?).bind (·.dst) with
      | none => rfl
      | some t =>
        have := h t (by simp [guardSlots, hg, ht])
        simp [this]
    simp only [this]

theorem guard_looks {o : Oper} {t : Tmp} (h : t ∈ guardSlots ops o) : t ∈ o.looksAt ops := by
  unfold guardSlots at h
  unfold Oper.looksAt
  exact List.mem_append_right _ h

theorem wantB_spec {o : Oper} {a : Act} {S : List (Tmp × Fact)} (h : wantB ops o a S = true) : Region.wanted o (yielded ops a.tmps) = true ∧ ∀ t ∈ guardSlots ops o, t ∉ S.map Prod.fst := by
  simp only [wantB, Bool.and_eq_true] at h
  refine ⟨h.1, fun t ht hm => ?_⟩
  have := List.all_eq_true.1 h.2 t ht
  simp only [Bool.not_eq_true', List.contains_eq_mem, decide_eq_false_iff_not] at this
  exact this hm

theorem stable_eq (v : Value) : Stable Le (fun _ u => u = v) := fun _ _ _ _ h => h

def Good (Le : World → World → Prop) (P : Program) (ops : Array Oper) (w0 : World) (a0 : Act) (R : Act → World → Prop) (n k : Nat) (V : Nat → Fact) : Prop :=
  ∃ V' : Nat → Fact, (∀ j, j < k → V' j = V j) ∧ (∀ i, k ≤ i → i < n → Ob Le P ops w0 a0 V' i) ∧
    (∀ b w, Le w0 w → b.tmps.size = a0.tmps.size → b.defers = a0.defers → (∀ i d, i < n → dstOf ops i = some d → V' i w (b.eval (.tmp d))) → (∀ i, i < n → dstOf ops i = none → ∃ u, V' i w u) → (∀ t, (∀ i, i < n → dstOf ops i ≠ some t) → b.tmps[t]? = a0.tmps[t]?) → R b w)

/-- the values that the walk of the rest gives -/
theorem mix_obs (ok : LeOk Le) {R : Act → World → Prop} {n : Nat} (hB : growHead md ops n = true) (hsz : ∀ j d, j < n → dstOf ops j = some d → d < a0.tmps.size) :
    ∀ (l : List Oper) (k : Nat) (a : Act) (S : List (Tmp × Fact)) (F : List Fact) (V : Nat → Fact), k + l.length = n → (∀ j, j < l.length → l[j]? = ops[k + j]?) → Rel ops a0 V k a S F → Mix Le P ops w0 R l a S F → Good Le P ops w0 a0 R n k V
  | [], k, a, S, F, V, hk, _, r, h => by
    obtain rfl : k = n := by simpa using hk
    refine ⟨V, fun _ _ => rfl, fun i h1 h2 => by omega, fun b w hw hs hd hf hf0 hr => ?_⟩
    have hF : ∀ f ∈ F, ∃ u, f w u := fun f hfm => by
      obtain ⟨j, hj, hdj, hV⟩ := r.stored f hfm
      rw [← hV]
      exact hf0 j hj hdj
    have key : ∀ (T : List (Tmp × Fact)) (c : Act), (∀ p ∈ T, p ∈ S) → c.tmps.size = a0.tmps.size → c.defers = a0.defers → (∀ t, t ∉ T.map Prod.fst → c.tmps[t]? = b.tmps[t]?) → putAll R T c w → R b w := by
      intro T
      induction T with
      | nil =>
        intro c _ h1 h2 h3 h4
        have : c = b := by
          obtain ⟨ct, cd⟩ := c
          obtain ⟨bt, bd⟩ := b
          simp only [Act.mk.injEq]
          refine ⟨?_, ?_⟩
          · apply Array.ext_getElem?
            intro t
            exact h3 t (by simp)
          · exact h2.trans hd.symm
        rw [← this]
        exact h4
      | cons p T ihT =>
        intro c hT h1 h2 h3 h4
        obtain ⟨t, W⟩ := p
        obtain ⟨j, hj, hdj, hV⟩ := r.special (t, W) (hT _ (by simp))
        have h5 := h4 (b.eval (.tmp t)) (by
          have := hf j t hj hdj
          rw [hV] at this
          exact this)
        refine ihT _ (fun p hp => hT p (by simp [hp])) (by rw [put_size]; exact h1) (by rw [put_defers]; exact h2) (fun t' ht' => ?_) h5
        by_cases htt : t' = t
        · subst htt
          have hlt := hsz j t' hj hdj
          rw [get_put_same (by rw [h1]; exact hlt), eval_get, Array.getElem?_eq_getElem (by rw [hs]; exact hlt)]
          rfl
        · rw [get_put_ne (by simpa using fun e => htt e.symm)]
          exact h3 t' (by simp [htt]; simpa using ht')
    refine key S a (fun _ h => h) r.size r.defers (fun t ht => ?_) (h w hw hF)
    exact (r.agree hs ht (fun j hj hd => hf j t hj hd) (fun hno => hr t hno)).symm
  | o :: l, k, a, S, F, V, hk, hl, r, h => by
    have h0 : ops[k]? = some o := by simpa using (hl 0 (by simp)).symm
    have hkn : k < n := by simp only [List.length_cons] at hk; omega
    have hd0 : dstOf ops k = o.dst := by unfold dstOf; rw [h0]; rfl
    obtain ⟨_, hdis, _⟩ := growHead_spec hB hkn h0
    -- the new relation
    have hnoS : ∀ d, o.dst = some d → d ∉ S.map Prod.fst := by
      intro d hd hm
      obtain ⟨p, hp, rfl⟩ := List.mem_map.1 hm
      obtain ⟨j, hj, hdj, _⟩ := r.special p hp
      exact hdis j p.1 (by omega) (by omega) hdj hd
    have rel' : ∀ (v : Value) (S' : List (Tmp × Fact)) (F' : List Fact) (W : Fact), (S' = S ∧ F' = F ∧ (W = fun _ u => u = v) ∨ (∃ d, o.dst = some d ∧ S' = S ++ [(d, W)] ∧ F' = F) ∨ o.dst = none ∧ S' = S ∧ F' = F ++ [W]) →
        Rel ops a0 (fun j => if j = k then W else V j) (k + 1) (a.put o.dst v) S' F' := by
      intro v S' F' W hS'
      have hsub : ∀ t, t ∈ S.map Prod.fst → t ∈ S'.map Prod.fst := by
        intro t ht
        rcases hS' with ⟨rfl, _⟩ | ⟨d, _, rfl, _⟩ | ⟨_, rfl, _⟩
        · exact ht
        · simp only [List.map_append, List.mem_append]; exact .inl ht
        · exact ht
      have oldS : ∀ p ∈ S, ∃ j, j < k + 1 ∧ dstOf ops j = some p.1 ∧ (if j = k then W else V j) = p.2 := by
        intro p hp
        obtain ⟨j, hj, hdj, hV⟩ := r.special p hp
        exact ⟨j, by omega, hdj, by rw [if_neg (by omega)]; exact hV⟩
      have oldF : ∀ f ∈ F, ∃ j, j < k + 1 ∧ dstOf ops j = none ∧ (if j = k then W else V j) = f := by
        intro f hf
        obtain ⟨j, hj, hdj, hV⟩ := r.stored f hf
        exact ⟨j, by omega, hdj, by rw [if_neg (by omega)]; exact hV⟩
      refine ⟨by rw [put_size]; exact r.size, by rw [put_defers]; exact r.defers, fun j t hj hd => ?_, fun p hp => ?_, fun f hf => ?_, fun t ht => ?_⟩
      · by_cases hjk : j = k
        · subst hjk
          rw [hd0] at hd
          rcases hS' with ⟨rfl, rfl, rfl⟩ | ⟨d, hdd, rfl, rfl⟩ | ⟨hno, _, _⟩
          · right
            simp only [if_true]
            have hlt := hsz j t hkn (by rw [hd0]; exact hd)
            rw [eval_get, hd, get_put_same (by rw [r.size]; exact hlt)]
            rfl
          · left
            obtain rfl : d = t := Option.some.inj (hdd.symm.trans hd)
            simp
          · rw [hno] at hd; cases hd
        · simp only [hjk, if_false]
          rcases r.exact_ j t (by omega) hd with h | h
          · exact .inl (hsub t h)
          · right
            rw [h, eval_get, eval_get, get_put_ne (hdis j t (by omega) hjk hd)]
      · rcases hS' with ⟨rfl, _, _⟩ | ⟨d, hdd, rfl, _⟩ | ⟨_, rfl, _⟩
        · exact oldS p hp
        · rcases List.mem_append.1 hp with hp | hp
          · exact oldS p hp
          · simp only [List.mem_singleton] at hp
            subst hp
            exact ⟨k, by omega, by rw [hd0]; exact hdd, by simp⟩
        · exact oldS p hp
      · rcases hS' with ⟨_, rfl, _⟩ | ⟨d, hdd, _, rfl⟩ | ⟨hno, _, rfl⟩
        · exact oldF f hf
        · exact oldF f hf
        · rcases List.mem_append.1 hf with hf | hf
          · exact oldF f hf
          · simp only [List.mem_singleton] at hf
            subst hf
            exact ⟨k, by omega, by rw [hd0]; exact hno, by simp⟩
      · rw [get_put_ne (by rw [← hd0]; exact ht k (by omega))]
        exact r.rest t fun j hj => ht j (by omega)
    have next : ∀ (v : Value) (S' : List (Tmp × Fact)) (F' : List Fact) (W : Fact), (S' = S ∧ F' = F ∧ (W = fun _ u => u = v) ∨ (∃ d, o.dst = some d ∧ S' = S ++ [(d, W)] ∧ F' = F) ∨ o.dst = none ∧ S' = S ∧ F' = F ++ [W]) → Mix Le P ops w0 R l (a.put o.dst v) S' F' →
        (∀ V' : Nat → Fact, (∀ j, j < k → V' j = V j) → V' k = W → Ob Le P ops w0 a0 V' k) → Good Le P ops w0 a0 R n k V := by
      intro v S' F' W hS' hm hobk
      obtain ⟨V', e1, e2, e3⟩ := mix_obs ok hB hsz l (k + 1) (a.put o.dst v) S' F' (fun j => if j = k then W else V j) (by simp only [List.length_cons] at hk; omega)
        (fun j hj => by have := hl (j + 1) (by simp; omega); simpa [Nat.add_assoc, Nat.add_comm 1 j] using this) (rel' v S' F' W hS') hm
      have e1' : ∀ j, j < k → V' j = V j := fun j hj => by
        have := e1 j (by omega)
        simp only at this
        rwa [if_neg (by omega)] at this
      exact ⟨V', e1', fun i h1 h2 => by
        by_cases hik : i = k
        · subst hik
          exact hobk V' e1' (by have := e1 i (by omega); simpa using this)
        · exact e2 i (by omega) h2, e3⟩
    rcases h with ⟨hsel, hlook, h⟩ | ⟨hg, d, W, hd, hst, how, h⟩ | ⟨hg, v, how, h⟩ | ⟨hg, hno, W, hst, how, h⟩
    · -- an exact value
      have agree : ∀ (V' : Nat → Fact), (∀ j, j < k → V' j = V j) → ∀ (ρ : Act) (w : World), ρ.tmps.size = a0.tmps.size →
          (∀ t ∈ o.looksAt ops, ∀ j, j < k → dstOf ops j = some t → V' j w (ρ.eval (.tmp t))) → (∀ t ∈ o.looksAt ops, (∀ j, j < k → dstOf ops j ≠ some t) → ρ.tmps[t]? = a0.tmps[t]?) →
          ∀ t ∈ o.looksAt ops, ρ.tmps[t]? = a.tmps[t]? := by
        intro V' hV' ρ w hs h1 h2 t ht
        exact r.agree hs (hlook t ht) (fun j hj hd => by rw [← hV' j hj]; exact h1 t ht j hj hd) (h2 t ht)
      have exec : ∀ ρ : Act, (∀ t ∈ o.looksAt ops, ρ.tmps[t]? = a.tmps[t]?) → execOp ρ.eval o = execOp a.eval o := fun ρ hρ =>
        execOp_congr o hsel fun x hx => by
          cases x with
          | tmp t => rw [eval_get, eval_get, hρ t (List.mem_append_left _ (List.mem_filterMap.2 ⟨.tmp t, by simpa using hx, rfl⟩))]
          | _ => rfl
      by_cases hw : Region.wanted o (yielded ops a.tmps) = true
      · rw [if_pos hw] at h
        obtain ⟨v, hv, hm⟩ := h
        refine next v S F (fun _ u => u = v) (.inl ⟨rfl, rfl, rfl⟩) hm fun V' hV' hVk => ?_
        rw [Ob, hVk]
        refine ⟨stable_eq v, fun o' ho' ρ w hbw hs h1 h2 => ?_⟩
        obtain rfl : o = o' := Option.some.inj (h0.symm.trans ho')
        have ag := agree V' hV' ρ w hs h1 h2
        rw [yielded_congr ag, if_pos hw]
        have := hv w hbw
        unfold quietAt at this
        unfold gives
        rw [exec ρ ag]
        generalize (execOp a.eval o).run P w = res at *
        cases res with
        | ok nx w' =>
          cases nx <;> simp only [quietUpon] at this ⊢
          case value u => exact ⟨by rw [this.1]; exact ok.refl _, this.2⟩
          case skip => exact ⟨by rw [this.1]; exact ok.refl _, this.2.symm⟩
          case enter f args =>
            obtain ⟨rfl, hc⟩ := this
            exact hc.mono fun e w'' ⟨he, hb⟩ => ⟨v, he, hb, rfl⟩
        | halt x w' => simp only [quietUpon] at this
      · rw [if_neg hw] at h
        refine next undef S F (fun _ u => u = undef) (.inl ⟨rfl, rfl, rfl⟩) h fun V' hV' hVk => ?_
        rw [Ob, hVk]
        refine ⟨stable_eq undef, fun o' ho' ρ w hbw hs h1 h2 => ?_⟩
        obtain rfl : o = o' := Option.some.inj (h0.symm.trans ho')
        rw [yielded_congr (agree V' hV' ρ w hs h1 h2), if_neg hw]
    · refine next undef (S ++ [(d, W)]) F W (.inr (.inl ⟨d, hd, rfl, rfl⟩)) h fun V' hV' hVk => ?_
      rw [Ob, hVk]
      refine ⟨hst, fun o' ho' ρ w hbw hs h1 h2 => ?_⟩
      obtain rfl : o = o' := Option.some.inj (h0.symm.trans ho')
      rw [if_pos (by
        obtain ⟨hw1, hw2⟩ := wantB_spec hg
        rw [wanted_guard fun t ht => r.agree hs (hw2 t ht) (fun j hj hd => by rw [← hV' j hj]; exact h1 t (guard_looks ht) j hj hd) (h2 t (guard_looks ht))]
        exact hw1)]
      refine how ρ w hbw (fun p hp ht => ?_) (fun t ht hS => ?_)
      · obtain ⟨j, hj, hdj, hV⟩ := r.special p hp
        have := h1 p.1 ht j hj hdj
        rw [hV' j hj, hV] at this
        exact this
      · rw [eval_get, eval_get, r.agree hs hS (fun j hj hd => by rw [← hV' j hj]; exact h1 t ht j hj hd) (h2 t ht)]
    · refine next v S F (fun _ u => u = v) (.inl ⟨rfl, rfl, rfl⟩) h fun V' hV' hVk => ?_
      rw [Ob, hVk]
      refine ⟨stable_eq v, fun o' ho' ρ w hbw hs h1 h2 => ?_⟩
      obtain rfl : o = o' := Option.some.inj (h0.symm.trans ho')
      rw [if_pos (by
        obtain ⟨hw1, hw2⟩ := wantB_spec hg
        rw [wanted_guard fun t ht => r.agree hs (hw2 t ht) (fun j hj hd => by rw [← hV' j hj]; exact h1 t (guard_looks ht) j hj hd) (h2 t (guard_looks ht))]
        exact hw1)]
      refine how ρ w hbw (fun p hp ht => ?_) (fun t ht hS => ?_)
      · obtain ⟨j, hj, hdj, hV⟩ := r.special p hp
        have := h1 p.1 ht j hj hdj
        rw [hV' j hj, hV] at this
        exact this
      · rw [eval_get, eval_get, r.agree hs hS (fun j hj hd => by rw [← hV' j hj]; exact h1 t ht j hj hd) (h2 t ht)]
    · refine next undef S (F ++ [W]) W (.inr (.inr ⟨hno, rfl, rfl⟩)) (by rw [hno]; exact h) fun V' hV' hVk => ?_
      rw [Ob, hVk]
      refine ⟨hst, fun o' ho' ρ w hbw hs h1 h2 => ?_⟩
      obtain rfl : o = o' := Option.some.inj (h0.symm.trans ho')
      rw [if_pos (by
        obtain ⟨hw1, hw2⟩ := wantB_spec hg
        rw [wanted_guard fun t ht => r.agree hs (hw2 t ht) (fun j hj hd => by rw [← hV' j hj]; exact h1 t (guard_looks ht) j hj hd) (h2 t (guard_looks ht))]
        exact hw1)]
      refine how ρ w hbw (fun p hp ht => ?_) (fun t ht hS => ?_)
      · obtain ⟨j, hj, hdj, hV⟩ := r.special p hp
        have := h1 p.1 ht j hj hdj
        rw [hV' j hj, hV] at this
        exact this
      · rw [eval_get, eval_get, r.agree hs hS (fun j hj hd => by rw [← hV' j hj]; exact h1 t ht j hj hd) (h2 t ht)]

/-! ### the walk, for use -/
/-- of a region whose first n operations make no order matter, and whose others stand in one order behind them -/
theorem wp_region_mixA (ok : LeOk Le) {id : Nat} {Q : Exit → Act → World → Prop} {a : Act} {w : World} {l : List Oper} (n : Nat) (hm : P.follows .mixedOrders = true) (hB : growB .any l.toArray n = true)
    (hsz : ((List.range n).all fun j => match dstOf l.toArray j with | some d => decide (d < a.tmps.size) | none => true) = true)
    (h : Mix Le P l.toArray w (fun a w => Apart l.toArray n a → wpList P l.toArray Q (l.drop n) a w) (l.take n) a [] []) : (Code.region id l.toArray true).wp P Q a w := by
  have hB' := hB
  simp only [growB, Bool.and_eq_true, decide_eq_true_eq] at hB'
  obtain ⟨⟨⟨hH, hn⟩, _⟩, _⟩ := hB'
  have hsz' : ∀ j d, j < n → dstOf l.toArray j = some d → d < a.tmps.size := fun j d hj hd => by
    have := List.all_eq_true.1 hsz j (List.mem_range.2 hj)
    rw [hd] at this
    simpa using this
  have hn' : n ≤ l.length := by simpa using hn
  have hlen : (l.take n).length = n := by simp [hn']
  refine wp_region_any hm ?_
  obtain ⟨V, _, hob, hfin⟩ := mix_obs ok hH hsz' (l.take n) 0 a [] [] (fun _ => fun _ _ => True) (by rw [hlen]; omega) (fun j hj => by
      have hj' : j < n := by rw [hlen] at hj; exact hj
      simp [hj']) ⟨rfl, rfl, fun j t hj _ => absurd hj (Nat.not_lt_zero j), fun p hp => (by cases hp), fun f hf => (by cases hf), fun t _ => rfl⟩ h
  have H := wpAny_grow ok (P := P) (md := .any) (w0 := w) (a0 := a) (V := V) (n := n) (l := l) (Q := Q) rfl hB (fun i hi => hob i (Nat.zero_le _) hi) hsz' (fun a w h1 h2 h3 h4 h5 h6 hA => hfin a w h1 h2 h3 h4 h5 h6 hA) n (List.range n) (Array.replicate l.toArray.size false) a _ (by simp) List.nodup_range
    (fun i => by
      rw [List.mem_range]
      constructor
      · intro hi
        exact ⟨hi, getD_in (by simp; omega) (getD_replicate_false _ _)⟩
      · exact fun h => h.1)
    ⟨⟨by simp, fun j oj _ hl => (by rw [getD_replicate_false] at hl; cases hl), fun t _ ht => getD_in (by simpa using ht) (getD_replicate_false _ _)⟩, ok.drew w, rfl, rfl, fun i _ hl => (by rw [getD_replicate_false] at hl; cases hl), fun i _ hl => (by rw [getD_replicate_false] at hl; cases hl), fun t _ => rfl, fun i d _ hl => (by rw [getD_replicate_false] at hl; cases hl), fun i j d d' _ _ _ hl => (by rw [getD_replicate_false] at hl; cases hl)⟩
  rwa [show n + (l.toArray.size - n) = l.toArray.size by omega] at H

theorem putAll_mono {R R' : Act → World → Prop} (h : ∀ a w, R a w → R' a w) : ∀ (S : List (Tmp × Fact)) (a : Act) (w : World), putAll R S a w → putAll R' S a w
  | [], _, _, hp => h _ _ hp
  | (_, _) :: S, _, _, hp => fun u hu => putAll_mono h S _ _ (hp u hu)

theorem mix_mono {R R' : Act → World → Prop} (h : ∀ a w, R a w → R' a w) : ∀ (l : List Oper) (a : Act) (S : List (Tmp × Fact)) (F : List Fact), Mix Le P ops w0 R l a S F → Mix Le P ops w0 R' l a S F
  | [], a, S, F, hm => fun w hw hF => putAll_mono h S a w (hm w hw hF)
  | o :: rest, a, S, F, hm => by
    rcases hm with ⟨h1, h2, h3⟩ | ⟨hg, d, V, hd, hst, how, hm⟩ | ⟨hg, v, how, hm⟩ | ⟨hg, hd, V, hst, how, hm⟩
    · refine .inl ⟨h1, h2, ?_⟩
      split
      · rename_i hw
        rw [if_pos hw] at h3
        obtain ⟨v, hv, hm⟩ := h3
        exact ⟨v, hv, mix_mono h rest _ _ _ hm⟩
      · rename_i hw
        rw [if_neg hw] at h3
        exact mix_mono h rest _ _ _ h3
    · exact .inr (.inl ⟨hg, d, V, hd, hst, how, mix_mono h rest _ _ _ hm⟩)
    · exact .inr (.inr (.inl ⟨hg, v, how, mix_mono h rest _ _ _ hm⟩))
    · exact .inr (.inr (.inr ⟨hg, hd, V, hst, how, mix_mono h rest _ _ _ hm⟩))

theorem wp_region_mixL (ok : LeOk Le) {id : Nat} {Q : Exit → Act → World → Prop} {a : Act} {w : World} {l : List Oper} (n : Nat) (hm : P.follows .mixedOrders = true) (hB : growB .any l.toArray n = true)
    (hsz : ((List.range n).all fun j => match dstOf l.toArray j with | some d => decide (d < a.tmps.size) | none => true) = true)
    (h : Mix Le P l.toArray w (wpList P l.toArray Q (l.drop n)) (l.take n) a [] []) : (Code.region id l.toArray true).wp P Q a w :=
  wp_region_mixA ok n hm hB hsz (mix_mono (R' := fun a w => Apart l.toArray n a → wpList P l.toArray Q (l.drop n) a w) (fun _ _ h _ => h) _ _ _ _ h)

theorem wp_region_mix {id : Nat} {Q : Exit → Act → World → Prop} {a : Act} {w : World} {l : List Oper} (n : Nat) (hm : P.follows .mixedOrders = true) (hB : growB .any l.toArray n = true)
    (hsz : ((List.range n).all fun j => match dstOf l.toArray j with | some d => decide (d < a.tmps.size) | none => true) = true)
    (h : Mix Bel P l.toArray w (wpList P l.toArray Q (l.drop n)) (l.take n) a [] []) : (Code.region id l.toArray true).wp P Q a w :=
  wp_region_mixL bel_ok n hm hB hsz h

theorem mix_nil {R : Act → World → Prop} {a : Act} {S : List (Tmp × Fact)} {F : List Fact} (h : ∀ p : Regrown, putAll R S a (grow (redrawn w0 p.d) p.os)) : Mix Bel P ops w0 R [] a S F :=
  fun w hw _ => by
    obtain ⟨p, hp⟩ := regrown_of_below hw
    rw [hp]
    exact h p

theorem mix_nilL {R : Act → World → Prop} {a : Act} {S : List (Tmp × Fact)} {F : List Fact} (h : ∀ w, Le w0 w → (∀ f ∈ F, ∃ u, f w u) → putAll R S a w) : Mix Le P ops w0 R [] a S F := h

theorem look_spec {S : List (Tmp × Fact)} {o : Oper} (hl : ((o.looksAt ops).all fun t => !(S.map Prod.fst).contains t) = true) : ∀ t ∈ o.looksAt ops, t ∉ S.map Prod.fst := fun t ht hm => by
  have := List.all_eq_true.1 hl t ht
  simp only [Bool.not_eq_true', List.contains_eq_mem, decide_eq_false_iff_not] at this
  exact this hm

/-- an operation with an exact value -/
theorem mix_step {R : Act → World → Prop} {a : Act} {S : List (Tmp × Fact)} {F : List Fact} {o : Oper} {rest : List Oper} (hs : (match o.op with | .select .. => false | _ => true) = true) (hl : ((o.looksAt ops).all fun t => !(S.map Prod.fst).contains t) = true)
    (h : ∀ K : Act → Prop, (∀ a, Mix Bel P ops w0 R rest a S F → K a) → if Region.wanted o (yielded ops a.tmps) then quiet P o a w0 K else K (a.put o.dst undef)) : Mix Bel P ops w0 R (o :: rest) a S F := by
  refine .inl ⟨fun cs b e => (by rw [e] at hs; cases hs), look_spec hl, ?_⟩
  have := h _ fun _ h => h
  split
  · rename_i hw
    rw [if_pos hw] at this
    obtain ⟨v, h1, h2⟩ := this
    refine ⟨v, fun w hw => ?_, h2⟩
    obtain ⟨p, hp⟩ := later_iff.2 hw
    rw [hp]
    exact h1 p
  · rename_i hw
    rwa [if_neg hw] at this

theorem mix_stepL {R : Act → World → Prop} {a : Act} {S : List (Tmp × Fact)} {F : List Fact} {o : Oper} {rest : List Oper} (hs : (match o.op with | .select .. => false | _ => true) = true) (hl : ((o.looksAt ops).all fun t => !(S.map Prod.fst).contains t) = true)
    (h : ∀ K : Act → Prop, (∀ a, Mix Le P ops w0 R rest a S F → K a) → if Region.wanted o (yielded ops a.tmps) then quietL Le P o a w0 K else K (a.put o.dst undef)) : Mix Le P ops w0 R (o :: rest) a S F :=
  .inl ⟨fun cs b e => (by rw [e] at hs; cases hs), look_spec hl, h _ fun _ h => h⟩

def quietP (Le : World → World → Prop) (P : Program) (o : Oper) (a : Act) (next : Act → Prop) : Prop := ∃ v, (∀ w, quietAt Le P o a w v) ∧ next (a.put o.dst v)

/-- an operation that reads no memory; a call that hangs on none -/
theorem mix_stepP {R : Act → World → Prop} {a : Act} {S : List (Tmp × Fact)} {F : List Fact} {o : Oper} {rest : List Oper} (hs : (match o.op with | .select .. => false | _ => true) = true) (hl : ((o.looksAt ops).all fun t => !(S.map Prod.fst).contains t) = true)
    (h : ∀ K : Act → Prop, (∀ a, Mix Le P ops w0 R rest a S F → K a) → if Region.wanted o (yielded ops a.tmps) then quietP Le P o a K else K (a.put o.dst undef)) : Mix Le P ops w0 R (o :: rest) a S F := by
  refine .inl ⟨fun cs b e => (by rw [e] at hs; cases hs), look_spec hl, ?_⟩
  have := h _ fun _ h => h
  split
  · rename_i hw
    rw [if_pos hw] at this
    obtain ⟨v, h1, h2⟩ := this
    exact ⟨v, fun w _ => h1 w, h2⟩
  · rename_i hw
    rwa [if_neg hw] at this

/-- an operation of whose value a fact is kept -/
theorem mix_special {R : Act → World → Prop} {a : Act} {S : List (Tmp × Fact)} {F : List Fact} {o : Oper} {rest : List Oper} (V : Fact) (d : Tmp) (hg : wantB ops o a S = true) (hd : o.dst = some d) (hst : Stable Le V) (how : Owes Le P ops w0 a S o V)
    (h : Mix Le P ops w0 R rest (a.put o.dst undef) (S ++ [(d, V)]) F) : Mix Le P ops w0 R (o :: rest) a S F :=
  .inr (.inl ⟨hg, d, V, hd, hst, how, h⟩)

/-- an operation that looks at special values, and leaves an exact one -/
theorem mix_exact {R : Act → World → Prop} {a : Act} {S : List (Tmp × Fact)} {F : List Fact} {o : Oper} {rest : List Oper} (v : Value) (hg : wantB ops o a S = true) (how : Owes Le P ops w0 a S o (fun _ u => u = v))
    (h : Mix Le P ops w0 R rest (a.put o.dst v) S F) : Mix Le P ops w0 R (o :: rest) a S F :=
  .inr (.inr (.inl ⟨hg, v, how, h⟩))

/-- an operation that writes, and leaves no value -/
theorem mix_store {R : Act → World → Prop} {a : Act} {S : List (Tmp × Fact)} {F : List Fact} {o : Oper} {rest : List Oper} (V : Fact) (hg : wantB ops o a S = true) (hd : o.dst = none) (hst : Stable Le V) (how : Owes Le P ops w0 a S o V)
    (h : Mix Le P ops w0 R rest a S (F ++ [V])) : Mix Le P ops w0 R (o :: rest) a S F :=
  .inr (.inr (.inr ⟨hg, hd, V, hst, how, h⟩))

/-- of a call's contract -/
theorem below_same {f : FuncId} {args : Array Value} {w : World} {v : Value} (h : Calls P f args w fun e w' => e = .returned v ∧ w = w') : Calls P f args w fun e w' => e = .returned v ∧ Below w.heap.size w w' :=
  h.mono fun _ _ ⟨he, hw⟩ => ⟨he, by subst hw; exact Below.refl _ _⟩
end
attribute [go_sem] quiet quietL quietP quietAt quietUpon
end Go.Proofs.YthfckdnennfnoaaGreatDoor.Grow
