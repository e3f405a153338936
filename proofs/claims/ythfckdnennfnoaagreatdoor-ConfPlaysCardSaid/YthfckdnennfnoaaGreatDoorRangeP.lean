/- A range over a function, a round of which may panic. Of no function. By an AI agent. -/
import Derived.Test.YthfckdnennfnoaaGreatDoorFenceZ
namespace Go.Proofs.YthfckdnennfnoaaGreatDoor
open Go.RowKit

/-- what is asked at a round's end -/
def roundPostP (P : Program) (l : Nat) (R : Ending → World → Prop) : Exit → Act → World → Prop
  | .normal, _, w => ∃ v w', (Instr.endRound l none).run P w = .ok v w' ∧ R (.returned v) w'
  | .ret, _, w => ∃ v w', (Instr.endRound l (some .ret)).run P w = .ok v w' ∧ R (.returned v) w'
  | .exit id, _, w => ∃ v w', (Instr.endRound l (some (.exit id))).run P w = .ok v w' ∧ R (.returned v) w'
  | .goto t, _, w => ∃ v w', (Instr.endRound l (some (.goto t))).run P w = .ok v w' ∧ R (.returned v) w'
  | .panic ch, a, w => a.defers = [] ∧ R (.panicked ch) w
  | .outgrown, _, _ => False

theorem roundIn_of_wpInP {F : Fence} {n : Nat} {P : Program} {l : Nat} {f : FuncId} {tmps : Array Value} {assign body : Code} {w : World} {R : Ending → World → Prop} (hF : F.fn f) (hfn : ∃ fn, P.funcs[f]? = some fn)
    (h : assign.wpIn (F.inRound l) n P (Exit.then (fun a₁ w₁ => ∃ w₂, (Instr.beginRound l).run P w₁ = .ok () w₂ ∧ body.wpIn (F.inRound l) n P (roundPostP P l R) a₁ w₂) (fun _ _ _ => False))
      { tmps := tmps, defers := [] } w) :
    RoundIn F n P l f tmps assign body w R := by
  refine ⟨hF, fun c cs hr => ?_⟩
  let b : Frame := { (default : Frame) with fn := f, kind := .normal, roundOf := some l }
  have hb0 : Frame.round l f tmps assign body .normal = b.atR { tmps := tmps, defers := [] } [.code assign, .beginRound, .code body] := by
    simp [Frame.round, Frame.atR, b]
  have hr' : (F.inRound l).room ((c :: cs).length + 1 + n) := hr
  have hF' : (F.inRound l).fn b.fn := hF
  obtain ⟨e, a₁, w₁, hq, harr⟩ := h b [.beginRound, .code body] (c :: cs) rfl hF' hr'
  rw [← hb0] at harr
  cases e with
  | normal =>
    obtain ⟨w₂, hbr, hbody⟩ := hq
    have s1 : StepsIn (Machine.fenced P (F.inRound l)) P (lone (b.atR a₁ [.beginRound, .code body]) (c :: cs) w₁) (lone (b.atR a₁ [.code body]) (c :: cs) w₂) :=
      .one (fenced_calm (fr := b.atR a₁ [.beginRound, .code body]) hF' hr' rfl) (stepR_beginRound rfl hbr)
    obtain ⟨e₂, a₂, w₃, hq₂, harr₂⟩ := hbody b [] (c :: cs) rfl hF' hr'
    cases e₂ with
    | normal =>
      obtain ⟨v, w₄, hend, hR⟩ := hq₂
      exact ⟨.returned v, w₄, hR, (StepsIn.trans harr s1).trans (StepsIn.trans harr₂ (.one (fenced_calm (fr := b.atR a₂ []) hF' hr' rfl) (stepR_round_end rfl rfl hend)))⟩
    | ret =>
      obtain ⟨v, w₄, hend, hR⟩ := hq₂
      obtain ⟨k₁, hs⟩ := harr₂.2 rfl
      exact ⟨.returned v, w₄, hR, (StepsIn.trans harr s1).trans (StepsIn.trans hs (.one (fenced_calm (fr := b.atR a₂ (.code .ret :: k₁)) hF' hr' rfl) (stepR_round_ret rfl rfl hend)))⟩
    | exit id =>
      obtain ⟨v, w₄, hend, hR⟩ := hq₂
      obtain ⟨k₁, hk, hs⟩ := harr₂.2 rfl rfl
      exact ⟨.returned v, w₄, hR, (StepsIn.trans harr s1).trans (StepsIn.trans hs (.one (fenced_calm (fr := b.atR a₂ (.code (.exit id) :: k₁)) hF' hr' rfl) (stepR_round_exit rfl rfl hk hend)))⟩
    | goto t =>
      obtain ⟨v, w₄, hend, hR⟩ := hq₂
      obtain ⟨k₁, hk, hs⟩ := harr₂.2 rfl rfl
      exact ⟨.returned v, w₄, hR, (StepsIn.trans harr s1).trans (StepsIn.trans hs (.one (fenced_calm (fr := b.atR a₂ (.code (.goto t) :: k₁)) hF' hr' rfl) (stepR_round_goto rfl rfl hk hend)))⟩
    | panic chain =>
      obtain ⟨hd, hR⟩ := hq₂
      obtain ⟨todo, hs⟩ := harr₂
      obtain ⟨fn, hfn⟩ := hfn
      refine ⟨.panicked chain, w₃, hR, (StepsIn.trans harr s1).trans (StepsIn.trans hs (.one (fenced_leaving (e := .panicked chain) hF' hr' ?_) (step_leave_panicked ?_)))⟩
      · exact ⟨rfl, hd, fn, hfn⟩
      · exact ⟨rfl, hd, fn, hfn⟩
    | outgrown => exact hq₂.elim
  | exit id => exact hq.elim
  | goto t => exact hq.elim
  | ret => exact hq.elim
  | panic chain => exact hq.elim
  | outgrown => exact hq.elim

/-- the contract of an iterator whose own box is Z: the round keeps Kp, or panics -/
def StopsP {α : Type} (F : Fence) (n : Nat) (P : Program) (g : Nat) (lb : Array Value) (encs : α → Array Value) (Z : Nat) (Kp : World → World → Prop) (S Sp : List α → Prop) (w : World) : Prop :=
  ∀ (l : Nat) (J : List α → World → Prop) (Jp : List PanicEntry → World → Prop) (W : World), Below w.heap.size w W → TurnsZ Z J →
    (∀ pre x W1, J pre W1 → Sp (pre ++ [x]) → YieldAt F (n - 1) P l (encs x) W1 fun e W' =>
      (e = .returned (.bool true) ∧ J (pre ++ [x]) W' ∧ Kp W1 W') ∨ (∃ ch, e = .panicked ch ∧ Jp ch W')) →
    J [] W →
    CallsIn F n P g (#[.func (.yield l) #[] #[]] ++ lb) W fun e W' => ((∃ v, e = .returned v) ∧ ∃ xs, S xs ∧ J xs W') ∨ (∃ ch, e = .panicked ch ∧ Jp ch W')

/-- what a round of such a range is to leave -/
def ownPostP {α : Type} (B : Nat) (Kp : World → World → Prop) (I : List α → World → Prop) (Ip : List PanicEntry → World → Prop) (xs : List α) (W : World) : Exit → Act → World → Prop
  | .normal, _, W' => KeepsFrom B W W' ∧ Kp W W' ∧ I xs W'
  | .panic ch, a, W' => a.defers = [] ∧ KeepsFrom B W W' ∧ Ip ch W'
  | _, _, _ => False

section
variable {F : Fence} {n : Nat} {P : Program}

theorem wpIn_rangeFunc_ownP {α : Type} {g : Operand} {ps : Array Tmp} {assign body : Code} {Q : Exit → Act → World → Prop} {a : Act} {w : World}
    (hro : F.round = none) (hFx : ∀ f, F.fn f → ∃ fn, P.funcs[f]? = some fn) (h1 : 1 ≤ n) {gf : Nat} {lb : Array Value} (hg : a.eval g = .func (.func gf) #[] lb) (hFg : F.fn gf) (eg : ∀ args w, (callFunc gf args).run P w = .ok (.enter gf args) w)
    {encs : α → Array Value} {Z : Nat} {Kp : World → World → Prop} {S Sp : List α → Prop} (hseq : StopsP F (n - 1) P gf lb encs Z Kp S Sp w) (hZ : Z < w.heap.size)
    (hKt : ∀ {A B C : World}, Kp A B → Kp B C → Kp A C) (hKb : ∀ (W : World) (l : Nat) (o : Obj), w.heap.size ≤ l → Kp W (W.putObj l o)) (hps : ∀ x, (encs x).size = ps.size)
    (I : List α → World → Prop) (Ip : List PanicEntry → World → Prop) (hI : OwnFrom w.heap.size I) (hIZ : TurnsZ Z I) (h0 : I [] w) (a₁ : α → Act)
    (hassign : ∀ (l : Nat) (x : α) (W : World) (K : Act → World → Prop), K (a₁ x) W →
      assign.wpIn (F.inRound l) (n - 1 - 1) P (Exit.then K (fun _ _ _ => False)) { tmps := (ps.zip (encs x)).foldl (fun t (p, v) => t.setIfInBounds p v) a.tmps, defers := [] } W)
    (hbody : ∀ (l : Nat) (pre : List α) (x : α) (W : World), I pre W → Sp (pre ++ [x]) → body.wpIn (F.inRound l) (n - 1 - 1) P (ownPostP w.heap.size Kp I Ip (pre ++ [x]) W) (a₁ x) W)
    (hdone : ∀ (D : Nat) (xs : List α) (W : World), w.heap.size ≤ D → S xs → I xs W → W.heap[D]? = some (.deferred (some [])) → Q .normal { a with defers := { target := .collected D, args := #[] } :: a.defers } W)
    (hpan : ∀ (D : Nat) (ch : List PanicEntry) (W : World), w.heap.size ≤ D → Ip ch W → W.heap[D]? = some (.deferred (some [])) → Q (.panic ch) { a with defers := { target := .collected D, args := #[] } :: a.defers } W) :
    (Code.rangeFunc g ps assign body).wpIn F n P Q a w := by
  refine wpIn_rangeFunc ?_
  intro fn hfn
  rw [hro]
  generalize hD : w.heap.size = D at *
  obtain ⟨rec, hrec⟩ : ∃ rec : LoopState → Option Code → Loop, rec = fun st pe => { state := st, pending := pe, fn, tmps := a.tmps, params := ps, assign, body, defers := D } := ⟨_, rfl⟩
  have hen := run_enterLoop_outer (P := P) (w := w) fn a.tmps ps assign body
  rw [hD] at hen
  have hW1 : ((w.alloc (.deferred (some []))).alloc (.loop (rec .ready none))).heap[D + 1]? = some (.loop (rec .ready none)) := by
    have := World.alloc_heap_new (w.alloc (.deferred (some []))) (.loop (rec .ready none))
    rwa [World.size_alloc, hD] at this
  have hW0 : ((w.alloc (.deferred (some []))).alloc (.loop (rec .ready none))).heap[D]? = some (.deferred (some [])) := by
    have := World.alloc_heap_new w (.deferred (some []))
    rw [hD] at this
    exact (Below.heap_alloc _ _ _ (by simp; omega)).trans this
  have hi0 : I [] ((w.alloc (.deferred (some []))).alloc (.loop (rec .ready none))) := hI.alloc _ (hI.alloc _ h0)
  have hbw : Below w.heap.size w ((w.alloc (.deferred (some []))).alloc (.loop (rec .ready none))) := ((Below.refl _ w).alloc (Nat.le_refl _) _).alloc (by simp) _
  rw [hrec] at hW1 hW0 hi0 hbw
  generalize ((w.alloc (.deferred (some []))).alloc _) = W1 at *
  refine ⟨D + 1, [{ target := .collected D, args := #[] }], W1, { target := .fn (.func gf) lb, args := #[.func (.yield (D + 1)) #[] #[]] }, W1, gf,
    #[.func (.yield (D + 1)) #[] #[]] ++ lb, W1, hen, ?_, ?_, ?_, fun _ => h1, ?_⟩
  · simp only [resolve, hg]
    simp [go_sem]
  · intro f' hf'
    simp [Target.leads] at hf'
    subst hf'
    exact hFg
  · simp [invoke, go_sem, eg]
  clear hen
  refine (hseq (D + 1)
    (fun pre W => (I pre W ∧ W.heap[D + 1]? = some (.loop (rec .ready none))) ∧ W.heap[D]? = some (.deferred (some [])))
    (fun ch W => Ip ch W ∧ W.heap[D]? = some (.deferred (some [])))
    W1 hbw ((hIZ.and_block (o := fun _ => .loop (rec .ready none)) (by omega)).and_block (o := fun _ => .deferred (some [])) (by omega))
    ?_ ⟨⟨hi0, by rw [hrec]; exact hW1⟩, hW0⟩).mono ?_
  · rintro pre x W ⟨⟨hi, hl⟩, hk⟩ hsp
    have hlt := (Array.getElem?_eq_some_iff.1 hl).1
    have hy := run_yield (P := P) (args := encs x) hl (by rw [hrec]; exact hps x)
    rw [hrec] at hy
    refine ⟨fn, _, assign, body, hy, roundIn_of_wpInP hfn (hFx _ hfn) (hassign _ x W _ ⟨_, run_beginRound hl (by rw [hrec]), ?_⟩)⟩
    have hl2 : (W.putObj (D + 1) (.loop { rec .ready none with state := .busy })).heap[D + 1]? = some (.loop { rec .ready none with state := .busy }) := World.putObj_heap_same hlt
    have hk2 : (W.putObj (D + 1) (.loop { rec .ready none with state := .busy })).heap[D]? = some (.deferred (some [])) := (World.putObj_heap_other (by omega)).trans hk
    refine wpIn_mono (hbody _ pre x _ (hI.putObj _ hi (by omega) hl rfl) hsp) ?_
    have over : ∀ (jump : Option Code) (W3 : World), KeepsFrom D (W.putObj (D + 1) (.loop { rec .ready none with state := .busy })) W3 →
        (Instr.endRound (D + 1) jump).run P W3 = .ok (.bool jump.isNone) (W3.putObj (D + 1) (.loop (rec (if jump.isNone then .ready else .done) jump))) ∧
        (∃ o, W3.heap[D + 1]? = some (.loop o)) ∧
        (W3.putObj (D + 1) (.loop (rec (if jump.isNone then .ready else .done) jump))).heap[D + 1]? = some (.loop (rec (if jump.isNone then .ready else .done) jump)) ∧
        (W3.putObj (D + 1) (.loop (rec (if jump.isNone then .ready else .done) jump))).heap[D]? = some (.deferred (some [])) := fun jump W3 hk3 => by
      have hl3 := hk3.same _ _ (by omega) hl2 rfl
      have := run_endRound (P := P) jump hl3
      rw [hrec] at this ⊢
      exact ⟨this, ⟨_, hl3⟩, World.putObj_heap_same (Array.getElem?_eq_some_iff.1 hl3).1, (World.putObj_heap_other (by omega)).trans (hk3.same _ _ (Nat.le_refl _) hk2 rfl)⟩
    rintro e a3 W3 hp
    cases e with
    | normal =>
      obtain ⟨hk3, hkp3, hi3⟩ := hp
      obtain ⟨hr, ⟨_, hl3⟩, hl4, hk4⟩ := over none W3 hk3
      exact ⟨_, _, hr, .inl ⟨rfl, ⟨⟨hI.putObj _ hi3 (by omega) hl3 rfl, hl4⟩, hk4⟩, hKt (hKt (hKb _ _ _ (by omega)) hkp3) (hKb _ _ _ (by omega))⟩⟩
    | panic ch =>
      obtain ⟨hd, hk3, hi3⟩ := hp
      exact ⟨hd, .inr ⟨ch, rfl, hi3, hk3.same _ _ (Nat.le_refl _) hk2 rfl⟩⟩
    | ret => exact hp.elim
    | exit id => exact hp.elim
    | goto t => exact hp.elim
    | outgrown => exact hp.elim
  · rintro e W2 (⟨⟨v, rfl⟩, xs, hS, ⟨hi, hl⟩, hk⟩ | ⟨ch, rfl, hi, hk⟩)
    · have he := run_endLoop (P := P) hl (by rw [hrec]; simp)
      rw [hrec] at he
      exact ⟨none, _, he, hdone _ xs _ (Nat.le_refl _) hS (hI.putObj _ hi (by omega) hl rfl) ((World.putObj_heap_other (by omega)).trans hk)⟩
    · exact hpan _ ch _ (Nat.le_refl _) hi hk
end
end Go.Proofs.YthfckdnennfnoaaGreatDoor
