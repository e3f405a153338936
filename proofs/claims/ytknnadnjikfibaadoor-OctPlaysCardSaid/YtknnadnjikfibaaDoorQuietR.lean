/- A region that draws its order and only reads, in a round of a range over a function: one walk of the lexical order. Of no function. By an AI agent. -/
import Derived.Test.YtknnadnjikfibaaDoorFenceZ
import Derived.Lib.QuietBelow
namespace Go.Proofs.YtknnadnjikfibaaDoor
open Go.RowKit Go.Sort

section
variable {P : Program} {ops : Array Oper} {C : World → Prop} {n l : Nat}
def noDefer (ops : Array Oper) : Bool := ops.all fun o => match o.op with | .defer _ => false | _ => true
theorem noDefer_at (h : noDefer ops = true) {i : Nat} {o : Oper} (ho : ops[i]? = some o) : ∀ c, o.op ≠ .defer c := fun c e => by
  unfold noDefer at h
  rw [Array.all_eq_true] at h
  obtain ⟨hi, e2⟩ := Array.getElem?_eq_some_iff.1 ho
  have := h i hi
  rw [e2, e] at this
  cases this

theorem wpIn_of_quietR {o : Oper} {a : Act} {K : Act → Prop} {K' : Act → World → Prop} {Q' : Exit → Act → World → Prop} {w : World} (hd : ∀ c, o.op ≠ .defer c) (hw : C w) (h : ∀ a w', C w' → K a → K' a w') (hh : o.quiet P a C K) : o.wpIn (Fence.wide.inRound l) n P a w K' Q' := by
  obtain ⟨v, h1, h2⟩ := hh
  have h3 := h1 w hw
  refine ⟨fun _ _ => trivial, ?_⟩
  show o.uponIn _ n P a K' Q' ((o.semAt (some l) a.eval).run P w)
  rw [Oper.semAt_some l _ _ hd]
  unfold Oper.quietAt at h3
  cases hr : (execOp a.eval o).run P w with
  | halt x w' => rw [hr] at h3; exact h3.elim
  | ok x w' =>
    rw [hr] at h3
    cases x with
    | value u =>
      obtain ⟨rfl, rfl⟩ := h3
      exact h _ _ hw h2
    | skip =>
      obtain ⟨rfl, rfl⟩ := h3
      exact h _ _ hw h2
    | enter f args =>
      obtain ⟨rfl, hc⟩ := h3
      refine ⟨fun h => (by cases h), CallsIn.inRound l (callsIn_wide.2 (hc.mono fun e w'' he => ?_))⟩
      obtain ⟨rfl, hw''⟩ := he
      exact h _ _ hw'' h2
    | _ => exact h3.elim

theorem wpOpIn_of_qOpR (hd : noDefer ops = true) {i : Nat} {a : Act} {K : Act → Prop} {K' : Act → World → Prop} {Q' : Exit → Act → World → Prop} {w : World} (hC : C w) (h : ∀ a w', C w' → K a → K' a w') (hh : qOp P ops C i K a) : wpOpIn (Fence.wide.inRound l) n P ops Q' i K' a w := by
  unfold qOp at hh
  unfold wpOpIn
  cases ho : ops[i]? with
  | none =>
    rw [ho] at hh
    exact h _ _ hC hh
  | some o =>
    rw [ho] at hh
    dsimp only at hh ⊢
    by_cases hw : Region.wanted o (yielded ops a.tmps) = true
    · rw [if_pos hw] at hh ⊢
      exact wpIn_of_quietR (noDefer_at hd ho) hC h hh
    · rw [if_neg hw] at hh ⊢
      exact ⟨fun _ _ => trivial, h _ _ hC hh⟩

theorem wpAnyIn_of_quietR (hd : noDefer ops = true) {md : Region.Mode} {Q : Act → Prop} {Q' : Exit → Act → World → Prop} (hQ : ∀ a w, C w → Q a → Q' .normal a w) : ∀ (fuel : Nat) (listed : Array Bool) (a : Act) (w : World), C w →
    wpAnyQ P md ops C Q fuel listed a → wpAnyIn (Fence.wide.inRound l) n P md ops Q' fuel listed a w
  | 0, _, _, _, hw, h => ⟨h.1, hQ _ _ hw h.2⟩
  | fuel + 1, _, _, _, hw, h => ⟨fun h0 => hQ _ _ hw (h.1 h0), fun i hi => wpOpIn_of_qOpR hd hw (fun a' w' hw' => wpAnyIn_of_quietR hd hQ fuel _ a' w' hw') (h.2 i hi)⟩
end

theorem wpIn_region_quietR {P : Program} {id n r : Nat} {Q : Exit → Act → World → Prop} {a : Act} {w : World} {l : List Oper} (hm : P.follows .mixedOrders = true) (hB : Region.lexB .any l.toArray = true) (hd : noDefer l.toArray = true)
    (h : wpQuiet P l.toArray (fun w' => ∃ p : Regrown, w' = grow (redrawn w p.d) p.os) (fun a' => ∀ w', (∃ p : Regrown, w' = grow (redrawn w p.d) p.os) → Q .normal a' w') l a) : (Code.region id l.toArray true).wpIn (Fence.wide.inRound r) n P Q a w := by
  simp only [Region.lexB, Bool.and_eq_true] at hB
  refine wpIn_region_any hm (wpAnyIn_of_quietR (C := fun w' => ∃ p : Regrown, w' = grow (redrawn w p.d) p.os) (Q := fun a' => ∀ w', (∃ p : Regrown, w' = grow (redrawn w p.d) p.os) → Q .normal a' w') hd (fun _ w' hw' h => h w' hw') _ _ _ _ ⟨⟨w.drawn + 1, #[]⟩, by rw [grow_empty]; rfl⟩ ?_)
  have := wpAnyQ_lex (C := fun w' => ∃ p : Regrown, w' = grow (redrawn w p.d) p.os) (md := .any) hB.1 l 0 (Array.replicate l.toArray.size false) a (by simp) (by simpa using hB.2) h
  simpa using this
end Go.Proofs.YtknnadnjikfibaaDoor
