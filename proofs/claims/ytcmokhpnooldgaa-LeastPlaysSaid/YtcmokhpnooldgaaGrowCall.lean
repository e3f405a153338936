/- A call in a drawn region that makes memory and hands it out: a fact of its answer is kept. Of no function. By an AI agent. -/
import Derived.Test.YtcmokhpnooldgaaGrowKit
namespace Go.Proofs.Ytcmokhpnooldgaa.Grow
open Go.RowKit Go.Sort Go
variable {P : Program} {ops : Array Oper} {w0 : World} {a : Act} {S : List (Tmp × Fact)} {o : Oper}

theorem call_enters {f : FuncId} {xs : List Tmp} {ats : Array TypeId} {fn : Func} (ho : o.op = .call { callee := .value (.func f), args := (xs.map Operand.tmp).toArray, argTypes := ats })
    (hf : P.funcs[f]? = some fn) (hname : (fn.name == "runtime.NumGoroutine") = false) (hb : fn.body.isNone = false) (ρ : Act) (w : World) :
    (execOp ρ.eval o).run P w = .ok (.enter f ((xs.map fun x => ρ.eval (.tmp x)).toArray)) w := by
  have h1 : fn.name ≠ "runtime.NumGoroutine" := by simpa using hname
  have e : execOp ρ.eval o = callFunc f (#[] ++ ((xs.map Operand.tmp).toArray).map ρ.eval ++ #[]) := by
    unfold execOp
    rw [ho]
    rfl
  rw [e]
  have h2 : fn.body ≠ none := fun h0 => by
    rw [h0] at hb
    cases hb
  simp [callFunc, go_sem, hf, h1, h2]

/-- a call with exact arguments; what it answers hangs on the world -/
theorem owes_call {Le : World → World → Prop} {f : FuncId} {xs : List Tmp} {vs : List Value} {ats : Array TypeId} {V : Fact} {fn : Func} (ho : o.op = .call { callee := .value (.func f), args := (xs.map Operand.tmp).toArray, argTypes := ats })
    (hS : ∀ x ∈ xs, x ∉ S.map Prod.fst) (hv : xs.map (fun x => a.eval (.tmp x)) = vs) (hf : P.funcs[f]? = some fn) (hname : (fn.name == "runtime.NumGoroutine") = false) (hb : fn.body.isNone = false)
    (hc : ∀ w, Le w0 w → Calls P f vs.toArray w fun e w' => ∃ u, e = .returned u ∧ Le w w' ∧ V w' u) : Owes Le P ops w0 a S o V := by
  intro ρ w hle _ h2
  have he : xs.map (fun x => ρ.eval (.tmp x)) = vs := by
    rw [← hv]
    refine List.map_congr_left fun x hx => ?_
    refine h2 x ?_ (hS x hx)
    simp only [Oper.looksAt, ho, Op.operands, Call.operands]
    simp [hx]
  unfold gives
  rw [call_enters ho hf hname hb, he]
  exact hc w hle
end Go.Proofs.Ytcmokhpnooldgaa.Grow
