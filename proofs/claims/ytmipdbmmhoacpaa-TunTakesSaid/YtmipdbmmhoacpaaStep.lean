/- An operation that yields a value and leaves the world as it is, by its value. By an AI agent. -/
import Derived.Test.YtmipdbmmhoacpaaRow
import Derived.BigFrame
namespace Go.Proofs.Ytmipdbmmhoacpaa
variable {P : Program}

/-- at an operation that writes slot k -/
theorem at_dst {ops : Array Oper} {rest : List Oper} {a : Act} {w : World} {Q : Exit → Act → World → Prop} (k : Nat) {op : Op} {t : TypeId} {pos : String} {aft : Array Edge} {g : Option _}
    (h : wpList P ops Q (⟨some k, op, t, pos, aft, g⟩ :: rest) a w) : wpList P ops Q (⟨some k, op, t, pos, aft, g⟩ :: rest) a w := h

theorem wpList_value {ops : Array Oper} {rest : List Oper} {op : Oper} {a : Act} {w : World} {Q : Exit → Act → World → Prop} (hgd : Region.wanted op (yielded ops a.tmps) = true) (v : Value)
    (hv : (execOp a.eval op).run P w = .ok (.value v) w) (h : wpList P ops Q rest (a.put op.dst v) w) : wpList P ops Q (op :: rest) a w :=
  BigFrame.wpList_want hgd fun _ hK => by
    unfold Oper.wp
    rw [hv]
    exact hK _ _ h

/-- a struct built of four parts: the parts' values first, then the struct by an equation of its own -/
theorem wpList_build4 {ops : Array Oper} {rest : List Oper} {op : Oper} {a : Act} {w : World} {Q : Exit → Act → World → Prop} (hgd : Region.wanted op (yielded ops a.tmps) = true) (t f0 f1 f2 f3 : Nat) (x0 x1 x2 x3 : Operand)
    (ho : op.op = .build t #[(f0, x0), (f1, x1), (f2, x2), (f3, x3)]) (v0 v1 v2 v3 v : Value) (h0 : a.eval x0 = v0) (h1 : a.eval x1 = v1) (h2 : a.eval x2 = v2) (h3 : a.eval x3 = v3)
    (hv : (Instr.build t #[(f0, v0), (f1, v1), (f2, v2), (f3, v3)]).run P w = .ok v w) (h : wpList P ops Q rest (a.put op.dst v) w) : wpList P ops Q (op :: rest) a w :=
  wpList_value hgd v (by
    unfold execOp
    simp only [ho]
    rw [show Array.map (fun x => (x.fst, a.eval x.snd)) #[(f0, x0), (f1, x1), (f2, x2), (f3, x3)] = #[(f0, v0), (f1, v1), (f2, v2), (f3, v3)] by simp [h0, h1, h2, h3]]
    rw [Sem.run_bind, hv]
    rfl) h
end Go.Proofs.Ytmipdbmmhoacpaa
