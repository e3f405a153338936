/- causeyref17: the ways of a bridge's part; Tick. By an AI agent. -/
import Derived.Test.YtdhiaidbpjjljaaRSpan3
namespace Go.Proofs.Ytdhiaidbpjjljaa
open Go.RowKit Go.WideShapes Go.Sort Grow

/-- a call with exact arguments, some of them constants; what it answers hangs on the world -/
theorem owes_callO {P : Program} {ops : Array Oper} {w0 : World} {a : Act} {S : List (Tmp × Fact)} {o : Oper} {Le : World → World → Prop} {f : FuncId} {xs : List Operand} {vs : List Value} {ats : Array TypeId} {V : Fact} {fn : Func} (ho : o.op = .call { callee := .value (.func f), args := xs.toArray, argTypes := ats })
    (hS : ∀ t, .tmp t ∈ xs → t ∉ S.map Prod.fst) (hv : xs.map a.eval = vs) (hf : P.funcs[f]? = some fn) (hname : (fn.name == "runtime.NumGoroutine") = false) (hb : fn.body.isNone = false)
    (hc : ∀ w, Le w0 w → Calls P f vs.toArray w fun e w' => ∃ u, e = .returned u ∧ Le w w' ∧ V w' u) : Owes Le P ops w0 a S o V := by
  intro ρ w hle _ h2
  have he : xs.map ρ.eval = vs := by
    rw [← hv]
    refine List.map_congr_left fun x hx => ?_
    cases x with
    | tmp t =>
      refine h2 t ?_ (hS t hx)
      simp only [Oper.looksAt, ho, Op.operands, Call.operands]
      simp
      exact .inl ⟨_, hx, rfl⟩
    | const v => rfl
    | global g => rfl
    | func f => rfl
  unfold gives
  have h1 : fn.name ≠ "runtime.NumGoroutine" := by simpa using hname
  have e : execOp ρ.eval o = callFunc f (#[] ++ (xs.toArray).map ρ.eval ++ #[]) := by
    unfold execOp
    rw [ho]
    rfl
  have h2 : fn.body ≠ none := fun h0 => by
    rw [h0] at hb
    cases hb
  have e2 : (execOp ρ.eval o).run P w = .ok (.enter f (vs.toArray)) w := by
    rw [e]
    have : (#[] ++ (xs.toArray).map ρ.eval ++ #[]) = vs.toArray := by simp [he]
    rw [this]
    simp [callFunc, go_sem, hf, h1, h2]
  rw [e2]
  exact hc w hle
def TellAt (base : Nat) (L : List SO) : Fact := fun w u => ROutAt w base u L
theorem stable_tell (base : Nat) (L : List SO) : Stable Bel (TellAt base L) := fun _ _ _ hb h => ROutAt.later h hb

theorem refCopied_n {n : Nat} (B g cap : Nat) (s : SS) (w : World) (hn : s.ports.length = n) (hR : RAt B g cap w s.ports) (hl : n ≤ 1000) :
    Calls Try.prog 39 #[.agg #[.int .u8 ((s.id.f 0).toNat : Int), .int .u8 ((s.id.f 1).toNat : Int), .int .u8 ((s.id.f 2).toNat : Int), .int .u8 ((s.id.f 3).toNat : Int), .int .u8 ((s.id.f 4).toNat : Int), .int .u8 ((s.id.f 5).toNat : Int), .int .u8 ((s.id.f 6).toNat : Int), .int .u8 ((s.id.f 7).toNat : Int), .int .i64 s.ma, .int .i64 s.he, .int .i64 s.de, .int .i64 s.now, .int .i64 s.chg, (.slice (some ⟨g, 0, none⟩) n cap), .int .u8 ((s.best.r.f 0).toNat : Int), .int .u8 ((s.best.r.f 1).toNat : Int), .int .u8 ((s.best.r.f 2).toNat : Int), .int .u8 ((s.best.r.f 3).toNat : Int), .int .u8 ((s.best.r.f 4).toNat : Int), .int .u8 ((s.best.r.f 5).toNat : Int), .int .u8 ((s.best.r.f 6).toNat : Int), .int .u8 ((s.best.r.f 7).toNat : Int), .int .i64 s.best.c, .int .u8 ((s.best.b.f 0).toNat : Int), .int .u8 ((s.best.b.f 1).toNat : Int), .int .u8 ((s.best.b.f 2).toNat : Int), .int .u8 ((s.best.b.f 3).toNat : Int), .int .u8 ((s.best.b.f 4).toNat : Int), .int .u8 ((s.best.b.f 5).toNat : Int), .int .u8 ((s.best.b.f 6).toNat : Int), .int .u8 ((s.best.b.f 7).toNat : Int), .int .i64 s.best.p, .int .i64 s.root]] w fun e w' => ∃ g' cap', e = .returned (.agg #[.int .u8 ((s.id.f 0).toNat : Int), .int .u8 ((s.id.f 1).toNat : Int), .int .u8 ((s.id.f 2).toNat : Int), .int .u8 ((s.id.f 3).toNat : Int), .int .u8 ((s.id.f 4).toNat : Int), .int .u8 ((s.id.f 5).toNat : Int), .int .u8 ((s.id.f 6).toNat : Int), .int .u8 ((s.id.f 7).toNat : Int), .int .i64 s.ma, .int .i64 s.he, .int .i64 s.de, .int .i64 s.now, .int .i64 s.chg, (.slice (some ⟨g', 0, none⟩) n cap'), .int .u8 ((s.best.r.f 0).toNat : Int), .int .u8 ((s.best.r.f 1).toNat : Int), .int .u8 ((s.best.r.f 2).toNat : Int), .int .u8 ((s.best.r.f 3).toNat : Int), .int .u8 ((s.best.r.f 4).toNat : Int), .int .u8 ((s.best.r.f 5).toNat : Int), .int .u8 ((s.best.r.f 6).toNat : Int), .int .u8 ((s.best.r.f 7).toNat : Int), .int .i64 s.best.c, .int .u8 ((s.best.b.f 0).toNat : Int), .int .u8 ((s.best.b.f 1).toNat : Int), .int .u8 ((s.best.b.f 2).toNat : Int), .int .u8 ((s.best.b.f 3).toNat : Int), .int .u8 ((s.best.b.f 4).toNat : Int), .int .u8 ((s.best.b.f 5).toNat : Int), .int .u8 ((s.best.b.f 6).toNat : Int), .int .u8 ((s.best.b.f 7).toNat : Int), .int .i64 s.best.p, .int .i64 s.root]) ∧ RAt w.heap.size g' cap' w' s.ports ∧ Below w.heap.size w w' := by
  subst hn
  exact refCopied_any B g cap s w hR hl
theorem refFound_n {n : Nat} (B g cap : Nat) (s : SS) (w : World) (hn : s.ports.length = n) (hR : RAt B g cap w s.ports) (hl : n ≤ 1000) (hF : s.Fit) (hc : 0 ≤ s.chg ∧ s.chg ≤ 999990000) :
    Calls Try.prog 37 #[.agg #[.int .u8 ((s.id.f 0).toNat : Int), .int .u8 ((s.id.f 1).toNat : Int), .int .u8 ((s.id.f 2).toNat : Int), .int .u8 ((s.id.f 3).toNat : Int), .int .u8 ((s.id.f 4).toNat : Int), .int .u8 ((s.id.f 5).toNat : Int), .int .u8 ((s.id.f 6).toNat : Int), .int .u8 ((s.id.f 7).toNat : Int), .int .i64 s.ma, .int .i64 s.he, .int .i64 s.de, .int .i64 s.now, .int .i64 s.chg, (.slice (some ⟨g, 0, none⟩) n cap), .int .u8 ((s.best.r.f 0).toNat : Int), .int .u8 ((s.best.r.f 1).toNat : Int), .int .u8 ((s.best.r.f 2).toNat : Int), .int .u8 ((s.best.r.f 3).toNat : Int), .int .u8 ((s.best.r.f 4).toNat : Int), .int .u8 ((s.best.r.f 5).toNat : Int), .int .u8 ((s.best.r.f 6).toNat : Int), .int .u8 ((s.best.r.f 7).toNat : Int), .int .i64 s.best.c, .int .u8 ((s.best.b.f 0).toNat : Int), .int .u8 ((s.best.b.f 1).toNat : Int), .int .u8 ((s.best.b.f 2).toNat : Int), .int .u8 ((s.best.b.f 3).toNat : Int), .int .u8 ((s.best.b.f 4).toNat : Int), .int .u8 ((s.best.b.f 5).toNat : Int), .int .u8 ((s.best.b.f 6).toNat : Int), .int .u8 ((s.best.b.f 7).toNat : Int), .int .i64 s.best.p, .int .i64 s.root]] w fun e w' => e = .returned (.tuple #[.agg #[.int .u8 ((s.found.1.id.f 0).toNat : Int), .int .u8 ((s.found.1.id.f 1).toNat : Int), .int .u8 ((s.found.1.id.f 2).toNat : Int), .int .u8 ((s.found.1.id.f 3).toNat : Int), .int .u8 ((s.found.1.id.f 4).toNat : Int), .int .u8 ((s.found.1.id.f 5).toNat : Int), .int .u8 ((s.found.1.id.f 6).toNat : Int), .int .u8 ((s.found.1.id.f 7).toNat : Int), .int .i64 s.found.1.ma, .int .i64 s.found.1.he, .int .i64 s.found.1.de, .int .i64 s.found.1.now, .int .i64 s.found.1.chg, (.slice (some ⟨g, 0, none⟩) n cap), .int .u8 ((s.found.1.best.r.f 0).toNat : Int), .int .u8 ((s.found.1.best.r.f 1).toNat : Int), .int .u8 ((s.found.1.best.r.f 2).toNat : Int), .int .u8 ((s.found.1.best.r.f 3).toNat : Int), .int .u8 ((s.found.1.best.r.f 4).toNat : Int), .int .u8 ((s.found.1.best.r.f 5).toNat : Int), .int .u8 ((s.found.1.best.r.f 6).toNat : Int), .int .u8 ((s.found.1.best.r.f 7).toNat : Int), .int .i64 s.found.1.best.c, .int .u8 ((s.found.1.best.b.f 0).toNat : Int), .int .u8 ((s.found.1.best.b.f 1).toNat : Int), .int .u8 ((s.found.1.best.b.f 2).toNat : Int), .int .u8 ((s.found.1.best.b.f 3).toNat : Int), .int .u8 ((s.found.1.best.b.f 4).toNat : Int), .int .u8 ((s.found.1.best.b.f 5).toNat : Int), .int .u8 ((s.found.1.best.b.f 6).toNat : Int), .int .u8 ((s.found.1.best.b.f 7).toNat : Int), .int .i64 s.found.1.best.p, .int .i64 s.found.1.root], .bool s.found.2]) ∧ RAt B g cap w' s.found.1.ports ∧ Below B w w' ∧ Only [g] w w' := by
  subst hn
  exact refFound_any B g cap s w hR hl hF hc
theorem refTells_n {n : Nat} (B g cap : Nat) (s : SS) (only : Int) (w : World) (hn : s.ports.length = n) (hR : RAt B g cap w s.ports) (hl : n ≤ 1000) (hr : s.RootOk) (ha : s.AgesOk) (hma : 1 ≤ s.ma) :
    Calls Try.prog 40 #[.agg #[.int .u8 ((s.id.f 0).toNat : Int), .int .u8 ((s.id.f 1).toNat : Int), .int .u8 ((s.id.f 2).toNat : Int), .int .u8 ((s.id.f 3).toNat : Int), .int .u8 ((s.id.f 4).toNat : Int), .int .u8 ((s.id.f 5).toNat : Int), .int .u8 ((s.id.f 6).toNat : Int), .int .u8 ((s.id.f 7).toNat : Int), .int .i64 s.ma, .int .i64 s.he, .int .i64 s.de, .int .i64 s.now, .int .i64 s.chg, (.slice (some ⟨g, 0, none⟩) n cap), .int .u8 ((s.best.r.f 0).toNat : Int), .int .u8 ((s.best.r.f 1).toNat : Int), .int .u8 ((s.best.r.f 2).toNat : Int), .int .u8 ((s.best.r.f 3).toNat : Int), .int .u8 ((s.best.r.f 4).toNat : Int), .int .u8 ((s.best.r.f 5).toNat : Int), .int .u8 ((s.best.r.f 6).toNat : Int), .int .u8 ((s.best.r.f 7).toNat : Int), .int .i64 s.best.c, .int .u8 ((s.best.b.f 0).toNat : Int), .int .u8 ((s.best.b.f 1).toNat : Int), .int .u8 ((s.best.b.f 2).toNat : Int), .int .u8 ((s.best.b.f 3).toNat : Int), .int .u8 ((s.best.b.f 4).toNat : Int), .int .u8 ((s.best.b.f 5).toNat : Int), .int .u8 ((s.best.b.f 6).toNat : Int), .int .u8 ((s.best.b.f 7).toNat : Int), .int .i64 s.best.p, .int .i64 s.root], .int .i64 only] w fun e w' => ∃ v, e = .returned v ∧ ROutAt w' w.heap.size v (s.tells (fun k => decide (only < 0) || (only == (k : Int)))) ∧ Below w.heap.size w w' := by
  subst hn
  exact refTells_any B g cap s only w hR hl hr ha hma
theorem SS.tells_all (s : SS) : s.tells (fun k => decide ((-1 : Int) < 0) || ((-1 : Int) == (k : Int))) = s.tells (fun _ => true) := rfl

/-- the document's bridge in a box, its ports, and the box of the answer -/
structure BAt (g cap n b r : Nat) (w0 w : World) (s : SS) : Prop where
  box : RowIs w b 59 (s.rv (.slice (some ⟨g, 0, none⟩) n cap))
  ret : RowIs w r 59 #[.int .u8 0, .int .u8 0, .int .u8 0, .int .u8 0, .int .u8 0, .int .u8 0, .int .u8 0, .int .u8 0, .int .i64 0, .int .i64 0, .int .i64 0, .int .i64 0, .int .i64 0, .slice none 0 0, .int .u8 0, .int .u8 0, .int .u8 0, .int .u8 0, .int .u8 0, .int .u8 0, .int .u8 0, .int .u8 0, .int .i64 0, .int .u8 0, .int .u8 0, .int .u8 0, .int .u8 0, .int .u8 0, .int .u8 0, .int .u8 0, .int .u8 0, .int .i64 0, .int .i64 0]
  ports : RAt w0.heap.size g cap w s.ports
  len : s.ports.length = n
  gb : g ≠ b
  gr : g ≠ r
  br : b ≠ r
  hb : w0.heap.size ≤ b
  hr : w0.heap.size ≤ r
  below : Below w0.heap.size w0 w
section
variable {g cap n b r : Nat} {w0 w w' : World} {s s' : SS}
theorem BAt.later (h : BAt g cap n b r w0 w s) (hb : Below w.heap.size w w') : BAt g cap n b r w0 w' s :=
  ⟨h.box.kept hb, h.ret.kept hb, h.ports.later hb, h.len, h.gb, h.gr, h.br, h.hb, h.hr, h.below.trans (hb.mono h.below.size)⟩
theorem BAt.boxSet (h : BAt g cap n b r w0 w s) (hp : s'.ports = s.ports) (hr : RowIs w' b 59 (s'.rv (.slice (some ⟨g, 0, none⟩) n cap))) (ho : ∀ m, m ≠ b → w'.heap[m]? = w.heap[m]?) (hb : Below w0.heap.size w w') : BAt g cap n b r w0 w' s' :=
  ⟨hr, rowIs_same h.ret (ho _ h.br.symm), by rw [hp]; exact h.ports.same (ho _ h.gb), by rw [hp]; exact h.len, h.gb, h.gr, h.br, h.hb, h.hr, h.below.trans hb⟩
theorem BAt.putSet (h : BAt g cap n b r w0 w s) {i : Nat} {p : SP} (hR : RAt w0.heap.size g cap w' (s.ports.set i p)) (ho : ∀ m, m ≠ g → w'.heap[m]? = w.heap[m]?) (hb : Below w0.heap.size w w') : BAt g cap n b r w0 w' (s.put i p) :=
  ⟨rowIs_same h.box (ho _ h.gb.symm), rowIs_same h.ret (ho _ h.gr.symm), hR, by rw [SS.put_len]; exact h.len, h.gb, h.gr, h.br, h.hb, h.hr, h.below.trans hb⟩
theorem BAt.portsSet (h : BAt g cap n b r w0 w s) {ps : List SP} (hR : RAt w0.heap.size g cap w' ps) (hl : ps.length = n) (ho : Only [g] w w') (hb : Below w0.heap.size w w') : BAt g cap n b r w0 w' { s with ports := ps } :=
  ⟨rowIs_same h.box (ho.2 _ h.box.lt (by simpa using h.gb.symm)), rowIs_same h.ret (ho.2 _ h.ret.lt (by simpa using h.gr.symm)), hR, hl, h.gb, h.gr, h.br, h.hb, h.hr, h.below.trans hb⟩
theorem BAt.free (h : BAt g cap n b r w0 w s) {k : Nat} (h1 : k ≠ b) (h2 : k ≠ r) (h3 : k ≠ g) (ho : ∀ m, m ≠ k → w'.heap[m]? = w.heap[m]?) (hb : Below w0.heap.size w w') : BAt g cap n b r w0 w' s :=
  ⟨rowIs_same h.box (ho _ h1.symm), rowIs_same h.ret (ho _ h2.symm), h.ports.same (ho _ h3.symm), h.len, h.gb, h.gr, h.br, h.hb, h.hr, h.below.trans hb⟩
end
theorem SS.Fit.map {s : SS} (h : s.Fit) (f : SP → SP) (hf : ∀ p : SP, p.Fit → (f p).Fit) : SS.Fit { s with ports := s.ports.map f } := fun k => by
  by_cases hk : k < s.ports.length
  · have e : SS.port { s with ports := s.ports.map f } k = f (s.port k) := s.port_map f k hk
    rw [e]
    exact hf _ (h k)
  · rw [SS.port_out _ _ (by simp; omega)]
    exact SP.zero_fit
theorem SS.Fit.aged {s : SS} (h : s.Fit) : s.aged.Fit := h.map _ (fun p hp => by
  unfold SP.aged
  split
  · split
    · exact ⟨⟨Int.le_refl _, (show (0 : Int) ≤ 1073741824 by decide)⟩, hp.2⟩
    · exact hp
  · exact hp)
theorem SS.Fit.put {s : SS} (h : s.Fit) (i : Nat) (p : SP) (hp : p.Fit) : (s.put i p).Fit := fun k => by
  by_cases hi : i < s.ports.length
  · rw [SS.port_put _ _ _ _ hi]
    split
    · exact hp
    · exact h k
  · have : s.put i p = s := by
      unfold SS.put
      rw [List.set_eq_of_length_le (by omega)]
    rw [this]
    exact h k
theorem SS.mature_ref (s : SS) (i : Nat) (hi : i < s.ports.length) (hc : (((s.port i).state == 1 || (s.port i).state == 2) && decide (s.now - (s.port i).since ≥ s.de)) = true) :
    ((s.port i).state + 1 = 3 ∧ s.mature i = (⟨s.id, s.ma, s.he, s.de, s.ports, s.best, s.root, s.now, s.chg + 1⟩ : SS).put i ⟨(s.port i).cost, (s.port i).up, (s.port i).heard, (s.port i).w, (s.port i).role, (s.port i).state + 1, s.now⟩) ∨
    ((s.port i).state + 1 ≠ 3 ∧ s.mature i = s.put i ⟨(s.port i).cost, (s.port i).up, (s.port i).heard, (s.port i).w, (s.port i).role, (s.port i).state + 1, s.now⟩) := by
  have hs : (s.port i).state = 1 ∨ (s.port i).state = 2 := by
    simp only [Bool.and_eq_true, Bool.or_eq_true, beq_iff_eq] at hc
    exact hc.1
  unfold SS.mature
  rw [if_pos hc]
  unfold SS.moved
  rcases hs with e | e
  · refine .inr ⟨by rw [e]; decide, ?_⟩
    rw [e]
    simp
  · refine .inl ⟨by rw [e]; decide, ?_⟩
    rw [e]
    simp
theorem ROutAt.same {w w' : World} {base : Nat} {v : Value} {outs : List SO} (h : ROutAt w base v outs) (ho : ∀ m, base ≤ m → w'.heap[m]? = w.heap[m]?) : ROutAt w' base v outs := by
  obtain ⟨la, lc, e, h1, h2⟩ := h
  refine ⟨la, lc, e, h1, ?_⟩
  rcases h2 with h2 | ⟨g', cap', cur, a1, a2, a3, a4⟩
  · exact .inl h2
  · exact .inr ⟨g', cap', cur, a1, a2, (ho _ a2).trans a3, a4⟩

end Go.Proofs.Ytdhiaidbpjjljaa
