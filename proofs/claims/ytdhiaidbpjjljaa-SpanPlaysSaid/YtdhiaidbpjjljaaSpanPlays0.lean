/- causeyref17: an act, as the law asks for it. SpanPlays: plain things; the short ways. By an AI agent. -/
import Derived.Test.YtdhiaidbpjjljaaRSpan7
import Derived.Test.YtdhiaidbpjjljaaRSpan8
import Derived.Test.YtdhiaidbpjjljaaSpanLaw1
import Derived.Deep.RegionHeld
namespace Go.Proofs.Ytdhiaidbpjjljaa
open Go.RowKit Go.WideShapes Go.Sort Grow

/-- what an act of the document answers -/
def RefAns (B n base : Nat) (r : SS × List SO) : Fact := fun w u => ∃ g' cap' v, u = .tuple #[.agg #[.int .u8 ((r.1.id.f 0).toNat : Int), .int .u8 ((r.1.id.f 1).toNat : Int), .int .u8 ((r.1.id.f 2).toNat : Int), .int .u8 ((r.1.id.f 3).toNat : Int), .int .u8 ((r.1.id.f 4).toNat : Int), .int .u8 ((r.1.id.f 5).toNat : Int), .int .u8 ((r.1.id.f 6).toNat : Int), .int .u8 ((r.1.id.f 7).toNat : Int), .int .i64 r.1.ma, .int .i64 r.1.he, .int .i64 r.1.de, .int .i64 r.1.now, .int .i64 r.1.chg, (.slice (some ⟨g', 0, none⟩) n cap'), .int .u8 ((r.1.best.r.f 0).toNat : Int), .int .u8 ((r.1.best.r.f 1).toNat : Int), .int .u8 ((r.1.best.r.f 2).toNat : Int), .int .u8 ((r.1.best.r.f 3).toNat : Int), .int .u8 ((r.1.best.r.f 4).toNat : Int), .int .u8 ((r.1.best.r.f 5).toNat : Int), .int .u8 ((r.1.best.r.f 6).toNat : Int), .int .u8 ((r.1.best.r.f 7).toNat : Int), .int .i64 r.1.best.c, .int .u8 ((r.1.best.b.f 0).toNat : Int), .int .u8 ((r.1.best.b.f 1).toNat : Int), .int .u8 ((r.1.best.b.f 2).toNat : Int), .int .u8 ((r.1.best.b.f 3).toNat : Int), .int .u8 ((r.1.best.b.f 4).toNat : Int), .int .u8 ((r.1.best.b.f 5).toNat : Int), .int .u8 ((r.1.best.b.f 6).toNat : Int), .int .u8 ((r.1.best.b.f 7).toNat : Int), .int .i64 r.1.best.p, .int .i64 r.1.root], v] ∧ RAt B g' cap' w r.1.ports ∧ ROutAt w base v r.2
theorem stable_ans (B n base : Nat) (r : SS × List SO) : Stable Bel (RefAns B n base r) := fun _ _ _ hb h => by
  obtain ⟨g', cap', v, e, h1, h2⟩ := h
  exact ⟨g', cap', v, e, h1.later hb, h2.later hb⟩
theorem RefAns.lower {B n base base' : Nat} {r : SS × List SO} {w : World} {u : Value} (h : RefAns B n base r w u) (hb : base' ≤ base) : RefAns B n base' r w u := by
  obtain ⟨g', cap', v, e, h1, h2⟩ := h
  exact ⟨g', cap', v, e, h1, h2.lower hb⟩
theorem refTick_n {n : Nat} (B g cap : Nat) (s : SS) (w : World) (n0 : Int) (hn : s.ports.length = n) (hR : RAt B g cap w s.ports) (hok : s.Ok n0) (h0 : n0 ≤ 900000000) (hF : s.Fit) :
    Calls Try.prog 19 #[.agg #[.int .u8 ((s.id.f 0).toNat : Int), .int .u8 ((s.id.f 1).toNat : Int), .int .u8 ((s.id.f 2).toNat : Int), .int .u8 ((s.id.f 3).toNat : Int), .int .u8 ((s.id.f 4).toNat : Int), .int .u8 ((s.id.f 5).toNat : Int), .int .u8 ((s.id.f 6).toNat : Int), .int .u8 ((s.id.f 7).toNat : Int), .int .i64 s.ma, .int .i64 s.he, .int .i64 s.de, .int .i64 s.now, .int .i64 s.chg, (.slice (some ⟨g, 0, none⟩) n cap), .int .u8 ((s.best.r.f 0).toNat : Int), .int .u8 ((s.best.r.f 1).toNat : Int), .int .u8 ((s.best.r.f 2).toNat : Int), .int .u8 ((s.best.r.f 3).toNat : Int), .int .u8 ((s.best.r.f 4).toNat : Int), .int .u8 ((s.best.r.f 5).toNat : Int), .int .u8 ((s.best.r.f 6).toNat : Int), .int .u8 ((s.best.r.f 7).toNat : Int), .int .i64 s.best.c, .int .u8 ((s.best.b.f 0).toNat : Int), .int .u8 ((s.best.b.f 1).toNat : Int), .int .u8 ((s.best.b.f 2).toNat : Int), .int .u8 ((s.best.b.f 3).toNat : Int), .int .u8 ((s.best.b.f 4).toNat : Int), .int .u8 ((s.best.b.f 5).toNat : Int), .int .u8 ((s.best.b.f 6).toNat : Int), .int .u8 ((s.best.b.f 7).toNat : Int), .int .i64 s.best.p, .int .i64 s.root]] w fun e w' => ∃ u, e = .returned u ∧ Below w.heap.size w w' ∧ RefAns B n w.heap.size (s.tick) w' u := by
  subst hn
  refine (refTick_any B g cap s w n0 hR hok h0 hF).mono ?_
  rintro e w' ⟨g', cap', v, rfl, h1, h2, h3⟩
  exact ⟨_, rfl, h3, g', cap', v, rfl, h1.lower (Nat.le_trans hR.hB (Nat.le_of_lt hR.lt)), h2⟩
theorem refSet_n {n : Nat} (B g cap : Nat) (s : SS) (i : Int) (up : Bool) (w : World) (n0 : Int) (hn : s.ports.length = n) (hR : RAt B g cap w s.ports) (hok : s.Ok n0) (h0 : n0 ≤ 900000000) (hF : s.Fit) :
    Calls Try.prog 20 #[.agg #[.int .u8 ((s.id.f 0).toNat : Int), .int .u8 ((s.id.f 1).toNat : Int), .int .u8 ((s.id.f 2).toNat : Int), .int .u8 ((s.id.f 3).toNat : Int), .int .u8 ((s.id.f 4).toNat : Int), .int .u8 ((s.id.f 5).toNat : Int), .int .u8 ((s.id.f 6).toNat : Int), .int .u8 ((s.id.f 7).toNat : Int), .int .i64 s.ma, .int .i64 s.he, .int .i64 s.de, .int .i64 s.now, .int .i64 s.chg, (.slice (some ⟨g, 0, none⟩) n cap), .int .u8 ((s.best.r.f 0).toNat : Int), .int .u8 ((s.best.r.f 1).toNat : Int), .int .u8 ((s.best.r.f 2).toNat : Int), .int .u8 ((s.best.r.f 3).toNat : Int), .int .u8 ((s.best.r.f 4).toNat : Int), .int .u8 ((s.best.r.f 5).toNat : Int), .int .u8 ((s.best.r.f 6).toNat : Int), .int .u8 ((s.best.r.f 7).toNat : Int), .int .i64 s.best.c, .int .u8 ((s.best.b.f 0).toNat : Int), .int .u8 ((s.best.b.f 1).toNat : Int), .int .u8 ((s.best.b.f 2).toNat : Int), .int .u8 ((s.best.b.f 3).toNat : Int), .int .u8 ((s.best.b.f 4).toNat : Int), .int .u8 ((s.best.b.f 5).toNat : Int), .int .u8 ((s.best.b.f 6).toNat : Int), .int .u8 ((s.best.b.f 7).toNat : Int), .int .i64 s.best.p, .int .i64 s.root], .int .i64 i, .bool up] w fun e w' => ∃ u, e = .returned u ∧ Below w.heap.size w w' ∧ RefAns B n w.heap.size (s.setUp i up) w' u := by
  subst hn
  refine (refSet_any B g cap s i up w n0 hR hok h0 hF).mono ?_
  rintro e w' ⟨g', cap', v, rfl, h1, h2, h3⟩
  exact ⟨_, rfl, h3, g', cap', v, rfl, h1, h2⟩
theorem refTake_n {n : Nat} (B g cap : Nat) (s : SS) (i : Int) (x : SW) (w : World) (n0 : Int) (hn : s.ports.length = n) (hR : RAt B g cap w s.ports) (hok : s.Ok n0) (h0 : n0 ≤ 900000000) (hF : s.Fit) :
    Calls Try.prog 21 #[.agg #[.int .u8 ((s.id.f 0).toNat : Int), .int .u8 ((s.id.f 1).toNat : Int), .int .u8 ((s.id.f 2).toNat : Int), .int .u8 ((s.id.f 3).toNat : Int), .int .u8 ((s.id.f 4).toNat : Int), .int .u8 ((s.id.f 5).toNat : Int), .int .u8 ((s.id.f 6).toNat : Int), .int .u8 ((s.id.f 7).toNat : Int), .int .i64 s.ma, .int .i64 s.he, .int .i64 s.de, .int .i64 s.now, .int .i64 s.chg, (.slice (some ⟨g, 0, none⟩) n cap), .int .u8 ((s.best.r.f 0).toNat : Int), .int .u8 ((s.best.r.f 1).toNat : Int), .int .u8 ((s.best.r.f 2).toNat : Int), .int .u8 ((s.best.r.f 3).toNat : Int), .int .u8 ((s.best.r.f 4).toNat : Int), .int .u8 ((s.best.r.f 5).toNat : Int), .int .u8 ((s.best.r.f 6).toNat : Int), .int .u8 ((s.best.r.f 7).toNat : Int), .int .i64 s.best.c, .int .u8 ((s.best.b.f 0).toNat : Int), .int .u8 ((s.best.b.f 1).toNat : Int), .int .u8 ((s.best.b.f 2).toNat : Int), .int .u8 ((s.best.b.f 3).toNat : Int), .int .u8 ((s.best.b.f 4).toNat : Int), .int .u8 ((s.best.b.f 5).toNat : Int), .int .u8 ((s.best.b.f 6).toNat : Int), .int .u8 ((s.best.b.f 7).toNat : Int), .int .i64 s.best.p, .int .i64 s.root], .int .i64 i, .agg #[.int .u8 ((x.r.f 0).toNat : Int), .int .u8 ((x.r.f 1).toNat : Int), .int .u8 ((x.r.f 2).toNat : Int), .int .u8 ((x.r.f 3).toNat : Int), .int .u8 ((x.r.f 4).toNat : Int), .int .u8 ((x.r.f 5).toNat : Int), .int .u8 ((x.r.f 6).toNat : Int), .int .u8 ((x.r.f 7).toNat : Int), .int .u8 ((x.b.f 0).toNat : Int), .int .u8 ((x.b.f 1).toNat : Int), .int .u8 ((x.b.f 2).toNat : Int), .int .u8 ((x.b.f 3).toNat : Int), .int .u8 ((x.b.f 4).toNat : Int), .int .u8 ((x.b.f 5).toNat : Int), .int .u8 ((x.b.f 6).toNat : Int), .int .u8 ((x.b.f 7).toNat : Int), .int .i64 x.c, .int .i64 x.p, .int .i64 x.age, .int .i64 x.ma, .int .i64 x.he, .int .i64 x.de, .bool x.ch, .bool x.ak]] w fun e w' => ∃ u, e = .returned u ∧ Below w.heap.size w w' ∧ RefAns B n w.heap.size (s.take i x) w' u := by
  subst hn
  refine (refTake_any B g cap s i x w n0 hR hok h0 hF).mono ?_
  rintro e w' ⟨g', cap', v, rfl, h1, h2, h3⟩
  exact ⟨_, rfl, h3, g', cap', v, rfl, h1, h2⟩

theorem SS.Fit.matF {s : SS} (h : s.Fit) (k : Nat) (hk : k ≤ s.ports.length) : (matF s k).Fit := h.of_ports (Nat.le_of_eq (matF_like s k).len) (fun j _ => by
  rw [matF_port s k hk j]
  split
  · unfold SP.mature
    split <;> exact ⟨rfl, rfl⟩
  · exact ⟨rfl, rfl⟩)
theorem SS.Fit.ticked {s : SS} (h : s.Fit) : s.ticked.Fit := by
  have h1 : s.next.Fit := h
  exact (SS.Fit.found (SS.Fit.aged h1)).matF _ (Nat.le_refl _)
theorem SS.Fit.setUp {s : SS} (h : s.Fit) (i : Int) (up : Bool) : (s.setUp i up).1.Fit := by
  unfold SS.setUp
  split
  · refine SS.Fit.found (h.put _ _ ?_)
    unfold SP.upTo
    split
    · exact h _
    · exact ⟨⟨Int.le_refl _, (show (0 : Int) ≤ 1073741824 by decide)⟩, (h _).2⟩
  · exact h
theorem SS.Fit.take {s : SS} (h : s.Fit) (i : Int) (x : SW) : (s.take i x).1.Fit := by
  cases hr : s.refuses i x
  · obtain ⟨k, rfl, _, h1, _, h2⟩ := SS.not_refuses hr
    rw [SS.take_yes hr]
    split
    · exact SS.Fit.found (h.takeP _ h1 h2)
    · exact h
  · rw [SS.take_no hr]
    exact h
theorem SS.Fit.act {s : SS} (h : s.Fit) (x : ActS) : (s.act x).1.Fit := by
  unfold SS.act
  split
  · exact h.ticked
  · split
    · exact h.setUp _ _
    · split
      · exact h.setUp _ _
      · exact h.take _ _
theorem runF_fit {s : SS} (h : s.Fit) (acts : List ActS) : ∀ k : Nat, (runF s acts k).Fit
  | 0 => h
  | k + 1 => (runF_fit h acts k).act _
theorem SpAt.away {B S g cap bx : Nat} {pbs : List Nat} {w w' : World} {s : SS} (h : SpAt B S g cap pbs w s) (ho : Only [bx] w w') (h1 : S ≠ bx) (h2 : g ≠ bx) (h3 : ∀ b ∈ pbs, b ≠ bx) : SpAt B S g cap pbs w' s :=
  ⟨h.hB, rowIs_same h.row (ho.2 _ h.row.lt (by simpa using h1)), h.hg, by obtain ⟨cur, a1, a2⟩ := h.arr; exact ⟨cur, rowIs_same a1 (ho.2 _ a1.lt (by simpa using h2)), a2⟩, h.len, h.nodup, fun i hi => ⟨(h.ports i hi).1, rowIs_same (h.ports i hi).2 (ho.2 _ (h.ports i hi).2.lt (by simpa using h3 _ (List.getElem_mem hi)))⟩⟩
theorem SpAt.glt {B S g cap : Nat} {pbs : List Nat} {w : World} {s : SS} (h : SpAt B S g cap pbs w s) : g < w.heap.size := by
  obtain ⟨cur, a1, _⟩ := h.arr
  exact a1.lt
theorem OutAt.away {w w' : World} {base bx : Nat} {v : Value} {outs : List SO} (h : OutAt w base v outs) (ho : Only [bx] w w') (hb : bx < base) : OutAt w' base v outs := by
  obtain ⟨la, lc, e, h1, h2⟩ := h
  refine ⟨la, lc, e, h1, ?_⟩
  rcases h2 with h2 | ⟨g', cap', cur, a1, a2, a3, a4⟩
  · exact .inl h2
  · exact .inr ⟨g', cap', cur, a1, a2, (ho.2 _ (RowIs.lt a3) (by simp; omega)).trans a3, a4⟩
theorem ROutAt.many {w : World} {base : Nat} {v : Value} {outs : List SO} (h : ROutAt w base v outs) : ∃ ao cap, v = .slice ao outs.length cap ∧ ManyAt w ao SO.cells 25 outs := by
  obtain ⟨la, lc, rfl, h⟩ := h
  refine ⟨la, lc, rfl, ?_⟩
  rcases h.2 with ⟨_, e0⟩ | ⟨g, c', cur, e1, hB', hgr, hle, hm, hcs, ht⟩
  · exact .inl (List.eq_nil_of_length_eq_zero e0)
  · simp only [Value.slice.injEq] at e1
    refine .inr ⟨g, 0, e1.1, (Array.getElem?_eq_some_iff.1 hgr).1, fun i hi j v hj => ?_⟩
    have hj25 : j < 25 := (List.getElem?_eq_some_iff.1 hj).1
    have hR : RowIs w g 72 cur := hgr
    rw [Nat.zero_add, hR.cell]
    have h1 := flat_getK (enc := SO.cells) (fun _ => rfl) outs i j hi hj25
    rw [hj, ← ht, List.getElem?_take_of_lt (by omega), Array.getElem?_toList] at h1
    exact h1
set_option maxRecDepth 20000 in
theorem run_equalIn_rw (d : Nat) (x : SW) (w : World) : (Op.equalIn (d + 1 + 1 + 1) 63 (.agg #[.int .u8 ((x.r.f 0).toNat : Int), .int .u8 ((x.r.f 1).toNat : Int), .int .u8 ((x.r.f 2).toNat : Int), .int .u8 ((x.r.f 3).toNat : Int), .int .u8 ((x.r.f 4).toNat : Int), .int .u8 ((x.r.f 5).toNat : Int), .int .u8 ((x.r.f 6).toNat : Int), .int .u8 ((x.r.f 7).toNat : Int), .int .u8 ((x.b.f 0).toNat : Int), .int .u8 ((x.b.f 1).toNat : Int), .int .u8 ((x.b.f 2).toNat : Int), .int .u8 ((x.b.f 3).toNat : Int), .int .u8 ((x.b.f 4).toNat : Int), .int .u8 ((x.b.f 5).toNat : Int), .int .u8 ((x.b.f 6).toNat : Int), .int .u8 ((x.b.f 7).toNat : Int), .int .i64 x.c, .int .i64 x.p, .int .i64 x.age, .int .i64 x.ma, .int .i64 x.he, .int .i64 x.de, .bool x.ch, .bool x.ak]) (.agg #[.int .u8 ((x.r.f 0).toNat : Int), .int .u8 ((x.r.f 1).toNat : Int), .int .u8 ((x.r.f 2).toNat : Int), .int .u8 ((x.r.f 3).toNat : Int), .int .u8 ((x.r.f 4).toNat : Int), .int .u8 ((x.r.f 5).toNat : Int), .int .u8 ((x.r.f 6).toNat : Int), .int .u8 ((x.r.f 7).toNat : Int), .int .u8 ((x.b.f 0).toNat : Int), .int .u8 ((x.b.f 1).toNat : Int), .int .u8 ((x.b.f 2).toNat : Int), .int .u8 ((x.b.f 3).toNat : Int), .int .u8 ((x.b.f 4).toNat : Int), .int .u8 ((x.b.f 5).toNat : Int), .int .u8 ((x.b.f 6).toNat : Int), .int .u8 ((x.b.f 7).toNat : Int), .int .i64 x.c, .int .i64 x.p, .int .i64 x.age, .int .i64 x.ma, .int .i64 x.he, .int .i64 x.de, .bool x.ch, .bool x.ak])).run Try.prog w = .ok true w := by
  have m1 := run_equalIn_id8 d x.r.f x.r.f w
  have m2 := run_equalIn_id8 d x.b.f x.b.f w
  rw [eqB_id, decide_eq_true rfl] at m1 m2
  go_simp
theorem run_equalIn_svv (v : SV) (w : World) : (Op.equalIn 10000 38 (.agg #[.int .u8 ((v.r.f 0).toNat : Int), .int .u8 ((v.r.f 1).toNat : Int), .int .u8 ((v.r.f 2).toNat : Int), .int .u8 ((v.r.f 3).toNat : Int), .int .u8 ((v.r.f 4).toNat : Int), .int .u8 ((v.r.f 5).toNat : Int), .int .u8 ((v.r.f 6).toNat : Int), .int .u8 ((v.r.f 7).toNat : Int), .int .i64 v.c, .int .u8 ((v.b.f 0).toNat : Int), .int .u8 ((v.b.f 1).toNat : Int), .int .u8 ((v.b.f 2).toNat : Int), .int .u8 ((v.b.f 3).toNat : Int), .int .u8 ((v.b.f 4).toNat : Int), .int .u8 ((v.b.f 5).toNat : Int), .int .u8 ((v.b.f 6).toNat : Int), .int .u8 ((v.b.f 7).toNat : Int), .int .i64 v.p]) (.agg #[.int .u8 ((v.r.f 0).toNat : Int), .int .u8 ((v.r.f 1).toNat : Int), .int .u8 ((v.r.f 2).toNat : Int), .int .u8 ((v.r.f 3).toNat : Int), .int .u8 ((v.r.f 4).toNat : Int), .int .u8 ((v.r.f 5).toNat : Int), .int .u8 ((v.r.f 6).toNat : Int), .int .u8 ((v.r.f 7).toNat : Int), .int .i64 v.c, .int .u8 ((v.b.f 0).toNat : Int), .int .u8 ((v.b.f 1).toNat : Int), .int .u8 ((v.b.f 2).toNat : Int), .int .u8 ((v.b.f 3).toNat : Int), .int .u8 ((v.b.f 4).toNat : Int), .int .u8 ((v.b.f 5).toNat : Int), .int .u8 ((v.b.f 6).toNat : Int), .int .u8 ((v.b.f 7).toNat : Int), .int .i64 v.p])).run Try.prog w = .ok true w := by
  have h := run_equalIn_sv 9997 v v w
  rw [decide_eq_true rfl] at h
  exact h
theorem port_roleAt {s : SS} {p : Nat} (hp : p < s.ports.length) : s.roleAt (p : Int) = (s.port p).role ∧ s.stateAt (p : Int) = (s.port p).state := by
  unfold SS.roleAt SS.stateAt
  rw [SS.has_nat hp, if_pos rfl, if_pos rfl, Int.toNat_natCast]
  exact ⟨rfl, rfl⟩

section
variable {P : Program} {md : Region.Mode} {ops : Array Oper} {Q : Exit → Act → World → Prop} {S : World → Prop} {fuel : Nat} {listed : Array Bool} {a : Act} {w : World}
theorem ar_load {i : Nat} {o : Oper} (ho : ops[i]? = some o) (hw : Region.wanted o (yielded ops a.tmps) = true) (ty : TypeId) (x : Operand) (hop : o.op = .load ty x) (b k : Nat) (hx : a.eval x = .pointer (some ⟨b, k, none⟩)) (cs : List Value) (d : TypeDesc) (hc : w.rangeAt b k cs) (hu : P.underlying ty = some d) (hd : d.isRow = true) (hi : (P.info? ty).map (·.size) = some cs.length) (hS : S w)
    (h : wpAnyH P md ops Q S fuel (listed.setIfInBounds i true) (a.put o.dst (.agg cs.toArray)) w) : AllReadyH P md ops Q S fuel listed a w [i] :=
  AllReadyH.cons ho (fun K hK => by
    rw [if_pos hw]
    exact wp_load_mid ty x hop b k hx cs d hc hu hd hi (hK.out _ _ hS (fun _ => h))) AllReadyH.nil
theorem ar_store {i : Nat} {o : Oper} (ho : ops[i]? = some o) (hw : Region.wanted o (yielded ops a.tmps) = true) (ty : TypeId) (x y : Operand) (hop : o.op = .store ty x y) (g : Nat) (cells : Array Value) (hx : a.eval x = .pointer (some ⟨g, 0, none⟩)) (hy : a.eval y = .agg cells) (t : TypeId) (old : Array Value) (hg : RowIs w g t old) (hi : (P.info? ty).map (·.size) = some cells.size) (hold : old.size = cells.size) (h1 : cells.all (·.oneCell') = true) (hS : S (w.setRow g cells))
    (h : wpAnyH P md ops Q S fuel (listed.setIfInBounds i true) (a.put o.dst undef) (w.setRow g cells)) : AllReadyH P md ops Q S fuel listed a w [i] :=
  AllReadyH.cons ho (fun K hK => by
    rw [if_pos hw]
    exact wp_store_row ty x y hop g cells hx hy t old hg hi hold h1 (hK.out _ _ hS (fun _ => h))) AllReadyH.nil
theorem ar_call {i : Nat} {o : Oper} (ho : ops[i]? = some o) (hw : Region.wanted o (yielded ops a.tmps) = true) {f : FuncId} {xs : List Operand} {vs : List Value} {ats : Array TypeId} {fn : Func} (hop : o.op = .call { callee := .value (.func f), args := xs.toArray, argTypes := ats }) (hv : xs.map a.eval = vs) (hf : P.funcs[f]? = some fn) (hname : (fn.name == "runtime.NumGoroutine") = false) (hb : fn.body.isNone = false)
    (h : Calls P f vs.toArray w fun e w' => ∃ u, e = .returned u ∧ S w' ∧ wpAnyH P md ops Q S fuel (listed.setIfInBounds i true) (a.put o.dst u) w') : AllReadyH P md ops Q S fuel listed a w [i] :=
  AllReadyH.cons ho (fun K hK => by
    rw [if_pos hw]
    have h1 : fn.name ≠ "runtime.NumGoroutine" := by simpa using hname
    have e : execOp a.eval o = callFunc f (#[] ++ (xs.toArray).map a.eval ++ #[]) := by
      unfold execOp
      rw [hop]
      rfl
    have h2 : fn.body ≠ none := fun h0 => by
      rw [h0] at hb
      cases hb
    have e2 : (execOp a.eval o).run P w = .ok (.enter f (vs.toArray)) w := by
      rw [e]
      have : (#[] ++ (xs.toArray).map a.eval ++ #[]) = vs.toArray := by simp [hv]
      rw [this]
      simp [callFunc, go_sem, hf, h1, h2]
    unfold Oper.wp
    rw [e2, Oper.upon_enter]
    refine h.mono ?_
    rintro e' w' ⟨u, rfl, hS, h'⟩
    exact hK.out _ _ hS (fun _ => h')) AllReadyH.nil
end
theorem RAt.ne_box {B g cap bx : Nat} {w : World} {ps : List SP} {cs : Array Value} (h : RAt B g cap w ps) (hx : RowIs w bx 59 cs) : g ≠ bx := by
  obtain ⟨cur, h1, _⟩ := h.row
  exact rowIs_ne h1 hx (by decide)
theorem SS.tells_len (s : SS) (p : Nat → Bool) : (s.tells p).length ≤ s.ports.length := by
  unfold SS.tells
  split
  · exact s.tellsF_len p _ _
  · exact Nat.zero_le _
theorem SS.act_outs (s : SS) (x : ActS) : (s.act x).2.length ≤ s.ports.length := by
  have hs := (s.act_same x).len
  rw [← hs]
  unfold SS.act
  split
  · show (s.tick).2.length ≤ s.ticked.ports.length
    unfold SS.tick
    simp only
    split
    · exact Nat.zero_le _
    · exact SS.tells_len _ _
  · have hu : ∀ up, (s.setUp x.port up).2.length ≤ (s.setUp x.port up).1.ports.length := fun up => by
      unfold SS.setUp
      split
      · simp only
        split
        · exact SS.tells_len _ _
        · exact Nat.zero_le _
      · exact Nat.zero_le _
    split
    · exact hu true
    · split
      · exact hu false
      · cases hr : s.refuses x.port x.w
        · rw [SS.take_yes hr]
          split
          · simp only
            unfold SS.tellsK
            split
            · exact SS.tells_len _ _
            · split
              · exact SS.tells_len _ _
              · exact Nat.zero_le _
          · exact SS.tells_len _ _
        · rw [SS.take_no hr]
          exact Nat.zero_le _

set_option maxRecDepth 20000 in
set_option maxHeartbeats 2000000 in
theorem spanPlays_long (id : Id8) (a0 : Option Addr) (zs : List Int) (cap0 : Nat) (ma he de : Int) (a1 : Option Addr) (acts : List ActS) (cap1 : Nat) (w : World) (hl : 60 < acts.length) :
    Calls Try.prog 5 #[.agg #[.int .u8 ((id.f 0).toNat : Int), .int .u8 ((id.f 1).toNat : Int), .int .u8 ((id.f 2).toNat : Int), .int .u8 ((id.f 3).toNat : Int), .int .u8 ((id.f 4).toNat : Int), .int .u8 ((id.f 5).toNat : Int), .int .u8 ((id.f 6).toNat : Int), .int .u8 ((id.f 7).toNat : Int)], .slice a0 zs.length cap0, .agg #[.int .i64 ma, .int .i64 he, .int .i64 de], .slice a1 acts.length cap1] w fun e w' => e = .returned (.bool true) ∧ Below w.heap.size w w' := by
  have g1 : decide ((60 : Int) < (acts.length : Int)) = true := decide_eq_true (by omega)
  go_enter Try.func5, Try.ntmps5
  go_upto_region 1 with fail
  generalize hW : (w.alloc _).alloc _ = W
  have hb : Below w.heap.size w W := by rw [← hW]; exact BX2 w _ _
  clear hW
  go_wp2_with fail
  refine (awake_any _).mono ?_
  rintro e w1 ⟨rfl, hb1⟩
  go_wp2_with fail
  refine (awake_any _).mono ?_
  rintro e w2 ⟨rfl, hb2⟩
  have hbf : Below w.heap.size w w2 := (hb.trans (hb1.mono hb.size)).trans (hb2.mono (Nat.le_trans hb.size hb1.size))
  clear hb hb1 hb2
  go_wp2_with fail
  go_ret
  exact ⟨rfl, hbf⟩

set_option maxRecDepth 20000 in
set_option maxHeartbeats 2000000 in
theorem spanPlays_wide (id : Id8) (a0 : Option Addr) (zs : List Int) (cap0 : Nat) (ma he de : Int) (a1 : Option Addr) (acts : List ActS) (cap1 : Nat) (w : World) (ha : acts.length ≤ 60) (hl : 100 < zs.length) :
    Calls Try.prog 5 #[.agg #[.int .u8 ((id.f 0).toNat : Int), .int .u8 ((id.f 1).toNat : Int), .int .u8 ((id.f 2).toNat : Int), .int .u8 ((id.f 3).toNat : Int), .int .u8 ((id.f 4).toNat : Int), .int .u8 ((id.f 5).toNat : Int), .int .u8 ((id.f 6).toNat : Int), .int .u8 ((id.f 7).toNat : Int)], .slice a0 zs.length cap0, .agg #[.int .i64 ma, .int .i64 he, .int .i64 de], .slice a1 acts.length cap1] w fun e w' => e = .returned (.bool true) ∧ Below w.heap.size w w' := by
  have g1 : decide ((60 : Int) < (acts.length : Int)) = false := decide_eq_false (by omega)
  have g2 : decide ((zs.length : Int) ≤ 100) = false := decide_eq_false (by omega)
  go_enter Try.func5, Try.ntmps5
  go_upto_region 1 with fail
  generalize hW : (w.alloc _).alloc _ = W
  have hb : Below w.heap.size w W := by rw [← hW]; exact BX2 w _ _
  clear hW
  go_wp2_with fail
  refine (awake_any _).mono ?_
  rintro e w1 ⟨rfl, hb1⟩
  go_wp2_with fail
  refine (few_any _ _ _ _).mono ?_
  rintro e w2 ⟨rfl, rfl⟩
  go_wp2_with fail
  refine (awake_any _).mono ?_
  rintro e w2 ⟨rfl, hb2⟩
  have hbf : Below w.heap.size w w2 := (hb.trans (hb1.mono hb.size)).trans (hb2.mono (Nat.le_trans hb.size hb1.size))
  clear hb hb1 hb2
  go_wp2_with fail
  go_ret
  exact ⟨rfl, hbf⟩

set_option maxRecDepth 20000 in
set_option maxHeartbeats 4000000 in
theorem spanPlays_bad (id : Id8) (a0 : Option Addr) (zs : List Int) (cap0 : Nat) (ma he de : Int) (a1 : Option Addr) (acts : List ActS) (cap1 : Nat) (w : World) (ha : acts.length ≤ 60) (hz : zs.length ≤ 100) (hA0 : IntsAt w a0 zs) (hbad : newOk zs ma he de = false) :
    Calls Try.prog 5 #[.agg #[.int .u8 ((id.f 0).toNat : Int), .int .u8 ((id.f 1).toNat : Int), .int .u8 ((id.f 2).toNat : Int), .int .u8 ((id.f 3).toNat : Int), .int .u8 ((id.f 4).toNat : Int), .int .u8 ((id.f 5).toNat : Int), .int .u8 ((id.f 6).toNat : Int), .int .u8 ((id.f 7).toNat : Int)], .slice a0 zs.length cap0, .agg #[.int .i64 ma, .int .i64 he, .int .i64 de], .slice a1 acts.length cap1] w fun e w' => e = .returned (.bool true) ∧ Below w.heap.size w w' := by
  have g1 : decide ((60 : Int) < (acts.length : Int)) = false := decide_eq_false (by omega)
  have g2 : decide ((zs.length : Int) ≤ 100) = true := decide_eq_true (by omega)
  go_enter Try.func5, Try.ntmps5
  go_upto_region 1 with fail
  generalize hW : (w.alloc _).alloc _ = W
  have hbW : Below w.heap.size w W := by rw [← hW]; exact BX2 w _ _
  have RD : Hid (RowIs W w.heap.size 23 #[.int .u8 ((id.f 0).toNat : Int), .int .u8 ((id.f 1).toNat : Int), .int .u8 ((id.f 2).toNat : Int), .int .u8 ((id.f 3).toNat : Int), .int .u8 ((id.f 4).toNat : Int), .int .u8 ((id.f 5).toNat : Int), .int .u8 ((id.f 6).toNat : Int), .int .u8 ((id.f 7).toNat : Int)]) := by subst hW; exact (rowIs_new w _ _).alloc _
  have RT : Hid (RowIs W (w.heap.size + 1) 51 #[.int .i64 ma, .int .i64 he, .int .i64 de]) := by subst hW; exact rowIs_new1 w _ _ _
  clear hW
  go_wp2_with fail
  refine (awake_any _).mono ?_
  rintro e w1 ⟨rfl, hb1⟩
  have hbW1 := hbW.trans (hb1.mono hbW.size)
  have RD1 := Lib.hid (RD.out.kept hb1)
  have RT1 := Lib.hid (RT.out.kept hb1)
  have c0 : w1.cell? ⟨w.heap.size + 1, 0, none⟩ = some (.int .i64 ma) := RT1.out.cell 0
  clear RD RT hbW hb1
  go_wp2_with fail
  refine (few_any _ _ _ _).mono ?_
  rintro e w2 ⟨rfl, rfl⟩
  have HRR : Hid (∀ w', Below w.heap.size w w' → Calls Try.prog 16 #[.slice a0 zs.length cap0, .int .i64 ma, .int .i64 he, .int .i64 de] w' fun e w'' => e = .returned (.bool false) ∧ w' = w'') := fun w' h => by
    have h0 := refRight17_any a0 zs cap0 ma he de w' (hA0.after h) hz
    rw [hbad] at h0
    exact h0
  have HN := Lib.hid (new_bad id a0 zs cap0 ma he de w1 (hA0.after hbW1) (by omega) hbad)
  have c1 : w1.cell? ⟨w.heap.size + 1, 1, none⟩ = some (.int .i64 he) := RT1.out.cell 1
  have c2 : w1.cell? ⟨w.heap.size + 1, 2, none⟩ = some (.int .i64 de) := RT1.out.cell 2
  clear hbad hA0
  go_wp2_with ((with_reducible refine at_load 23 (.tmp 4) ?_); refine wpList_load_own rfl 23 (.tmp 4) rfl (w.heap.size) rfl _ _ _ RD1.out Try.underlying23 rfl (by kernel_rfl) ?_)
  refine HN.out.mono ?_
  rintro e w3 ⟨rfl, hb3⟩
  have hbf := hbW1.trans (hb3.mono hbW1.size)
  have RT3 := Lib.hid (RT1.out.kept hb3)
  have d0 : w3.cell? ⟨w.heap.size + 1, 0, none⟩ = some (.int .i64 ma) := RT3.out.cell 0
  have d1 : w3.cell? ⟨w.heap.size + 1, 1, none⟩ = some (.int .i64 he) := RT3.out.cell 1
  have d2 : w3.cell? ⟨w.heap.size + 1, 2, none⟩ = some (.int .i64 de) := RT3.out.cell 2
  clear hb3 HN c0 c1 c2 RD1 RT1
  go_wp2_with fail
  refine (HRR.out w3 hbf).mono ?_
  rintro e w4 ⟨rfl, rfl⟩
  go_wp2_with fail
  go_ret
  exact ⟨rfl, hbf⟩

end Go.Proofs.Ytdhiaidbpjjljaa
