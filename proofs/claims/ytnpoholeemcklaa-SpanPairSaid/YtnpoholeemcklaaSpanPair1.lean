/- SpanPair: the walk. By an AI agent. -/
import Derived.Test.YtnpoholeemcklaaSpanPair0
import Derived.Test.YtnpoholeemcklaaLess
namespace Go.Proofs.Ytnpoholeemcklaa
open Go.RowKit Go.WideShapes Go.Sort Grow

set_option maxRecDepth 20000 in
set_option maxHeartbeats 2000000 in
theorem spanPair_same (a : Id8) (ta tb tc : UInt8) (n : Int) (w : World) :
    Calls Try.prog 7 #[.agg #[.int .u8 ((a.f 0).toNat : Int), .int .u8 ((a.f 1).toNat : Int), .int .u8 ((a.f 2).toNat : Int), .int .u8 ((a.f 3).toNat : Int), .int .u8 ((a.f 4).toNat : Int), .int .u8 ((a.f 5).toNat : Int), .int .u8 ((a.f 6).toNat : Int), .int .u8 ((a.f 7).toNat : Int)], .agg #[.int .u8 ((a.f 0).toNat : Int), .int .u8 ((a.f 1).toNat : Int), .int .u8 ((a.f 2).toNat : Int), .int .u8 ((a.f 3).toNat : Int), .int .u8 ((a.f 4).toNat : Int), .int .u8 ((a.f 5).toNat : Int), .int .u8 ((a.f 6).toNat : Int), .int .u8 ((a.f 7).toNat : Int)], .agg #[.int .u8 (ta.toNat : Int), .int .u8 (tb.toNat : Int), .int .u8 (tc.toNat : Int)], .int .u8 n] w fun e w' => e = .returned (.bool true) ∧ Below w.heap.size w w' := by
  have m1 : ∀ w, (Op.equalIn 10000 23 (.agg #[.int .u8 ((a.f 0).toNat : Int), .int .u8 ((a.f 1).toNat : Int), .int .u8 ((a.f 2).toNat : Int), .int .u8 ((a.f 3).toNat : Int), .int .u8 ((a.f 4).toNat : Int), .int .u8 ((a.f 5).toNat : Int), .int .u8 ((a.f 6).toNat : Int), .int .u8 ((a.f 7).toNat : Int)]) (.agg #[.int .u8 ((a.f 0).toNat : Int), .int .u8 ((a.f 1).toNat : Int), .int .u8 ((a.f 2).toNat : Int), .int .u8 ((a.f 3).toNat : Int), .int .u8 ((a.f 4).toNat : Int), .int .u8 ((a.f 5).toNat : Int), .int .u8 ((a.f 6).toNat : Int), .int .u8 ((a.f 7).toNat : Int)])).run Try.prog w = .ok true w := fun w => by
    have h := run_equalIn_bid 9998 a.f a.f w
    rw [eqB_id, decide_eq_true rfl] at h
    exact h
  go_enter Try.func7, Try.ntmps7
  go_upto_region 1 with fail
  generalize hW : ((w.alloc _).alloc _).alloc _ = W
  have hb : Below w.heap.size w W := by rw [← hW]; exact BX3 w _ _ _
  have RA : Hid (RowIs W w.heap.size 23 #[.int .u8 ((a.f 0).toNat : Int), .int .u8 ((a.f 1).toNat : Int), .int .u8 ((a.f 2).toNat : Int), .int .u8 ((a.f 3).toNat : Int), .int .u8 ((a.f 4).toNat : Int), .int .u8 ((a.f 5).toNat : Int), .int .u8 ((a.f 6).toNat : Int), .int .u8 ((a.f 7).toNat : Int)]) := by subst hW; exact ((rowIs_new w _ _).alloc _).alloc _
  have RB : Hid (RowIs W (w.heap.size + 1) 23 #[.int .u8 ((a.f 0).toNat : Int), .int .u8 ((a.f 1).toNat : Int), .int .u8 ((a.f 2).toNat : Int), .int .u8 ((a.f 3).toNat : Int), .int .u8 ((a.f 4).toNat : Int), .int .u8 ((a.f 5).toNat : Int), .int .u8 ((a.f 6).toNat : Int), .int .u8 ((a.f 7).toNat : Int)]) := by subst hW; exact (rowIs_new1 w _ _ _).alloc _
  clear hW
  go_wp2_with fail
  refine (awake_any _).mono ?_
  rintro e w1 ⟨rfl, hb1⟩
  have RA1 := Lib.hid (RA.out.kept hb1)
  have RB1 := Lib.hid (RB.out.kept hb1)
  go_wp2_with (first
    | ((with_reducible refine at_load 23 (.tmp 4) ?_); refine wpList_load_own rfl 23 (.tmp 4) rfl (w.heap.size) rfl _ _ _ RA1.out Try.underlying23 rfl (by kernel_rfl) ?_)
    | ((with_reducible refine at_load 23 (.tmp 5) ?_); refine wpList_load_own rfl 23 (.tmp 5) rfl (w.heap.size + 1) rfl _ _ _ RB1.out Try.underlying23 rfl (by kernel_rfl) ?_))
  refine (awake_any _).mono ?_
  rintro e w2 ⟨rfl, hb2⟩
  have hbf : Below w.heap.size w w2 := (hb.trans (hb1.mono hb.size)).trans (hb2.mono (Nat.le_trans hb.size hb1.size))
  clear hb hb1 hb2 RA RB RA1 RB1 m1
  go_wp2_with fail
  go_ret
  exact ⟨rfl, hbf⟩

/-- who is the lesser is open -/
def PP (a b : Id8) (ma : Int) (h d i : Nat) (x y : SS) : Prop := (Ord.lt a.l b.l = true ∧ PA a b ma h d i x y) ∨ (Ord.lt b.l a.l = true ∧ PB a b ma h d i x y)
def MM (a b : Id8) (ma : Int) (h d i : Nat) (x y : SS) : Prop := (Ord.lt a.l b.l = true ∧ MA a b ma h d i x y) ∨ (Ord.lt b.l a.l = true ∧ MB a b ma h d i x y)
def FinK (a b : Id8) (ma : Int) (h d i k : Nat) (x y : SS) : Prop := if k = 0 then MM a b ma h d i x y else PP a b ma h d (i + 1) x y
def KS (a b : Id8) (ma : Int) (h d i k : Nat) (x y : SS) : Prop := if k = 0 then PP a b ma h d i x y else if k = 1 then MM a b ma h d i x y else PP a b ma h d (i + 1) x y
theorem pp_first {a b : Id8} {ma : Int} {h d i : Nat} {x y : SS} (h1 : 1 ≤ h) (h100 : h ≤ 100) (hd : 1 ≤ d) (hd1 : d ≤ 1000) (hm1 : 2 * (h : Int) + 3 ≤ ma) (hm2 : ma ≤ 1000) (hp : PP a b ma h d i x y) : ∃ n, n ≤ 2 ∧ Ph (FinK a b ma h d i 0) n x.ticked y 0 x.tick.2 := by
  have mono : ∀ (F G : SS → SS → Prop), (∀ x y, F x y → G x y) → ∀ n x y fr out, Ph F n x y fr out → Ph G n x y fr out := by
    intro F G hFG n
    induction n with
    | zero => intro x y fr out h; exact ⟨h.1, hFG _ _ h.2⟩
    | succ n ih =>
      rintro x y fr out ⟨o, e1, e2, h⟩
      refine ⟨o, e1, e2, ?_⟩
      rcases h with ⟨e3, h⟩ | ⟨e3, h⟩
      · exact .inl ⟨e3, ih _ _ _ _ h⟩
      · exact .inr ⟨e3, ih _ _ _ _ h⟩
  rcases hp with ⟨ho, hp⟩ | ⟨ho, hp⟩
  · obtain ⟨n, hn, hph⟩ := pa_first ho h1 h100 hd hd1 hm1 hm2 hp
    exact ⟨n, hn, mono _ _ (fun x y h => by unfold FinK; rw [if_pos rfl]; exact .inl ⟨ho, h⟩) _ _ _ _ _ hph⟩
  · obtain ⟨n, hn, hph⟩ := pb_first ho h1 h100 hd hd1 hm1 hm2 hp
    exact ⟨n, hn, mono _ _ (fun x y h => by unfold FinK; rw [if_pos rfl]; exact .inr ⟨ho, h⟩) _ _ _ _ _ hph⟩
theorem pp_second {a b : Id8} {ma : Int} {h d i : Nat} {x y : SS} (h1 : 1 ≤ h) (h100 : h ≤ 100) (hd : 1 ≤ d) (hd1 : d ≤ 1000) (hm1 : 2 * (h : Int) + 3 ≤ ma) (hm2 : ma ≤ 1000) (hp : MM a b ma h d i x y) : ∃ n, n ≤ 2 ∧ Ph (FinK a b ma h d i 1) n x y.ticked 1 y.tick.2 := by
  have mono : ∀ (F G : SS → SS → Prop), (∀ x y, F x y → G x y) → ∀ n x y fr out, Ph F n x y fr out → Ph G n x y fr out := by
    intro F G hFG n
    induction n with
    | zero => intro x y fr out h; exact ⟨h.1, hFG _ _ h.2⟩
    | succ n ih =>
      rintro x y fr out ⟨o, e1, e2, h⟩
      refine ⟨o, e1, e2, ?_⟩
      rcases h with ⟨e3, h⟩ | ⟨e3, h⟩
      · exact .inl ⟨e3, ih _ _ _ _ h⟩
      · exact .inr ⟨e3, ih _ _ _ _ h⟩
  rcases hp with ⟨ho, hp⟩ | ⟨ho, hp⟩
  · refine ⟨0, by decide, mono _ _ (fun x y h => by unfold FinK; rw [if_neg (by decide)]; exact .inl ⟨ho, h⟩) _ _ _ _ _ (pa_second ho h1 hd hm1 hp)⟩
  · obtain ⟨n, hn, hph⟩ := pb_second ho h1 h100 hd hd1 hm1 hm2 hp
    exact ⟨n, hn, mono _ _ (fun x y h => by unfold FinK; rw [if_neg (by decide)]; exact .inr ⟨ho, h⟩) _ _ _ _ _ hph⟩
/-- at the end -/
theorem pp_end {a b : Id8} {ma : Int} {h d i : Nat} {x y : SS} (hi : h ≤ i) (hid : 2 * d ≤ i) (hp : PP a b ma h d i x y) :
    (x.ports.length = 2 ∧ y.ports.length = 2) ∧ x.stateAt 1 = 3 ∧ y.stateAt 0 = 3 ∧ x.best.r = y.best.r ∧ ((Ord.lt a.l b.l = true ∧ x.best.r = a ∧ x.root = -1 ∧ y.root = 0 ∧ y.best.c = 20) ∨ (Ord.lt a.l b.l = false ∧ x.best.r = b ∧ y.root = -1 ∧ x.root = 1 ∧ x.best.c = 20)) := by
  have st : ∀ (s : SS) (id : Id8) (q : Nat), One s id ma (h : Nat) (d : Nat) q (i : Nat) (stA d i) (scA d i) → s.stateAt (q : Nat) = 3 := fun s id q ho => by
    have hh : s.has (q : Nat) = true := by unfold SS.has; simp; rw [ho.len]; exact ho.hq
    unfold SS.stateAt
    rw [if_pos hh, Int.toNat_natCast, ho.st]
    unfold stA
    rw [if_neg (by omega), if_neg (by omega)]
  rcases hp with ⟨ho, hp⟩ | ⟨ho, hp⟩
  · rcases hp.hy with ⟨h0, _⟩ | ⟨_, h2⟩
    · omega
    · refine ⟨⟨hp.hx.one.len, h2.one.len⟩, st x a 1 hp.hx.one, st y b 0 h2.one, ?_, .inl ⟨ho, ?_, hp.hx.root, h2.root, ?_⟩⟩
      · rw [hp.hx.best, h2.best]
      · rw [hp.hx.best]
      · rw [h2.best]
  · rcases hp.hx with ⟨h0, _⟩ | ⟨_, h2⟩
    · omega
    · refine ⟨⟨h2.one.len, hp.hy.one.len⟩, st x a 1 h2.one, st y b 0 hp.hy.one, ?_, .inr ⟨Ord.lt_asymm _ _ ho, ?_, hp.hy.root, h2.root, ?_⟩⟩
      · rw [hp.hy.best, h2.best]
      · rw [h2.best]
      · rw [h2.best]
theorem SpAt.under {B S g cap : Nat} {pbs : List Nat} {w w' : World} {s : SS} {C : Nat} (h : SpAt B S g cap pbs w s) (h1 : S < C) (h2 : g < C) (h3 : ∀ b ∈ pbs, b < C) (hb : Below C w w') : SpAt B S g cap pbs w' s := by
  obtain ⟨cur, k1, k2⟩ := h.arr
  exact ⟨h.hB, h.row.below hb h1, h.hg, ⟨cur, k1.below hb h2, k2⟩, h.len, h.nodup, fun i hi => ⟨(h.ports i hi).1, (h.ports i hi).2.below hb (h3 _ (List.getElem_mem hi))⟩⟩
theorem SpAt.beside {B S g cap : Nat} {pbs : List Nat} {w w' : World} {s : SS} {bs : List Nat} (h : SpAt B S g cap pbs w s) (ho : Only bs w w') (hbs : ∀ b ∈ bs, b < B) : SpAt B S g cap pbs w' s := by
  obtain ⟨cur, k1, k2⟩ := h.arr
  have key : ∀ b, B ≤ b → b ∉ bs := fun b hb hm => by
    have := hbs b hm
    omega
  exact ⟨h.hB, rowIs_same h.row (ho.2 _ h.row.lt (key _ h.hB)), h.hg, ⟨cur, rowIs_same k1 (ho.2 _ k1.lt (key _ h.hg)), k2⟩, h.len, h.nodup, fun i hi => ⟨(h.ports i hi).1, rowIs_same (h.ports i hi).2 (ho.2 _ (h.ports i hi).2.lt (key _ (h.ports i hi).1))⟩⟩
theorem SpAt.glt {B S g cap : Nat} {pbs : List Nat} {w : World} {s : SS} (h : SpAt B S g cap pbs w s) : g < w.heap.size := by
  obtain ⟨cur, k1, _⟩ := h.arr
  exact k1.lt
theorem OutAt.cap {w : World} {base : Nat} {v : Value} {outs : List SO} (h : OutAt w base v outs) : ∃ ao cap, v = .slice ao outs.length cap ∧ ManyAt w ao SO.cells 25 outs ∧ outs.length ≤ cap := by
  obtain ⟨ao, cap, e, hm⟩ := h.many
  obtain ⟨la, lc, e2, h2⟩ := h
  rw [e] at e2
  simp only [Value.slice.injEq, true_and] at e2
  obtain ⟨rfl, rfl⟩ := e2
  refine ⟨ao, cap, e, hm, ?_⟩
  rcases h2.2 with ⟨e3, e0⟩ | ⟨g, c', cur, e1, _, _, hle, _⟩
  · omega
  · simp only [Value.slice.injEq, true_and] at e1
    omega

end Go.Proofs.Ytnpoholeemcklaa
