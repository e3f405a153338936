/- causeyref17: ports as they lie; vector. By an AI agent. -/
import Derived.Test.YtdhiaidbpjjljaaSpanLaw0
import Derived.Test.YtdhiaidbpjjljaaRefBetter
import Derived.Test.YtdhiaidbpjjljaaRefWord
namespace Go.Proofs.Ytdhiaidbpjjljaa
open Go.RowKit Go.WideShapes Go.Sort Grow

/-- a port as the document holds it -/
def SP.rc (p : SP) : List Value := [.int .i64 p.cost, .int .i64 p.role, .int .i64 p.state, .int .i64 p.since, .bool p.up, .bool p.heard, .int .u8 ((p.w.r.f 0).toNat : Int), .int .u8 ((p.w.r.f 1).toNat : Int), .int .u8 ((p.w.r.f 2).toNat : Int), .int .u8 ((p.w.r.f 3).toNat : Int), .int .u8 ((p.w.r.f 4).toNat : Int), .int .u8 ((p.w.r.f 5).toNat : Int), .int .u8 ((p.w.r.f 6).toNat : Int), .int .u8 ((p.w.r.f 7).toNat : Int), .int .u8 ((p.w.b.f 0).toNat : Int), .int .u8 ((p.w.b.f 1).toNat : Int), .int .u8 ((p.w.b.f 2).toNat : Int), .int .u8 ((p.w.b.f 3).toNat : Int), .int .u8 ((p.w.b.f 4).toNat : Int), .int .u8 ((p.w.b.f 5).toNat : Int), .int .u8 ((p.w.b.f 6).toNat : Int), .int .u8 ((p.w.b.f 7).toNat : Int), .int .i64 p.w.c, .int .i64 p.w.p, .int .i64 p.w.age, .int .i64 p.w.ma, .int .i64 p.w.he, .int .i64 p.w.de, .bool p.w.ch, .bool p.w.ak]
theorem SP.rc_len (p : SP) : p.rc.length = 30 := rfl
theorem putAt_at (old : List Value) (k : Nat) (vs : List Value) (h : k + vs.length ≤ old.length) (t : Nat) :
    (putAt old k vs)[t]? = if t < k then old[t]? else if t < k + vs.length then vs[t - k]? else old[t]? := by
  unfold putAt
  have hl : (old.take k).length = k := by rw [List.length_take]; omega
  by_cases h1 : t < k
  · rw [if_pos h1, List.append_assoc, List.getElem?_append_left (by omega), List.getElem?_take_of_lt h1]
  · rw [if_neg h1, List.append_assoc, List.getElem?_append_right (by omega), hl]
    by_cases h2 : t < k + vs.length
    · rw [if_pos h2, List.getElem?_append_left (by omega)]
    · rw [if_neg h2, List.getElem?_append_right (by omega), List.getElem?_drop]
      congr 1
      omega

/-- the document's bridge, by value -/
def SS.rv (s : SS) (v : Value) : Array Value := #[.int .u8 ((s.id.f 0).toNat : Int), .int .u8 ((s.id.f 1).toNat : Int), .int .u8 ((s.id.f 2).toNat : Int), .int .u8 ((s.id.f 3).toNat : Int), .int .u8 ((s.id.f 4).toNat : Int), .int .u8 ((s.id.f 5).toNat : Int), .int .u8 ((s.id.f 6).toNat : Int), .int .u8 ((s.id.f 7).toNat : Int), .int .i64 s.ma, .int .i64 s.he, .int .i64 s.de, .int .i64 s.now, .int .i64 s.chg, v, .int .u8 ((s.best.r.f 0).toNat : Int), .int .u8 ((s.best.r.f 1).toNat : Int), .int .u8 ((s.best.r.f 2).toNat : Int), .int .u8 ((s.best.r.f 3).toNat : Int), .int .u8 ((s.best.r.f 4).toNat : Int), .int .u8 ((s.best.r.f 5).toNat : Int), .int .u8 ((s.best.r.f 6).toNat : Int), .int .u8 ((s.best.r.f 7).toNat : Int), .int .i64 s.best.c, .int .u8 ((s.best.b.f 0).toNat : Int), .int .u8 ((s.best.b.f 1).toNat : Int), .int .u8 ((s.best.b.f 2).toNat : Int), .int .u8 ((s.best.b.f 3).toNat : Int), .int .u8 ((s.best.b.f 4).toNat : Int), .int .u8 ((s.best.b.f 5).toNat : Int), .int .u8 ((s.best.b.f 6).toNat : Int), .int .u8 ((s.best.b.f 7).toNat : Int), .int .i64 s.best.p, .int .i64 s.root]
/-- the document's ports lie in block g -/
structure RAt (B g cap : Nat) (w : World) (ps : List SP) : Prop where
  hB : B ≤ g
  row : ∃ cur, RowIs w g 75 cur ∧ cur.size = cap * 30 ∧ ps.length ≤ cap ∧ cap ≤ maxLen ∧ cur.toList.take (ps.length * 30) = ps.flatMap SP.rc
theorem RAt.lt {B g cap : Nat} {w : World} {ps : List SP} (h : RAt B g cap w ps) : g < w.heap.size := by
  obtain ⟨cur, h1, _⟩ := h.row
  exact h1.lt
theorem RAt.le {B g cap : Nat} {w : World} {ps : List SP} (h : RAt B g cap w ps) : ps.length ≤ cap := by
  obtain ⟨cur, _, _, h1, _⟩ := h.row
  exact h1
theorem RAt.same {B g cap : Nat} {w w' : World} {ps : List SP} (h : RAt B g cap w ps) (e : w'.heap[g]? = w.heap[g]?) : RAt B g cap w' ps := by
  obtain ⟨cur, h1, h2⟩ := h.row
  exact ⟨h.hB, cur, e.trans h1, h2⟩
theorem RAt.below {B C g cap : Nat} {w w' : World} {ps : List SP} (h : RAt B g cap w ps) (hb : Below C w w') (hg : g < C) : RAt B g cap w' ps := h.same (hb.block g hg)
theorem RAt.later {B g cap : Nat} {w w' : World} {ps : List SP} (h : RAt B g cap w ps) (hb : Below w.heap.size w w') : RAt B g cap w' ps := h.below hb h.lt
theorem RAt.lower {B C g cap : Nat} {w : World} {ps : List SP} (h : RAt B g cap w ps) (hC : C ≤ B) : RAt C g cap w ps := ⟨Nat.le_trans hC h.hB, h.row⟩
theorem RAt.range {B g cap : Nat} {w : World} {ps : List SP} (h : RAt B g cap w ps) {i : Nat} (hi : i < ps.length) : w.rangeAt g (i * 30) ps[i].rc := fun j v hj => by
  obtain ⟨cur, h1, h2, h3, h4, h5⟩ := h.row
  have hj30 : j < 30 := (List.getElem?_eq_some_iff.1 hj).1
  have h6 := flat_getK (enc := SP.rc) (fun _ => rfl) ps i j hi hj30
  rw [h1.cell, ← Array.getElem?_toList]
  rw [hj, ← h5, List.getElem?_take_of_lt (by omega)] at h6
  exact h6
/-- of a port some cells are written -/
theorem RAt.put {B g cap : Nat} {w' : World} {ps : List SP} {cur : Array Value} {i j : Nat} {vs : List Value} {p : SP} (hB : B ≤ g) (hi : i < ps.length) (h2 : cur.size = cap * 30) (h3 : ps.length ≤ cap) (h4 : cap ≤ maxLen) (h5 : cur.toList.take (ps.length * 30) = ps.flatMap SP.rc)
    (hj : j + vs.length ≤ 30) (hp : putAt ps[i].rc j vs = p.rc) (hR : RowIs w' g 75 (putAt cur.toList (i * 30 + j) vs).toArray) : RAt B g cap w' (ps.set i p) := by
  have hcl : cur.toList.length = cap * 30 := by simpa using h2
  have hle : i * 30 + j + vs.length ≤ cur.toList.length := by omega
  have hsz : (putAt cur.toList (i * 30 + j) vs).length = cur.toList.length := by
    unfold putAt
    simp only [List.length_append, List.length_take, List.length_drop]
    omega
  refine ⟨hB, _, hR, by simp [hsz, hcl], by simpa using h3, h4, ?_⟩
  have hfl : ((ps.set i p).flatMap SP.rc).length = ps.length * 30 := by
    have : ∀ qs : List SP, (qs.flatMap SP.rc).length = qs.length * 30 := fun qs => by
      induction qs with
      | nil => rfl
      | cons q qs ih => rw [List.flatMap_cons, List.length_append, ih, SP.rc_len, List.length_cons]; omega
    rw [this, List.length_set]
  refine List.ext_getElem? fun t => ?_
  rw [List.length_set]
  show ((putAt cur.toList (i * 30 + j) vs).take (ps.length * 30))[t]? = _
  by_cases ht : t < ps.length * 30
  · obtain ⟨a, b, hb, rfl⟩ : ∃ a b, b < 30 ∧ t = a * 30 + b := ⟨t / 30, t % 30, Nat.mod_lt _ (by decide), by omega⟩
    have ha : a < ps.length := by omega
    rw [List.getElem?_take_of_lt ht, putAt_at _ _ _ hle]
    have hcur : cur.toList[a * 30 + b]? = ps[a].rc[b]? := by
      have h6 := flat_getK (enc := SP.rc) (fun _ => rfl) ps a b ha hb
      rw [← h5, List.getElem?_take_of_lt ht] at h6
      exact h6
    have hr := flat_getK (enc := SP.rc) (fun _ => rfl) (ps.set i p) a b (by simpa using ha) hb
    rw [hr, hcur]
    by_cases hai : a = i
    · subst hai
      rw [List.getElem_set_self, ← hp, putAt_at _ _ _ (by rw [SP.rc_len]; exact hj)]
      by_cases c1 : b < j
      · rw [if_pos c1, if_pos (by omega)]
      · rw [if_neg c1, if_neg (by omega)]
        by_cases c2 : b < j + vs.length
        · rw [if_pos c2, if_pos (by omega)]
          congr 1
          omega
        · rw [if_neg c2, if_neg (by omega)]
    · rw [List.getElem_set_ne (fun e => hai e.symm)]
      by_cases c1 : a * 30 + b < i * 30 + j
      · rw [if_pos c1]
      · rw [if_neg c1, if_neg (by omega)]
  · rw [List.getElem?_eq_none (by rw [List.length_take]; omega), List.getElem?_eq_none (by omega)]
section
variable {P : Program}
/-- ports[i].f = v for cells of a port -/
theorem wpList_store_rp {ops : Array Oper} {rest : List Oper} {o : Oper} {a : Act} {w : World} {Q : Exit → Act → World → Prop} (hgd : Region.wanted o (yielded ops a.tmps) = true) (ty : TypeId) (x y : Operand) (ho : o.op = .store ty x y)
    (g k i j : Nat) (cells : Array Value) (hx : a.eval x = .pointer (some ⟨g, k, none⟩)) (hy : a.eval y = .agg cells) {B cap : Nat} {ps : List SP} (hR : RAt B g cap w ps) (hi : i < ps.length) (hk : k = i * 30 + j) (hj : j + cells.size ≤ 30)
    (hn : (P.info? ty).map (·.size) = some cells.size) (h1 : cells.all (·.oneCell') = true) (p : SP) (hp : putAt ps[i].rc j cells.toList = p.rc) (C : Nat) (hC : C ≤ g)
    (h : ∀ w', RAt B g cap w' (ps.set i p) → (∀ m, m ≠ g → w'.heap[m]? = w.heap[m]?) → w'.heap.size = w.heap.size → Below C w w' → wpList P ops Q rest (a.put o.dst undef) w') : wpList P ops Q (o :: rest) a w :=
  BigFrame.wpList_want hgd fun _ hK => by
    subst hk
    obtain ⟨cur, r1, r2, r3, r4, r5⟩ := hR.row
    have hle : i * 30 + j + cells.size ≤ cur.size := by omega
    have ht : w.there g (i * 30 + j) cells.size := fun m hm => ⟨by rw [r1.cell]; simp; omega, r1.free _⟩
    obtain ⟨a1, a2, a3, a4, a5, a6⟩ := setCells_heap (g := g) (t := 75) cells.toList (i * 30 + j) w cur r1 (by simpa using hle)
    exact wp_store_mid ty x y ho g (i * 30 + j) cells hx hy ht hn h1 (hK _ _ (h _ (RAt.put hR.hB hi r2 r3 r4 r5 (by simpa using hj) hp a1) a2 a3 ⟨a4, a5, a6, Nat.le_of_eq a3.symm, fun m hm => a2 m (by omega)⟩))
/-- one cell -/
theorem wpList_store_rp1 {ops : Array Oper} {rest : List Oper} {o : Oper} {a : Act} {w : World} {Q : Exit → Act → World → Prop} (hgd : Region.wanted o (yielded ops a.tmps) = true) (ty : TypeId) (x y : Operand) (ho : o.op = .store ty x y)
    (g k i j : Nat) (v : Value) (hx : a.eval x = .pointer (some ⟨g, k, none⟩)) (hy : a.eval y = v) {B cap : Nat} {ps : List SP} (hR : RAt B g cap w ps) (hi : i < ps.length) (hk : k = i * 30 + j) (hj : j + 1 ≤ 30)
    (hn : (P.info? ty).map (·.size) = some 1) (h1 : v.oneCell' = true) (p : SP) (hp : putAt ps[i].rc j [v] = p.rc) (C : Nat) (hC : C ≤ g)
    (h : ∀ w', RAt B g cap w' (ps.set i p) → (∀ m, m ≠ g → w'.heap[m]? = w.heap[m]?) → w'.heap.size = w.heap.size → Below C w w' → wpList P ops Q rest (a.put o.dst undef) w') : wpList P ops Q (o :: rest) a w := by
  subst hk
  obtain ⟨cur, r1, r2, r3, r4, r5⟩ := hR.row
  have hle : i * 30 + j < cur.size := by omega
  refine wpList_store_cell hgd ty x y ho g (i * 30 + j) v hx hy 75 cur r1 hle hn h1 C hC fun w' a1 a2 a3 a4 => ?_
  refine h w' (RAt.put hR.hB hi r2 r3 r4 r5 (by simpa using hj) hp (vs := [v]) ?_) a2 a3 a4
  have e : (putAt cur.toList (i * 30 + j) [v]).toArray = cur.setIfInBounds (i * 30 + j) v := by
    apply Array.toList_inj.1
    unfold putAt
    rw [Array.toList_setIfInBounds, List.set_eq_take_append_cons_drop, if_pos (by simpa using hle)]
    simp
  rw [e]
  exact a1
end

set_option maxRecDepth 20000 in
set_option maxHeartbeats 2000000 in
theorem refVector_any (x : SW) (w : World) : Calls Try.prog 43 #[.agg #[.int .u8 ((x.r.f 0).toNat : Int), .int .u8 ((x.r.f 1).toNat : Int), .int .u8 ((x.r.f 2).toNat : Int), .int .u8 ((x.r.f 3).toNat : Int), .int .u8 ((x.r.f 4).toNat : Int), .int .u8 ((x.r.f 5).toNat : Int), .int .u8 ((x.r.f 6).toNat : Int), .int .u8 ((x.r.f 7).toNat : Int), .int .u8 ((x.b.f 0).toNat : Int), .int .u8 ((x.b.f 1).toNat : Int), .int .u8 ((x.b.f 2).toNat : Int), .int .u8 ((x.b.f 3).toNat : Int), .int .u8 ((x.b.f 4).toNat : Int), .int .u8 ((x.b.f 5).toNat : Int), .int .u8 ((x.b.f 6).toNat : Int), .int .u8 ((x.b.f 7).toNat : Int), .int .i64 x.c, .int .i64 x.p, .int .i64 x.age, .int .i64 x.ma, .int .i64 x.he, .int .i64 x.de, .bool x.ch, .bool x.ak]] w fun e w' => e = .returned (.agg #[.int .u8 ((x.v.r.f 0).toNat : Int), .int .u8 ((x.v.r.f 1).toNat : Int), .int .u8 ((x.v.r.f 2).toNat : Int), .int .u8 ((x.v.r.f 3).toNat : Int), .int .u8 ((x.v.r.f 4).toNat : Int), .int .u8 ((x.v.r.f 5).toNat : Int), .int .u8 ((x.v.r.f 6).toNat : Int), .int .u8 ((x.v.r.f 7).toNat : Int), .int .i64 x.v.c, .int .u8 ((x.v.b.f 0).toNat : Int), .int .u8 ((x.v.b.f 1).toNat : Int), .int .u8 ((x.v.b.f 2).toNat : Int), .int .u8 ((x.v.b.f 3).toNat : Int), .int .u8 ((x.v.b.f 4).toNat : Int), .int .u8 ((x.v.b.f 5).toNat : Int), .int .u8 ((x.v.b.f 6).toNat : Int), .int .u8 ((x.v.b.f 7).toNat : Int), .int .i64 x.v.p]) ∧ Below w.heap.size w w' := by
  go_enter Try.func43, Try.ntmps43
  go_upto_region 1 with fail
  generalize hW : (w.alloc _).alloc _ = W
  have hbW : Below w.heap.size w W := by rw [← hW]; exact ((Below.refl _ _).alloc (Nat.le_refl _) _).alloc (by simp) _
  have R1 : Hid (RowIs W w.heap.size 63 #[.int .u8 ((x.r.f 0).toNat : Int), .int .u8 ((x.r.f 1).toNat : Int), .int .u8 ((x.r.f 2).toNat : Int), .int .u8 ((x.r.f 3).toNat : Int), .int .u8 ((x.r.f 4).toNat : Int), .int .u8 ((x.r.f 5).toNat : Int), .int .u8 ((x.r.f 6).toNat : Int), .int .u8 ((x.r.f 7).toNat : Int), .int .u8 ((x.b.f 0).toNat : Int), .int .u8 ((x.b.f 1).toNat : Int), .int .u8 ((x.b.f 2).toNat : Int), .int .u8 ((x.b.f 3).toNat : Int), .int .u8 ((x.b.f 4).toNat : Int), .int .u8 ((x.b.f 5).toNat : Int), .int .u8 ((x.b.f 6).toNat : Int), .int .u8 ((x.b.f 7).toNat : Int), .int .i64 x.c, .int .i64 x.p, .int .i64 x.age, .int .i64 x.ma, .int .i64 x.he, .int .i64 x.de, .bool x.ch, .bool x.ak]) := by subst hW; exact (rowIs_new w _ _).alloc _
  have R2 : Hid (RowIs W (w.heap.size + 1) 57 #[.int .u8 0, .int .u8 0, .int .u8 0, .int .u8 0, .int .u8 0, .int .u8 0, .int .u8 0, .int .u8 0, .int .i64 0, .int .u8 0, .int .u8 0, .int .u8 0, .int .u8 0, .int .u8 0, .int .u8 0, .int .u8 0, .int .u8 0, .int .i64 0]) := by subst hW; exact rowIs_new1 w _ _ _
  clear hW
  have c16 : W.cell? ⟨w.heap.size, 16, none⟩ = some (.int .i64 x.c) := R1.out.cell 16
  have c17 : W.cell? ⟨w.heap.size, 17, none⟩ = some (.int .i64 x.p) := R1.out.cell 17
  go_wp2_with (first
    | ((with_reducible refine at_load 22 (.tmp 3) ?_); refine wpList_load_mid rfl 22 (.tmp 3) rfl (w.heap.size) (0) rfl [.int .u8 ((x.r.f 0).toNat : Int), .int .u8 ((x.r.f 1).toNat : Int), .int .u8 ((x.r.f 2).toNat : Int), .int .u8 ((x.r.f 3).toNat : Int), .int .u8 ((x.r.f 4).toNat : Int), .int .u8 ((x.r.f 5).toNat : Int), .int .u8 ((x.r.f 6).toNat : Int), .int .u8 ((x.r.f 7).toNat : Int)] _ (range_of_row R1.out rfl) Try.underlying22 rfl (by kernel_rfl) ?_)
    | ((with_reducible refine at_load 22 (.tmp 7) ?_); refine wpList_load_mid rfl 22 (.tmp 7) rfl (w.heap.size) (8) rfl [.int .u8 ((x.b.f 0).toNat : Int), .int .u8 ((x.b.f 1).toNat : Int), .int .u8 ((x.b.f 2).toNat : Int), .int .u8 ((x.b.f 3).toNat : Int), .int .u8 ((x.b.f 4).toNat : Int), .int .u8 ((x.b.f 5).toNat : Int), .int .u8 ((x.b.f 6).toNat : Int), .int .u8 ((x.b.f 7).toNat : Int)] _ (range_of_row R1.out rfl) Try.underlying22 rfl (by kernel_rfl) ?_)
    | ((with_reducible refine at_store 57 (.tmp 2) (.tmp 11) ?_); refine wpList_store_own rfl 57 (.tmp 2) (.tmp 11) rfl (w.heap.size + 1) _ rfl rfl _ _ R2.out (by kernel_rfl) rfl (by simp [Value.oneCell']) w.heap.size (by omega) ?_))
  intro w1 r1 _ _ hb1
  have R3 := Lib.hid r1
  clear r1
  go_wp2_with fail
  refine bodyPost_ret (results_row Try.results43 _ _ (w.heap.size + 1) _ _ _ rfl R3.out Try.underlying57 rfl (by kernel_rfl)) rfl ?_
  exact ⟨rfl, hbW.trans hb1⟩

end Go.Proofs.Ytdhiaidbpjjljaa
