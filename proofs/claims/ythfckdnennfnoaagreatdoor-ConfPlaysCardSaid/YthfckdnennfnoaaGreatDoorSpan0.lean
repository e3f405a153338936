/- A bridge's part in the spanning tree: its data, and how it lies in memory. By an AI agent. -/
import Derived.Test.YthfckdnennfnoaaGreatDoorPart
import Derived.Test.YthfckdnennfnoaaGreatDoorVec
namespace Go.Proofs.YthfckdnennfnoaaGreatDoor
open Go.RowKit Go.Sort Grow

/-- an identifier -/
structure Id8 where
  (x0 x1 x2 x3 x4 x5 x6 x7 : UInt8)
def Id8.f (x : Id8) : Nat → UInt8
  | 0 => x.x0
  | 1 => x.x1
  | 2 => x.x2
  | 3 => x.x3
  | 4 => x.x4
  | 5 => x.x5
  | 6 => x.x6
  | 7 => x.x7
  | _ => 0
def Id8.l (x : Id8) : List UInt8 := [x.f 0, x.f 1, x.f 2, x.f 3, x.f 4, x.f 5, x.f 6, x.f 7]
theorem Id8.ext_l {x y : Id8} (h : x.l = y.l) : x = y := by
  cases x
  cases y
  simp only [Id8.l, Id8.f, List.cons.injEq, and_true] at h
  obtain ⟨h0, h1, h2, h3, h4, h5, h6, h7⟩ := h
  rw [h0, h1, h2, h3, h4, h5, h6, h7]
instance : DecidableEq Id8 := fun x y => decidable_of_iff (x.l = y.l) ⟨Id8.ext_l, fun h => by rw [h]⟩
def Id8.zero : Id8 := ⟨0, 0, 0, 0, 0, 0, 0, 0⟩

/-- a vector -/
structure SV where
  (r : Id8) (c : Int) (b : Id8) (p : Int)
theorem SV.ext_of {x y : SV} (h1 : x.r = y.r) (h2 : x.c = y.c) (h3 : x.b = y.b) (h4 : x.p = y.p) : x = y := by
  cases x; cases y; cases h1; cases h2; cases h3; cases h4; rfl
instance : DecidableEq SV := fun x y => decidable_of_iff (x.r = y.r ∧ x.c = y.c ∧ x.b = y.b ∧ x.p = y.p) ⟨fun h => SV.ext_of h.1 h.2.1 h.2.2.1 h.2.2.2, fun h => by rw [h]; exact ⟨rfl, rfl, rfl, rfl⟩⟩
def SV.cells (v : SV) : Array Value := #[.int .u8 ((v.r.f 0).toNat : Int), .int .u8 ((v.r.f 1).toNat : Int), .int .u8 ((v.r.f 2).toNat : Int), .int .u8 ((v.r.f 3).toNat : Int), .int .u8 ((v.r.f 4).toNat : Int), .int .u8 ((v.r.f 5).toNat : Int), .int .u8 ((v.r.f 6).toNat : Int), .int .u8 ((v.r.f 7).toNat : Int), .int .i64 v.c, .int .u8 ((v.b.f 0).toNat : Int), .int .u8 ((v.b.f 1).toNat : Int), .int .u8 ((v.b.f 2).toNat : Int), .int .u8 ((v.b.f 3).toNat : Int), .int .u8 ((v.b.f 4).toNat : Int), .int .u8 ((v.b.f 5).toNat : Int), .int .u8 ((v.b.f 6).toNat : Int), .int .u8 ((v.b.f 7).toNat : Int), .int .i64 v.p]
def SV.better (v u : SV) : Bool := Vec.better v.r.l v.c v.b.l v.p u.r.l u.c u.b.l u.p

/-- a word -/
structure SW where
  (r b : Id8) (c p age ma he de : Int) (ch ak : Bool)
def SW.cells (w : SW) : Array Value := #[.int .u8 ((w.r.f 0).toNat : Int), .int .u8 ((w.r.f 1).toNat : Int), .int .u8 ((w.r.f 2).toNat : Int), .int .u8 ((w.r.f 3).toNat : Int), .int .u8 ((w.r.f 4).toNat : Int), .int .u8 ((w.r.f 5).toNat : Int), .int .u8 ((w.r.f 6).toNat : Int), .int .u8 ((w.r.f 7).toNat : Int), .int .u8 ((w.b.f 0).toNat : Int), .int .u8 ((w.b.f 1).toNat : Int), .int .u8 ((w.b.f 2).toNat : Int), .int .u8 ((w.b.f 3).toNat : Int), .int .u8 ((w.b.f 4).toNat : Int), .int .u8 ((w.b.f 5).toNat : Int), .int .u8 ((w.b.f 6).toNat : Int), .int .u8 ((w.b.f 7).toNat : Int), .int .i64 w.c, .int .i64 w.p, .int .i64 w.age, .int .i64 w.ma, .int .i64 w.he, .int .i64 w.de, .bool w.ch, .bool w.ak]
def SW.zero : SW := ⟨.zero, .zero, 0, 0, 0, 0, 0, 0, false, false⟩
def SW.v (w : SW) : SV := ⟨w.r, w.c, w.b, w.p⟩

/-- a port -/
structure SP where
  (cost : Int) (up heard : Bool) (w : SW) (role state since : Int)
def SP.cells (p : SP) : Array Value := #[.int .i64 p.cost, .bool p.up, .bool p.heard, .int .u8 ((p.w.r.f 0).toNat : Int), .int .u8 ((p.w.r.f 1).toNat : Int), .int .u8 ((p.w.r.f 2).toNat : Int), .int .u8 ((p.w.r.f 3).toNat : Int), .int .u8 ((p.w.r.f 4).toNat : Int), .int .u8 ((p.w.r.f 5).toNat : Int), .int .u8 ((p.w.r.f 6).toNat : Int), .int .u8 ((p.w.r.f 7).toNat : Int), .int .u8 ((p.w.b.f 0).toNat : Int), .int .u8 ((p.w.b.f 1).toNat : Int), .int .u8 ((p.w.b.f 2).toNat : Int), .int .u8 ((p.w.b.f 3).toNat : Int), .int .u8 ((p.w.b.f 4).toNat : Int), .int .u8 ((p.w.b.f 5).toNat : Int), .int .u8 ((p.w.b.f 6).toNat : Int), .int .u8 ((p.w.b.f 7).toNat : Int), .int .i64 p.w.c, .int .i64 p.w.p, .int .i64 p.w.age, .int .i64 p.w.ma, .int .i64 p.w.he, .int .i64 p.w.de, .bool p.w.ch, .bool p.w.ak, .int .i64 p.role, .int .i64 p.state, .int .i64 p.since]
def SP.zero : SP := ⟨0, false, false, .zero, 0, 0, 0⟩

/-- a bridge's part -/
structure SS where
  (id : Id8) (ma he de : Int) (ports : List SP) (best : SV) (root now chg : Int)
def SS.cells (s : SS) (g cap : Nat) : Array Value := #[.int .u8 ((s.id.f 0).toNat : Int), .int .u8 ((s.id.f 1).toNat : Int), .int .u8 ((s.id.f 2).toNat : Int), .int .u8 ((s.id.f 3).toNat : Int), .int .u8 ((s.id.f 4).toNat : Int), .int .u8 ((s.id.f 5).toNat : Int), .int .u8 ((s.id.f 6).toNat : Int), .int .u8 ((s.id.f 7).toNat : Int), .int .i64 s.ma, .int .i64 s.he, .int .i64 s.de, .slice (some ⟨g, 0, none⟩) s.ports.length cap, .int .u8 ((s.best.r.f 0).toNat : Int), .int .u8 ((s.best.r.f 1).toNat : Int), .int .u8 ((s.best.r.f 2).toNat : Int), .int .u8 ((s.best.r.f 3).toNat : Int), .int .u8 ((s.best.r.f 4).toNat : Int), .int .u8 ((s.best.r.f 5).toNat : Int), .int .u8 ((s.best.r.f 6).toNat : Int), .int .u8 ((s.best.r.f 7).toNat : Int), .int .i64 s.best.c, .int .u8 ((s.best.b.f 0).toNat : Int), .int .u8 ((s.best.b.f 1).toNat : Int), .int .u8 ((s.best.b.f 2).toNat : Int), .int .u8 ((s.best.b.f 3).toNat : Int), .int .u8 ((s.best.b.f 4).toNat : Int), .int .u8 ((s.best.b.f 5).toNat : Int), .int .u8 ((s.best.b.f 6).toNat : Int), .int .u8 ((s.best.b.f 7).toNat : Int), .int .i64 s.best.p, .int .i64 s.root, .int .i64 s.now, .int .i64 s.chg]
def SS.port (s : SS) (i : Nat) : SP := s.ports.getD i .zero
def SS.put (s : SS) (i : Nat) (p : SP) : SS := { s with ports := s.ports.set i p }
theorem SS.put_len (s : SS) (i : Nat) (p : SP) : (s.put i p).ports.length = s.ports.length := by simp [SS.put]
theorem SS.put_cells (s : SS) (i : Nat) (p : SP) (g cap : Nat) : (s.put i p).cells g cap = s.cells g cap := by simp [SS.cells, SS.put]
theorem SS.port_put (s : SS) (i j : Nat) (p : SP) (hi : i < s.ports.length) : (s.put i p).port j = if j = i then p else s.port j := by
  unfold SS.put SS.port
  simp only [List.getD]
  by_cases h : j = i
  · subst h
    simp [hi]
  · rw [List.getElem?_set_ne (by omega), if_neg h]

structure SpAt (B S g cap : Nat) (pbs : List Nat) (w : World) (s : SS) : Prop where
  hB : B ≤ S
  row : RowIs w S 138 (s.cells g cap)
  hg : B ≤ g
  arr : ∃ cur, RowIs w g 139 cur ∧ ∀ i (h : i < pbs.length), cur[i]? = some (.pointer (some ⟨pbs[i], 0, none⟩))
  len : pbs.length = s.ports.length
  nodup : pbs.Nodup
  ports : ∀ i (h : i < pbs.length), B ≤ pbs[i] ∧ RowIs w pbs[i] 143 (s.port i).cells

theorem nodup_inj {l : List Nat} (h : l.Nodup) {i j : Nat} (hi : i < l.length) (hj : j < l.length) (e : l[i] = l[j]) : i = j := by
  rcases Nat.lt_trichotomy i j with hij | hij | hij
  · exact absurd e (List.pairwise_iff_getElem.1 h i j hi hj hij)
  · exact hij
  · exact absurd e.symm (List.pairwise_iff_getElem.1 h j i hj hi hij)
theorem rowIs_ne {w : World} {a b : Nat} {t t' : TypeId} {cs cs' : Array Value} (h : RowIs w a t cs) (h' : RowIs w b t' cs') (hne : t ≠ t') : a ≠ b := by
  rintro rfl
  have := h.symm.trans h'
  simp only [Option.some.injEq, Obj.cells.injEq] at this
  exact hne this.2.1
theorem rowIs_same {w w' : World} {a : Nat} {t : TypeId} {cs : Array Value} (h : RowIs w a t cs) (hs : w'.heap[a]? = w.heap[a]?) : RowIs w' a t cs := hs.trans h

section
variable {B S g cap : Nat} {pbs : List Nat} {w w' : World} {s : SS}
theorem SpAt.later (h : SpAt B S g cap pbs w s) (hb : Below w.heap.size w w') : SpAt B S g cap pbs w' s :=
  ⟨h.hB, h.row.kept hb, h.hg, by obtain ⟨cur, h1, h2⟩ := h.arr; exact ⟨cur, h1.kept hb, h2⟩, h.len, h.nodup, fun i hi => ⟨(h.ports i hi).1, (h.ports i hi).2.kept hb⟩⟩
theorem SpAt.spanSet (h : SpAt B S g cap pbs w s) {s' : SS} (hp : s'.ports = s.ports) (hr : RowIs w' S 138 (s'.cells g cap)) (ho : ∀ j, j ≠ S → w'.heap[j]? = w.heap[j]?) : SpAt B S g cap pbs w' s' := by
  obtain ⟨cur, h1, h2⟩ := h.arr
  have e : ∀ i, s'.port i = s.port i := fun i => by unfold SS.port; rw [hp]
  exact ⟨h.hB, hr, h.hg, ⟨cur, rowIs_same h1 (ho _ (rowIs_ne h1 h.row (by decide))), h2⟩, by rw [hp]; exact h.len, h.nodup, fun i hi => ⟨(h.ports i hi).1, by
    rw [e]
    exact rowIs_same (h.ports i hi).2 (ho _ (rowIs_ne (h.ports i hi).2 h.row (by decide)))⟩⟩
theorem SpAt.portSet (h : SpAt B S g cap pbs w s) {i : Nat} (hi : i < pbs.length) {p : SP} (hr : RowIs w' pbs[i] 143 p.cells) (ho : ∀ j, j ≠ pbs[i] → w'.heap[j]? = w.heap[j]?) : SpAt B S g cap pbs w' (s.put i p) := by
  obtain ⟨cur, h1, h2⟩ := h.arr
  have hil : i < s.ports.length := by rw [← h.len]; exact hi
  refine ⟨h.hB, ?_, h.hg, ⟨cur, rowIs_same h1 (ho _ (rowIs_ne h1 (h.ports i hi).2 (by decide))), h2⟩, by rw [SS.put_len]; exact h.len, h.nodup, fun j hj => ⟨(h.ports j hj).1, ?_⟩⟩
  · rw [SS.put_cells]
    exact rowIs_same h.row (ho _ (rowIs_ne h.row (h.ports i hi).2 (by decide)))
  · rw [SS.port_put _ _ _ _ hil]
    by_cases e : j = i
    · subst e
      rw [if_pos rfl]
      exact hr
    · rw [if_neg e]
      refine rowIs_same (h.ports j hj).2 (ho _ fun hh => e ?_)
      exact nodup_inj h.nodup hj hi hh
theorem SpAt.ptr (h : SpAt B S g cap pbs w s) {i : Nat} (hi : i < pbs.length) : w.cell? ⟨g, i, none⟩ = some (.pointer (some ⟨pbs[i], 0, none⟩)) := by
  obtain ⟨cur, h1, h2⟩ := h.arr
  rw [h1.cell]
  exact h2 i hi
end

/-- of the old blocks only some have turned -/
def Only (bs : List Nat) (w w' : World) : Prop := w.heap.size ≤ w'.heap.size ∧ ∀ j, j < w.heap.size → j ∉ bs → w'.heap[j]? = w.heap[j]?
theorem Only.refl (bs : List Nat) (w : World) : Only bs w w := ⟨Nat.le_refl _, fun _ _ _ => rfl⟩
theorem Only.below {bs : List Nat} {w w' w'' : World} (h : Only bs w w') (hb : Below w'.heap.size w' w'') : Only bs w w'' :=
  ⟨Nat.le_trans h.1 hb.size, fun j hj hn => (hb.block j (Nat.lt_of_lt_of_le hj h.1)).trans (h.2 j hj hn)⟩
theorem Only.store {bs : List Nat} {w w' w'' : World} (h : Only bs w w') {S : Nat} (hS : S ∈ bs) (ho : ∀ j, j ≠ S → w''.heap[j]? = w'.heap[j]?) (hs : w''.heap.size = w'.heap.size) : Only bs w w'' :=
  ⟨by rw [hs]; exact h.1, fun j hj hn => (ho j (fun e => hn (by rw [e]; exact hS))).trans (h.2 j hj hn)⟩
theorem Only.trans {bs : List Nat} {w w' w'' : World} (h : Only bs w w') (k : Only bs w' w'') : Only bs w w'' :=
  ⟨Nat.le_trans h.1 k.1, fun j hj hn => (k.2 j (Nat.lt_of_lt_of_le hj h.1) hn).trans (h.2 j hj hn)⟩
theorem Only.mono {bs cs : List Nat} {w w' : World} (h : Only bs w w') (hs : ∀ b ∈ bs, b ∈ cs) : Only cs w w' := ⟨h.1, fun j hj hn => h.2 j hj (fun hb => hn (hs j hb))⟩

/-- a port takes a state -/
def SS.moved (s : SS) (i : Nat) (st : Int) : SS :=
  ({ s with chg := s.chg + (if decide ((s.port i).state = 3) = decide (st = 3) then 0 else 1) } : SS).put i { s.port i with state := st, since := s.now }

theorem SS.moved_eq (s : SS) (i : Nat) (st : Int) (b : Bool) (hx : ((s.port i).state == 3) = b) (hy : (st == 3) = b) : s.moved i st = s.put i { s.port i with state := st, since := s.now } := by
  unfold SS.moved
  have ex : decide ((s.port i).state = 3) = b := hx
  have ey : decide (st = 3) = b := hy
  rw [if_pos (ex.trans ey.symm), Int.add_zero]
theorem SS.moved_ne (s : SS) (i : Nat) (st : Int) (b : Bool) (hx : ((s.port i).state == 3) = b) (hy : (st == 3) = !b) : s.moved i st = ({ s with chg := s.chg + 1 } : SS).put i { s.port i with state := st, since := s.now } := by
  unfold SS.moved
  have ex : decide ((s.port i).state = 3) = b := hx
  have ey : decide (st = 3) = !b := hy
  rw [if_neg (by rw [ex, ey]; cases b <;> simp)]

set_option maxRecDepth 20000 in
set_option maxHeartbeats 2000000 in
theorem moved_any (B S g cap : Nat) (pbs : List Nat) (w : World) (s : SS) (h : SpAt B S g cap pbs w s) (i : Nat) (hi : i < pbs.length) (st : Int) (hc : 0 ≤ s.chg ∧ s.chg ≤ 1000000000) :
    Calls Tryz.prog 70 #[.pointer (some ⟨S, 0, none⟩), .pointer (some ⟨pbs[i], 0, none⟩), .int .i64 st] w fun e w' => e = .returned (.tuple #[]) ∧ SpAt B S g cap pbs w' (s.moved i st) ∧ Below B w w' ∧ Only [S, pbs[i]] w w' := by
  have HA := Lib.hid h
  have HR := Lib.hid (h.ports i hi).2
  have HBp := (h.ports i hi).1
  have HS := Lib.hid h.row
  have HBS := h.hB
  have hne : pbs[i] ≠ S := rowIs_ne (h.ports i hi).2 h.row (by decide)
  clear h
  have c5 : w.cell? ⟨pbs[i], 28, none⟩ = some (.int .i64 (s.port i).state) := HR.out.cell 28
  go_enter Tryz.func70, Tryz.ntmps70
  have c31 : w.cell? ⟨S, 31, none⟩ = some (.int .i64 s.now) := HS.out.cell 31
  have c32 : w.cell? ⟨S, 32, none⟩ = some (.int .i64 s.chg) := HS.out.cell 32
  obtain ⟨hc1, hc2⟩ := hc
  cases hx : ((s.port i).state == 3) <;> cases hy : (st == 3)
  · have HM := Lib.hid (SS.moved_eq s i st _ hx hy)
    clear c32
    go_wp2_with (first
      | ((with_reducible refine at_store 3 (.tmp 29) (.tmp 23) ?_); refine wpList_store_cell rfl 3 (.tmp 29) (.tmp 23) rfl (pbs[i]) 28 _ rfl rfl 143 _ HR.out (show 28 < 30 by decide) (by kernel_rfl) rfl B HBp ?_))
    intro w1 hR1 ho1 hs1 hb1
    have HR1 := Lib.hid hR1
    clear hR1
    go_wp2_with (first
      | ((with_reducible refine at_store 3 (.tmp 31) (.tmp 27) ?_); refine wpList_store_cell rfl 3 (.tmp 31) (.tmp 27) rfl (pbs[i]) 29 _ rfl rfl 143 _ HR1.out (show 29 < 30 by decide) (by kernel_rfl) rfl B HBp ?_))
    intro w2 hR2 ho2 hs2 hb2
    have HFIN : Hid (SpAt B S g cap pbs w2 (s.moved i st)) := by
      show SpAt _ _ _ _ _ _ _
      rw [HM.out]
      exact HA.out.portSet hi hR2 (fun j hj => (ho2 j hj).trans (ho1 j hj))
    have hbf := hb1.trans hb2
    have HO : Hid (Only [S, pbs[i]] w w2) := ((Only.refl _ w).store (by simp) ho1 hs1).store (by simp) ho2 (by omega)
    clear hR2 ho1 ho2 hs1 hs2 hb1 hb2
    go_wp2_with fail
    go_end0
    exact ⟨rfl, HFIN.out, hbf, HO.out⟩
  · have HM := Lib.hid (SS.moved_ne s i st _ hx hy)
    go_wp2_with (first
      | ((with_reducible refine at_store 3 (.tmp 20) (.tmp 18) ?_); refine wpList_store_cell rfl 3 (.tmp 20) (.tmp 18) rfl (S) 32 _ rfl rfl 138 _ HS.out (show 32 < 33 by decide) (by kernel_rfl) rfl B HBS ?_))
    intro w0 hR0 ho0 hs0 hb0
    have HA0 := Lib.hid (HA.out.spanSet (s' := { s with chg := s.chg + 1 }) rfl hR0 ho0)
    have HR0 := Lib.hid (rowIs_same HR.out (ho0 _ hne))
    have c31 : w0.cell? ⟨S, 31, none⟩ = some (.int .i64 s.now) := HA0.out.row.cell 31
    have HO0 : Hid (Only [S, pbs[i]] w w0) := (Only.refl _ w).store (by simp) ho0 hs0
    clear hR0 ho0 HR HA HS c5 c32
    go_wp2_with (first
      | ((with_reducible refine at_store 3 (.tmp 29) (.tmp 23) ?_); refine wpList_store_cell rfl 3 (.tmp 29) (.tmp 23) rfl (pbs[i]) 28 _ rfl rfl 143 _ HR0.out (show 28 < 30 by decide) (by kernel_rfl) rfl B HBp ?_))
    intro w1 hR1 ho1 hs1 hb1
    have HR1 := Lib.hid hR1
    clear hR1
    go_wp2_with (first
      | ((with_reducible refine at_store 3 (.tmp 31) (.tmp 27) ?_); refine wpList_store_cell rfl 3 (.tmp 31) (.tmp 27) rfl (pbs[i]) 29 _ rfl rfl 143 _ HR1.out (show 29 < 30 by decide) (by kernel_rfl) rfl B HBp ?_))
    intro w2 hR2 ho2 hs2 hb2
    have HFIN : Hid (SpAt B S g cap pbs w2 (s.moved i st)) := by
      show SpAt _ _ _ _ _ _ _
      rw [HM.out]
      exact HA0.out.portSet hi hR2 (fun j hj => (ho2 j hj).trans (ho1 j hj))
    have hbf := (hb0.trans hb1).trans hb2
    have HO : Hid (Only [S, pbs[i]] w w2) := (HO0.out.store (by simp) ho1 (by omega)).store (by simp) ho2 (by omega)
    clear hR2 ho1 ho2 hs1 hs2 hb0 hb1 hb2
    go_wp2_with fail
    go_end0
    exact ⟨rfl, HFIN.out, hbf, HO.out⟩
  · have HM := Lib.hid (SS.moved_ne s i st _ hx hy)
    go_wp2_with (first
      | ((with_reducible refine at_store 3 (.tmp 20) (.tmp 18) ?_); refine wpList_store_cell rfl 3 (.tmp 20) (.tmp 18) rfl (S) 32 _ rfl rfl 138 _ HS.out (show 32 < 33 by decide) (by kernel_rfl) rfl B HBS ?_))
    intro w0 hR0 ho0 hs0 hb0
    have HA0 := Lib.hid (HA.out.spanSet (s' := { s with chg := s.chg + 1 }) rfl hR0 ho0)
    have HR0 := Lib.hid (rowIs_same HR.out (ho0 _ hne))
    have c31 : w0.cell? ⟨S, 31, none⟩ = some (.int .i64 s.now) := HA0.out.row.cell 31
    have HO0 : Hid (Only [S, pbs[i]] w w0) := (Only.refl _ w).store (by simp) ho0 hs0
    clear hR0 ho0 HR HA HS c5 c32
    go_wp2_with (first
      | ((with_reducible refine at_store 3 (.tmp 29) (.tmp 23) ?_); refine wpList_store_cell rfl 3 (.tmp 29) (.tmp 23) rfl (pbs[i]) 28 _ rfl rfl 143 _ HR0.out (show 28 < 30 by decide) (by kernel_rfl) rfl B HBp ?_))
    intro w1 hR1 ho1 hs1 hb1
    have HR1 := Lib.hid hR1
    clear hR1
    go_wp2_with (first
      | ((with_reducible refine at_store 3 (.tmp 31) (.tmp 27) ?_); refine wpList_store_cell rfl 3 (.tmp 31) (.tmp 27) rfl (pbs[i]) 29 _ rfl rfl 143 _ HR1.out (show 29 < 30 by decide) (by kernel_rfl) rfl B HBp ?_))
    intro w2 hR2 ho2 hs2 hb2
    have HFIN : Hid (SpAt B S g cap pbs w2 (s.moved i st)) := by
      show SpAt _ _ _ _ _ _ _
      rw [HM.out]
      exact HA0.out.portSet hi hR2 (fun j hj => (ho2 j hj).trans (ho1 j hj))
    have hbf := (hb0.trans hb1).trans hb2
    have HO : Hid (Only [S, pbs[i]] w w2) := (HO0.out.store (by simp) ho1 (by omega)).store (by simp) ho2 (by omega)
    clear hR2 ho1 ho2 hs1 hs2 hb0 hb1 hb2
    go_wp2_with fail
    go_end0
    exact ⟨rfl, HFIN.out, hbf, HO.out⟩
  · have HM := Lib.hid (SS.moved_eq s i st _ hx hy)
    clear c32
    go_wp2_with (first
      | ((with_reducible refine at_store 3 (.tmp 29) (.tmp 23) ?_); refine wpList_store_cell rfl 3 (.tmp 29) (.tmp 23) rfl (pbs[i]) 28 _ rfl rfl 143 _ HR.out (show 28 < 30 by decide) (by kernel_rfl) rfl B HBp ?_))
    intro w1 hR1 ho1 hs1 hb1
    have HR1 := Lib.hid hR1
    clear hR1
    go_wp2_with (first
      | ((with_reducible refine at_store 3 (.tmp 31) (.tmp 27) ?_); refine wpList_store_cell rfl 3 (.tmp 31) (.tmp 27) rfl (pbs[i]) 29 _ rfl rfl 143 _ HR1.out (show 29 < 30 by decide) (by kernel_rfl) rfl B HBp ?_))
    intro w2 hR2 ho2 hs2 hb2
    have HFIN : Hid (SpAt B S g cap pbs w2 (s.moved i st)) := by
      show SpAt _ _ _ _ _ _ _
      rw [HM.out]
      exact HA.out.portSet hi hR2 (fun j hj => (ho2 j hj).trans (ho1 j hj))
    have hbf := hb1.trans hb2
    have HO : Hid (Only [S, pbs[i]] w w2) := ((Only.refl _ w).store (by simp) ho1 hs1).store (by simp) ho2 (by omega)
    clear hR2 ho1 ho2 hs1 hs2 hb1 hb2
    go_wp2_with fail
    go_end0
    exact ⟨rfl, HFIN.out, hbf, HO.out⟩
end Go.Proofs.YthfckdnennfnoaaGreatDoor
