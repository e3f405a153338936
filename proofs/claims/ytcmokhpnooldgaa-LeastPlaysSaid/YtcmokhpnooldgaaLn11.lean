/- Ports: what is done with each link. By an AI agent. -/
import Derived.Test.YtcmokhpnooldgaaLn10
import Derived.Test.YtcmokhpnooldgaaGrowApp
import Derived.Deep.RegionHeld
import Derived.OrdersHeld
namespace Go.Proofs.Ytcmokhpnooldgaa
open Go.RowKit Go.WideShapes Go.Sort Grow

def SV.vals (v : SV) : List Value := [.int .u8 ((v.r.f 0).toNat : Int), .int .u8 ((v.r.f 1).toNat : Int), .int .u8 ((v.r.f 2).toNat : Int), .int .u8 ((v.r.f 3).toNat : Int), .int .u8 ((v.r.f 4).toNat : Int), .int .u8 ((v.r.f 5).toNat : Int), .int .u8 ((v.r.f 6).toNat : Int), .int .u8 ((v.r.f 7).toNat : Int), .int .i64 v.c, .int .u8 ((v.b.f 0).toNat : Int), .int .u8 ((v.b.f 1).toNat : Int), .int .u8 ((v.b.f 2).toNat : Int), .int .u8 ((v.b.f 3).toNat : Int), .int .u8 ((v.b.f 4).toNat : Int), .int .u8 ((v.b.f 5).toNat : Int), .int .u8 ((v.b.f 6).toNat : Int), .int .u8 ((v.b.f 7).toNat : Int), .int .i64 v.p]
def SV.zero : SV := ⟨.zero, 0, .zero, 0⟩
def vecsA (bs : List SV) : Array Value := (bs.flatMap SV.vals).toArray
/-- what an end hears by its link -/
def hearV (N : LN) (R : List Nat) (D : List Int) (d : Lk) : SV := ⟨N.id (R.getD d.j 0), D.getD d.i 0 + N.cost d, N.id d.i, d.p + 1⟩
def stP (N : LN) (R : List Nat) (D : List Int) (s : List Int × List SV) (d : Lk) : List Int × List SV :=
  if R.getD d.j 0 = d.j then s
  else if s.1.getD d.j 0 < 0 ∨ (hearV N R D d).better (s.2.getD d.j .zero) = true then (s.1.set d.j d.q, s.2.set d.j (hearV N R D d)) else s
theorem vecsA_range {bs : List SV} {i : Nat} (h : i < bs.length) {w : World} {g : Nat} (hR : RowIs w g 73 (vecsA bs)) : w.rangeAt g (i * 18) (bs.getD i .zero).vals := fun j x hj => by
  have hj18 : j < 18 := (List.getElem?_eq_some_iff.1 hj).1
  rw [hR.cell]
  have h1 := flat_get18 (enc := SV.vals) (k := 18) (fun _ => rfl) bs i j h hj18
  rw [show bs.getD i .zero = bs[i] by rw [List.getD, List.getElem?_eq_getElem h]; rfl] at hj
  unfold vecsA
  rw [List.getElem?_toArray, h1, hj]

section
variable {P : Program} {md : Region.Mode} {ops : Array Oper} {Q : Exit → Act → World → Prop} {S : World → Prop} {fuel : Nat} {listed : Array Bool} {a : Act} {w : World}
theorem ar_cell18 {i : Nat} {o : Oper} (ho : ops[i]? = some o) (hw : Region.wanted o (yielded ops a.tmps) = true) (ty : TypeId) (x y : Operand) (hop : o.op = .store ty x y) (g k : Nat) (v : Value) (hx : a.eval x = .pointer (some ⟨g, k, none⟩)) (hy : a.eval y = v) (t : TypeId) (cs : Array Value) (hR : RowIs w g t cs) (hk : k < cs.size) (hi : (P.info? ty).map (·.size) = some 1) (hv : v.oneCell' = true)
    (h : ∀ w', RowIs w' g t (cs.setIfInBounds k v) → (∀ j, j ≠ g → w'.heap[j]? = w.heap[j]?) → w'.heap.size = w.heap.size → Below g w w' → S w' ∧ wpAnyH P md ops Q S fuel (listed.setIfInBounds i true) (a.put o.dst undef) w') : AllReadyH P md ops Q S fuel listed a w [i] :=
  AllReadyH.cons ho (fun K hK => by
    rw [if_pos hw]
    unfold Oper.wp execOp
    simp only [hop, hx, hy, Sem.run_bind, run_storeAt_cell hR hk hi hv, Result.andThen_ok, Sem.run_pure]
    have hold : ∀ j, j ≠ g → (w.setCell ⟨g, k, none⟩ v).heap[j]? = w.heap[j]? := fun j hj => Below.heap_setCell w _ v j hj
    have h' := h _ (heap_setCell_same w g k _ _ _ hR) hold (by simp [World.setCell]) ⟨rfl, rfl, rfl, by simp [World.setCell], fun j hj => hold j (by omega)⟩
    exact hK.out _ _ h'.1 (fun _ => h'.2)) AllReadyH.nil
theorem ar_part18 {i : Nat} {o : Oper} (ho : ops[i]? = some o) (hw : Region.wanted o (yielded ops a.tmps) = true) (ty : TypeId) (x y : Operand) (hop : o.op = .store ty x y) (g k : Nat) (cells : Array Value) (hx : a.eval x = .pointer (some ⟨g, k, none⟩)) (hy : a.eval y = .agg cells) (t : TypeId) (old : Array Value) (hR : RowIs w g t old) (hk : k + cells.size ≤ old.size)
    (hi : (P.info? ty).map (·.size) = some cells.size) (h1 : cells.all (·.oneCell') = true) (new : Array Value) (hnew : (putAt old.toList k cells.toList).toArray = new)
    (h : ∀ w', RowIs w' g t new → (∀ j, j ≠ g → w'.heap[j]? = w.heap[j]?) → w'.heap.size = w.heap.size → Below g w w' → S w' ∧ wpAnyH P md ops Q S fuel (listed.setIfInBounds i true) (a.put o.dst undef) w') : AllReadyH P md ops Q S fuel listed a w [i] :=
  AllReadyH.cons ho (fun K hK => by
    rw [if_pos hw]
    have ht : w.there g k cells.size := fun j hj => ⟨by rw [hR.cell]; simp; omega, hR.free _⟩
    obtain ⟨a1, a2, a3, a4, a5, a6⟩ := setCells_heap (g := g) (t := t) cells.toList k w old hR (by simpa using hk)
    rw [hnew] at a1
    have h' := h _ a1 a2 a3 ⟨a4, a5, a6, Nat.le_of_eq a3.symm, fun j hj => a2 j (by omega)⟩
    exact wp_store_mid ty x y hop g k cells hx hy ht hi h1 (hK.out _ _ h'.1 (fun _ => h'.2))) AllReadyH.nil
end
theorem vecsA_put {bs : List SV} {i : Nat} (h : i < bs.length) (x : SV) : (putAt (vecsA bs).toList (i * 18) x.vals).toArray = vecsA (bs.set i x) := by
  unfold vecsA putAt
  congr 1
  simp only
  induction bs generalizing i with
  | nil => cases h
  | cons b bs ih =>
    cases i with
    | zero => simp [SV.vals]
    | succ i =>
      have ih := ih (i := i) (by simpa using h)
      have e : (i + 1) * 18 = 18 + i * 18 := by omega
      rw [List.set_cons_succ, List.flatMap_cons, List.flatMap_cons, ← ih, e]
      have hl : b.vals.length = 18 := rfl
      rw [List.take_append, hl, List.take_of_length_le (by rw [hl]; omega), show 18 + i * 18 - 18 = i * 18 by omega, Nat.add_assoc, List.drop_append, hl, List.drop_of_length_le (by rw [hl]; omega), show 18 + (i * 18 + x.vals.length) - 18 = i * 18 + x.vals.length by omega]
      simp
theorem vecsA_size (bs : List SV) : (vecsA bs).size = 18 * bs.length := by
  unfold vecsA
  induction bs with
  | nil => rfl
  | cons b bs ih =>
    simp only [List.size_toArray] at *
    rw [List.flatMap_cons, List.length_append, ih, show b.vals.length = 18 from rfl, List.length_cons]
    omega

set_option maxRecDepth 20000 in
set_option maxHeartbeats 1500000 in
theorem portsC (v : NV) (N : LN) (w : World) (S0 RO gr DO gd OO gq BO gb : Nat) (R : List Nat) (D q : List Int) (bs : List SV) (h : NetAt w v N) (hb : RowIs w S0 32 #[.slice v.ai N.ids.length v.ci, .slice v.ac N.costs.length v.cc, .slice v.al N.links.length v.cl])
    (hR : ArrAt w RO gr (natI R)) (hD : ArrAt w DO gd D) (hQ : ArrAt w OO gq q) (hBv : RowIs w BO 71 #[.slice (some ⟨gb, 0, none⟩) q.length q.length]) (hBa : RowIs w gb 73 (vecsA bs))
    (hRl : R.length = N.ids.length) (hDl : D.length = N.ids.length) (hql : q.length = N.ids.length) (hbl : bs.length = N.ids.length) (hRr : ∀ k ∈ R, k < N.ids.length)
    (hDb : ∀ x ∈ D, 0 ≤ x ∧ x ≤ 1099511627776) (i j qq : Nat) (p : Int) (hi : i < N.ids.length) (hj : j < N.ids.length) (hj2 : j < N.costs.length) (hq : qq < (N.cs j).length) (hc : 1 ≤ (N.cs j).getD qq 0 ∧ (N.cs j).getD qq 0 ≤ 65535)
    (hp : 0 ≤ p ∧ p ≤ 1000000) (d : Lk) (hd : d = ⟨i, p, j, qq⟩) (hne : 0 ≤ q.getD j 0 → hearV N R D d ≠ bs.getD j .zero) :
    Calls Try.prog 32 #[endV d.a d.p, endV d.b d.q, .pointer (some ⟨RO, 0, none⟩), .pointer (some ⟨S0, 0, none⟩), .pointer (some ⟨DO, 0, none⟩), .pointer (some ⟨OO, 0, none⟩), .pointer (some ⟨BO, 0, none⟩)] w
      fun e w' => e = .returned (.tuple #[]) ∧ ArrAt w' OO gq (stP N R D (q, bs) d).1 ∧ RowIs w' BO 71 #[.slice (some ⟨gb, 0, none⟩) q.length q.length] ∧ RowIs w' gb 73 (vecsA (stP N R D (q, bs) d).2) ∧ Only [gq, gb] w w' ∧ Below 0 w w' := by
  subst hd
  have HN := Lib.hid h
  have HB := Lib.hid hb
  have HR := Lib.hid hR
  have HD := Lib.hid hD
  have HQ := Lib.hid hQ
  have HBV := Lib.hid hBv
  have HBA := Lib.hid hBa
  have HST : Hid (stP N R D (q, bs) ⟨i, p, j, qq⟩ = if R.getD j 0 = j then (q, bs) else if q.getD j 0 < 0 ∨ (hearV N R D ⟨i, p, j, qq⟩).better (bs.getD j .zero) = true then (q.set j qq, bs.set j (hearV N R D ⟨i, p, j, qq⟩)) else (q, bs)) := rfl
  have HHV : Hid (hearV N R D ⟨i, p, j, qq⟩ = ⟨N.id (R.getD j 0), D.getD i 0 + (N.cs j).getD qq 0, N.id i, p + 1⟩) := rfl
  have HNE := Lib.hid hne
  have hrj := hRr (R.getD j 0) (by rw [List.getD, List.getElem?_eq_getElem (by omega : j < R.length)]; exact List.getElem_mem _)
  have hdi := hDb (D.getD i 0) (getD_mem18 (by omega))
  obtain ⟨b, off, eai, hbl1, hrgi⟩ := h.idr hi
  obtain ⟨b', off', eai', hbl', hrgj⟩ := h.idr hrj
  rw [eai] at eai'
  simp only [Option.some.injEq, Addr.mk.injEq, and_true] at eai'
  obtain ⟨rfl, rfl⟩ := eai'
  obtain ⟨cb, coff, ca, cci, eac, hcc, hci⟩ := h.cs hj2
  obtain ⟨b2, off2, e2, hcq⟩ := ints_cell hci hq
  subst e2
  have kr := hR.cell (i := j) (by rw [natI_len]; omega)
  rw [natI_get (by omega)] at kr
  have kd := hD.cell (i := i) (by omega)
  have kq := hQ.cell (i := j) (by omega)
  have hq0 : w.cell? ⟨S0, 0, none⟩ = some (.slice (some ⟨b, off, none⟩) N.ids.length v.ci) := by rw [← eai]; exact hb.cell 0
  have hq1 : w.cell? ⟨S0, 1, none⟩ = some (.slice (some ⟨cb, coff, none⟩) N.costs.length v.cc) := by rw [← eac]; exact hb.cell 1
  have hro : w.cell? ⟨RO, 0, none⟩ = some (.slice (some ⟨gr, 0, none⟩) N.ids.length N.ids.length) := by
    have := hR.ov.cell 0
    rw [natI_len, hRl] at this
    exact this
  have hdo : w.cell? ⟨DO, 0, none⟩ = some (.slice (some ⟨gd, 0, none⟩) N.ids.length N.ids.length) := by
    have := hD.ov.cell 0
    rw [hDl] at this
    exact this
  have hoo : w.cell? ⟨OO, 0, none⟩ = some (.slice (some ⟨gq, 0, none⟩) q.length q.length) := hQ.ov.cell 0
  have hbo : w.cell? ⟨BO, 0, none⟩ = some (.slice (some ⟨gb, 0, none⟩) q.length q.length) := hBv.cell 0
  have HBR := Lib.hid (vecsA_range (i := j) (by omega) hBa)
  have hgbl := hBa.lt
  have hgql := hQ.arr.lt
  have hqb : gq ≠ gb := rowIs_ne hQ.arr hBa (by decide)
  have hqo : OO ≠ gq := rowIs_ne hQ.ov hQ.arr (by decide)
  have hob : OO ≠ gb := rowIs_ne hQ.ov hBa (by decide)
  have hBq : BO ≠ gq := rowIs_ne hBv hQ.arr (by decide)
  have hBb : BO ≠ gb := rowIs_ne hBv hBa (by decide)
  have hjq : j < q.length := by omega
  have hjb : j < bs.length := by omega
  have HQL := Lib.hid hql
  have HRG := Lib.hid hrgi
  have HRJ := Lib.hid hrgj
  generalize hX : hearV N R D ⟨i, p, j, qq⟩ = X at *
  generalize R.getD j 0 = x at *
  generalize D.getD i 0 = y at *
  generalize hwas : q.getD j 0 = was at *
  have HWAS := Lib.hid hwas
  clear hwas
  generalize bs.getD j .zero = old at *
  generalize (N.cs j).getD qq 0 = c at *
  generalize (N.cs j).length = cl at *
  generalize N.id x = ir at *
  generalize N.id i = ii at *
  have hjq' : (j : Int) < (q.length : Int) := by omega
  have hb18 : 18 * bs.length = 18 * bs.length := rfl
  clear hX h hb hR hD hQ hBv hBa hne hRr hDb hrgi hrgj hci eai eac hRl hDl hql hbl hb18
  go_enter Try.func32, Try.ntmps32
  go_upto_region 1 with fail
  generalize hW : (w.alloc _).alloc _ = w1
  have hbW : Below w.heap.size w w1 := by rw [← hW]; exact ((Below.refl _ _).alloc (Nat.le_refl _) _).alloc (by simp) _
  have RF : Hid (RowIs w1 w.heap.size 63 #[.int .i64 i, .int .i64 p]) := by subst hW; exact (rowIs_new w _ _).alloc _
  have RT : Hid (RowIs w1 (w.heap.size + 1) 63 #[.int .i64 j, .int .i64 qq]) := by subst hW; exact rowIs_new1 w _ _ _
  have hs1 : w.heap.size + 1 < w1.heap.size := RT.out.lt
  clear hW
  have HQ := Lib.hid (HQ.out.kept hbW)
  have HBV := Lib.hid (HBV.out.kept hbW)
  have HBA := Lib.hid (HBA.out.kept hbW)
  have HRG := Lib.hid (range_later HRG.out hbl1 hbW)
  have HRJ := Lib.hid (range_later HRJ.out hbl1 hbW)
  have HBR := Lib.hid (range_later HBR.out hgbl hbW)
  have hbl2 : b < w1.heap.size := Nat.lt_of_lt_of_le hbl1 hbW.size
  have hgbl2 : gb < w1.heap.size := Nat.lt_of_lt_of_le hgbl hbW.size
  have f1 := (hbW.cell (p := ⟨S0, 0, none⟩) (block_lt_of_cell hq0)).trans hq0
  have f2 := (hbW.cell (p := ⟨S0, 1, none⟩) (block_lt_of_cell hq1)).trans hq1
  have f3 := (hbW.cell (p := ⟨RO, 0, none⟩) (block_lt_of_cell hro)).trans hro
  have f4 := (hbW.cell (p := ⟨DO, 0, none⟩) (block_lt_of_cell hdo)).trans hdo
  have f5 := (hbW.cell (p := ⟨gr, j, none⟩) (block_lt_of_cell kr)).trans kr
  have f6 := (hbW.cell (p := ⟨gd, i, none⟩) (block_lt_of_cell kd)).trans kd
  have f7 := (hbW.cell (p := ⟨gq, j, none⟩) (block_lt_of_cell kq)).trans kq
  have f8 := (hbW.cell (p := ⟨cb, coff + j, none⟩) (block_lt_of_cell hcc)).trans hcc
  have f9 := (hbW.cell (p := ⟨b2, off2 + qq, none⟩) (block_lt_of_cell hcq)).trans hcq
  have f10 := (hbW.cell (p := ⟨OO, 0, none⟩) (block_lt_of_cell hoo)).trans hoo
  have f11 := (hbW.cell (p := ⟨BO, 0, none⟩) (block_lt_of_cell hbo)).trans hbo
  have g1 : w1.cell? ⟨w.heap.size, 0, none⟩ = some (.int .i64 i) := RF.out.cell 0
  have g2 : w1.cell? ⟨w.heap.size, 1, none⟩ = some (.int .i64 p) := RF.out.cell 1
  have g3 : w1.cell? ⟨w.heap.size + 1, 0, none⟩ = some (.int .i64 j) := RT.out.cell 0
  have g4 : w1.cell? ⟨w.heap.size + 1, 1, none⟩ = some (.int .i64 qq) := RT.out.cell 1
  clear hq0 hq1 hro hdo hoo hbo kr kd kq hcc hcq
  have hx0 : (0 : Int) ≤ (i : Int) := by omega
  have hx1 : (i : Int) < (N.ids.length : Int) := by omega
  have hx2 : (0 : Int) ≤ (j : Int) := by omega
  have hx3 : (j : Int) < (N.ids.length : Int) := by omega
  have hx4 : (0 : Int) ≤ (qq : Int) := by omega
  have hx5 : (qq : Int) < (cl : Int) := by omega
  have hx6 : (j : Int) < (N.costs.length : Int) := by omega
  have hx7 : (0 : Int) ≤ (x : Int) := by omega
  have hx8 : (x : Int) < (N.ids.length : Int) := by omega
  have hx9 : (j : Int) < (q.length : Int) := hjq'
  have hn0 : ((N.ids.length : Int) == 0) = false := by rw [beq_eq_false_iff_ne]; omega
  cases hxj : ((x : Int) == (j : Int))
  · have hne : x ≠ j := by rw [beq_eq_false_iff_ne] at hxj; omega
    rw [if_neg hne] at HST
    clear hne
    go_quiet (fail)
    clear hxj hn0
    have hbq : Below w1.heap.size w1 (w1.drewN nq) := below_drewN (Below.refl _ _) _
    have HQ := Lib.hid (HQ.out.kept hbq)
    have HBV := Lib.hid (HBV.out.kept hbq)
    have HBA := Lib.hid (HBA.out.kept hbq)
    have HRG := Lib.hid (range_later HRG.out hbl2 hbq)
    have HRJ := Lib.hid (range_later HRJ.out hbl2 hbq)
    have HBR := Lib.hid (range_later HBR.out hgbl2 hbq)
    have RT := Lib.hid (RT.out.kept hbq)
    have hbl2 := Nat.lt_of_lt_of_le hbl2 hbq.size
    have hgbl2 := Nat.lt_of_lt_of_le hgbl2 hbq.size
    have k1 := cell_regrown ((hbq.cell (p := ⟨S0, 0, none⟩) (block_lt_of_cell f1)).trans f1)
    have k2 := cell_regrown ((hbq.cell (p := ⟨S0, 1, none⟩) (block_lt_of_cell f2)).trans f2)
    have k3 := cell_regrown ((hbq.cell (p := ⟨RO, 0, none⟩) (block_lt_of_cell f3)).trans f3)
    have k4 := cell_regrown ((hbq.cell (p := ⟨DO, 0, none⟩) (block_lt_of_cell f4)).trans f4)
    have k5 := cell_regrown ((hbq.cell (p := ⟨gr, j, none⟩) (block_lt_of_cell f5)).trans f5)
    have k6 := cell_regrown ((hbq.cell (p := ⟨gd, i, none⟩) (block_lt_of_cell f6)).trans f6)
    have k8 := cell_regrown ((hbq.cell (p := ⟨cb, coff + j, none⟩) (block_lt_of_cell f8)).trans f8)
    have k9 := cell_regrown ((hbq.cell (p := ⟨b2, off2 + qq, none⟩) (block_lt_of_cell f9)).trans f9)
    have n1 := cell_regrown ((hbq.cell (p := ⟨w.heap.size, 0, none⟩) (block_lt_of_cell g1)).trans g1)
    have n2 := cell_regrown ((hbq.cell (p := ⟨w.heap.size, 1, none⟩) (block_lt_of_cell g2)).trans g2)
    have n3 := cell_regrown ((hbq.cell (p := ⟨w.heap.size + 1, 0, none⟩) (block_lt_of_cell g3)).trans g3)
    have n4 := cell_regrown ((hbq.cell (p := ⟨w.heap.size + 1, 1, none⟩) (block_lt_of_cell g4)).trans g4)
    have hbW2 := hbW.trans (hbq.mono hbW.size)
    clear f1 f2 f3 f4 f5 f6 f7 f8 f9 f10 f11 g1 g2 g3 g4 RF
    have hs2 : w.heap.size + 1 < (w1.drewN nq).heap.size := Nat.lt_of_lt_of_le hs1 hbq.size
    clear hbW hs1 hbq
    generalize w1.drewN nq = w2 at *
    have hwr1 : IntKind.i64.wrap (p + 1) = p + 1 := by rw [IntKind.wrap_i64]; omega
    have hwr2 : IntKind.i64.wrap (y + c) = y + c := by rw [IntKind.wrap_i64]; omega
    go_upto_region 2 with fail
    refine wp_region_mix 36 (by kernel_rfl) (by kernel_rfl) (by kernel_rfl) ?_
    (refine mix_step (by kernel_rfl) (by kernel_rfl) (fun K hK => ?_); go_simp; (try (simp only [↓IntWalk.iteOmega]; go_simp)); (first | (refine hK _ ?_; clear hK K) | (apply Exists.intro; refine ⟨fun _ => ?_, hK _ ?_⟩; (first | fail); clear hK K)))
    (refine mix_step (by kernel_rfl) (by kernel_rfl) (fun K hK => ?_); go_simp; (try (simp only [↓IntWalk.iteOmega]; go_simp)); (first | (refine hK _ ?_; clear hK K) | (apply Exists.intro; refine ⟨fun _ => ?_, hK _ ?_⟩; (first | fail); clear hK K)))
    (refine mix_step (by kernel_rfl) (by kernel_rfl) (fun K hK => ?_); go_simp; (try (simp only [↓IntWalk.iteOmega]; go_simp)); (first | (refine hK _ ?_; clear hK K) | (apply Exists.intro; refine ⟨fun _ => ?_, hK _ ?_⟩; (first | fail); clear hK K)))
    (refine mix_step (by kernel_rfl) (by kernel_rfl) (fun K hK => ?_); go_simp; (try (simp only [↓IntWalk.iteOmega]; go_simp)); (first | (refine hK _ ?_; clear hK K) | (apply Exists.intro; refine ⟨fun _ => ?_, hK _ ?_⟩; (first | fail); clear hK K)))
    (refine mix_step (by kernel_rfl) (by kernel_rfl) (fun K hK => ?_); go_simp; (try (simp only [↓IntWalk.iteOmega]; go_simp)); (first | (refine hK _ ?_; clear hK K) | (apply Exists.intro; refine ⟨fun _ => ?_, hK _ ?_⟩; (first | fail); clear hK K)))
    (refine mix_step (by kernel_rfl) (by kernel_rfl) (fun K hK => ?_); go_simp; (try (simp only [↓IntWalk.iteOmega]; go_simp)); (first | (refine hK _ ?_; clear hK K) | (apply Exists.intro; refine ⟨fun _ => ?_, hK _ ?_⟩; (first | fail); clear hK K)))
    (refine mix_step (by kernel_rfl) (by kernel_rfl) (fun K hK => ?_); go_simp; (try (simp only [↓IntWalk.iteOmega]; go_simp)); (first | (refine hK _ ?_; clear hK K) | (apply Exists.intro; refine ⟨fun _ => ?_, hK _ ?_⟩; (first | fail); clear hK K)))
    (refine mix_step (by kernel_rfl) (by kernel_rfl) (fun K hK => ?_); go_simp; (try (simp only [↓IntWalk.iteOmega]; go_simp)); (first | (refine hK _ ?_; clear hK K) | (apply Exists.intro; refine ⟨fun _ => ?_, hK _ ?_⟩; (first | fail); clear hK K)))
    refine mix_exact (.agg #[.int .u8 ((ir.f 0).toNat : Int), .int .u8 ((ir.f 1).toNat : Int), .int .u8 ((ir.f 2).toNat : Int), .int .u8 ((ir.f 3).toNat : Int), .int .u8 ((ir.f 4).toNat : Int), .int .u8 ((ir.f 5).toNat : Int), .int .u8 ((ir.f 6).toNat : Int), .int .u8 ((ir.f 7).toNat : Int)]) rfl (exact_load_range (sub := Id8.vals ir) rfl rfl (by simp) HRJ.out hbl2 Try.underlying61 rfl (by kernel_rfl)) ?_
    (refine mix_step (by kernel_rfl) (by kernel_rfl) (fun K hK => ?_); go_simp; (try (simp only [↓IntWalk.iteOmega]; go_simp)); (first | (refine hK _ ?_; clear hK K) | (apply Exists.intro; refine ⟨fun _ => ?_, hK _ ?_⟩; (first | fail); clear hK K)))
    (refine mix_step (by kernel_rfl) (by kernel_rfl) (fun K hK => ?_); go_simp; (try (simp only [↓IntWalk.iteOmega]; go_simp)); (first | (refine hK _ ?_; clear hK K) | (apply Exists.intro; refine ⟨fun _ => ?_, hK _ ?_⟩; (first | fail); clear hK K)))
    (refine mix_step (by kernel_rfl) (by kernel_rfl) (fun K hK => ?_); go_simp; (try (simp only [↓IntWalk.iteOmega]; go_simp)); (first | (refine hK _ ?_; clear hK K) | (apply Exists.intro; refine ⟨fun _ => ?_, hK _ ?_⟩; (first | fail); clear hK K)))
    (refine mix_step (by kernel_rfl) (by kernel_rfl) (fun K hK => ?_); go_simp; (try (simp only [↓IntWalk.iteOmega]; go_simp)); (first | (refine hK _ ?_; clear hK K) | (apply Exists.intro; refine ⟨fun _ => ?_, hK _ ?_⟩; (first | fail); clear hK K)))
    (refine mix_step (by kernel_rfl) (by kernel_rfl) (fun K hK => ?_); go_simp; (try (simp only [↓IntWalk.iteOmega]; go_simp)); (first | (refine hK _ ?_; clear hK K) | (apply Exists.intro; refine ⟨fun _ => ?_, hK _ ?_⟩; (first | fail); clear hK K)))
    (refine mix_step (by kernel_rfl) (by kernel_rfl) (fun K hK => ?_); go_simp; (try (simp only [↓IntWalk.iteOmega]; go_simp)); (first | (refine hK _ ?_; clear hK K) | (apply Exists.intro; refine ⟨fun _ => ?_, hK _ ?_⟩; (first | fail); clear hK K)))
    (refine mix_step (by kernel_rfl) (by kernel_rfl) (fun K hK => ?_); go_simp; (try (simp only [↓IntWalk.iteOmega]; go_simp)); (first | (refine hK _ ?_; clear hK K) | (apply Exists.intro; refine ⟨fun _ => ?_, hK _ ?_⟩; (first | fail); clear hK K)))
    (refine mix_step (by kernel_rfl) (by kernel_rfl) (fun K hK => ?_); go_simp; (try (simp only [↓IntWalk.iteOmega]; go_simp)); (first | (refine hK _ ?_; clear hK K) | (apply Exists.intro; refine ⟨fun _ => ?_, hK _ ?_⟩; (first | fail); clear hK K)))
    (refine mix_step (by kernel_rfl) (by kernel_rfl) (fun K hK => ?_); go_simp; (try (simp only [↓IntWalk.iteOmega]; go_simp)); (first | (refine hK _ ?_; clear hK K) | (apply Exists.intro; refine ⟨fun _ => ?_, hK _ ?_⟩; (first | fail); clear hK K)))
    (refine mix_step (by kernel_rfl) (by kernel_rfl) (fun K hK => ?_); go_simp; (try (simp only [↓IntWalk.iteOmega]; go_simp)); (first | (refine hK _ ?_; clear hK K) | (apply Exists.intro; refine ⟨fun _ => ?_, hK _ ?_⟩; (first | fail); clear hK K)))
    (refine mix_step (by kernel_rfl) (by kernel_rfl) (fun K hK => ?_); go_simp; (try (simp only [↓IntWalk.iteOmega]; go_simp)); (first | (refine hK _ ?_; clear hK K) | (apply Exists.intro; refine ⟨fun _ => ?_, hK _ ?_⟩; (first | fail); clear hK K)))
    (refine mix_step (by kernel_rfl) (by kernel_rfl) (fun K hK => ?_); go_simp; (try (simp only [↓IntWalk.iteOmega]; go_simp)); (first | (refine hK _ ?_; clear hK K) | (apply Exists.intro; refine ⟨fun _ => ?_, hK _ ?_⟩; (first | fail); clear hK K)))
    (refine mix_step (by kernel_rfl) (by kernel_rfl) (fun K hK => ?_); go_simp; (try (simp only [↓IntWalk.iteOmega]; go_simp)); (first | (refine hK _ ?_; clear hK K) | (apply Exists.intro; refine ⟨fun _ => ?_, hK _ ?_⟩; (first | fail); clear hK K)))
    (refine mix_step (by kernel_rfl) (by kernel_rfl) (fun K hK => ?_); go_simp; (try (simp only [↓IntWalk.iteOmega]; go_simp)); (first | (refine hK _ ?_; clear hK K) | (apply Exists.intro; refine ⟨fun _ => ?_, hK _ ?_⟩; (first | fail); clear hK K)))
    (refine mix_step (by kernel_rfl) (by kernel_rfl) (fun K hK => ?_); go_simp; (try (simp only [↓IntWalk.iteOmega]; go_simp)); (first | (refine hK _ ?_; clear hK K) | (apply Exists.intro; refine ⟨fun _ => ?_, hK _ ?_⟩; (first | fail); clear hK K)))
    (refine mix_step (by kernel_rfl) (by kernel_rfl) (fun K hK => ?_); go_simp; (try (simp only [↓IntWalk.iteOmega]; go_simp)); (first | (refine hK _ ?_; clear hK K) | (apply Exists.intro; refine ⟨fun _ => ?_, hK _ ?_⟩; (first | fail); clear hK K)))
    (refine mix_step (by kernel_rfl) (by kernel_rfl) (fun K hK => ?_); go_simp; (try (simp only [↓IntWalk.iteOmega]; go_simp)); (first | (refine hK _ ?_; clear hK K) | (apply Exists.intro; refine ⟨fun _ => ?_, hK _ ?_⟩; (first | fail); clear hK K)))
    (refine mix_step (by kernel_rfl) (by kernel_rfl) (fun K hK => ?_); go_simp; (try (simp only [↓IntWalk.iteOmega]; go_simp)); (first | (refine hK _ ?_; clear hK K) | (apply Exists.intro; refine ⟨fun _ => ?_, hK _ ?_⟩; (first | fail); clear hK K)))
    (refine mix_step (by kernel_rfl) (by kernel_rfl) (fun K hK => ?_); go_simp; (try (simp only [↓IntWalk.iteOmega]; go_simp)); (first | (refine hK _ ?_; clear hK K) | (apply Exists.intro; refine ⟨fun _ => ?_, hK _ ?_⟩; (first | fail); clear hK K)))
    (refine mix_step (by kernel_rfl) (by kernel_rfl) (fun K hK => ?_); go_simp; (try (simp only [↓IntWalk.iteOmega]; go_simp)); (first | (refine hK _ ?_; clear hK K) | (apply Exists.intro; refine ⟨fun _ => ?_, hK _ ?_⟩; (first | fail); clear hK K)))
    (refine mix_step (by kernel_rfl) (by kernel_rfl) (fun K hK => ?_); go_simp; (try (simp only [↓IntWalk.iteOmega]; go_simp)); (first | (refine hK _ ?_; clear hK K) | (apply Exists.intro; refine ⟨fun _ => ?_, hK _ ?_⟩; (first | fail); clear hK K)))
    refine mix_exact (.agg #[.int .u8 ((ii.f 0).toNat : Int), .int .u8 ((ii.f 1).toNat : Int), .int .u8 ((ii.f 2).toNat : Int), .int .u8 ((ii.f 3).toNat : Int), .int .u8 ((ii.f 4).toNat : Int), .int .u8 ((ii.f 5).toNat : Int), .int .u8 ((ii.f 6).toNat : Int), .int .u8 ((ii.f 7).toNat : Int)]) rfl (exact_load_range (sub := Id8.vals ii) rfl rfl (by simp) HRG.out hbl2 Try.underlying61 rfl (by kernel_rfl)) ?_
    (refine mix_step (by kernel_rfl) (by kernel_rfl) (fun K hK => ?_); go_simp; (try (simp only [↓IntWalk.iteOmega]; go_simp)); (first | (refine hK _ ?_; clear hK K) | (apply Exists.intro; refine ⟨fun _ => ?_, hK _ ?_⟩; (first | fail); clear hK K)))
    (refine mix_step (by kernel_rfl) (by kernel_rfl) (fun K hK => ?_); go_simp; (try (simp only [↓IntWalk.iteOmega]; go_simp)); (first | (refine hK _ ?_; clear hK K) | (apply Exists.intro; refine ⟨fun _ => ?_, hK _ ?_⟩; (first | fail); clear hK K)))
    (refine mix_step (by kernel_rfl) (by kernel_rfl) (fun K hK => ?_); go_simp; (try (simp only [↓IntWalk.iteOmega]; go_simp)); (first | (refine hK _ ?_; clear hK K) | (apply Exists.intro; refine ⟨fun _ => ?_, hK _ ?_⟩; (first | fail); clear hK K)))
    (refine mix_step (by kernel_rfl) (by kernel_rfl) (fun K hK => ?_); go_simp; (try (simp only [↓IntWalk.iteOmega]; go_simp)); (first | (refine hK _ ?_; clear hK K) | (apply Exists.intro; refine ⟨fun _ => ?_, hK _ ?_⟩; (first | fail); clear hK K)))
    refine mix_special _ 9 rfl rfl (stable_new _ _ _) (owes_alloc (cs := #[.int .u8 0, .int .u8 0, .int .u8 0, .int .u8 0, .int .u8 0, .int .u8 0, .int .u8 0, .int .u8 0, .int .i64 0, .int .u8 0, .int .u8 0, .int .u8 0, .int .u8 0, .int .u8 0, .int .u8 0, .int .u8 0, .int .u8 0, .int .i64 0]) rfl (by kernel_rfl)) ?_
    refine mix_nil ?_
    rintro ⟨dq, osq⟩
    have hb3 := below_regrown w2 dq osq
    rintro u9 ⟨b9, rfl, hB9, hR9⟩
    have HB9N : Hid (gq ≠ b9 ∧ OO ≠ b9 ∧ gb ≠ b9 ∧ BO ≠ b9) := by
      have a1 := HQ.out.arr.lt
      have a2 := HQ.out.ov.lt
      have a3 := HBA.out.lt
      have a4 := HBV.out.lt
      exact ⟨by omega, by omega, by omega, by omega⟩
    have HR9 := Lib.hid hR9
    clear hR9 k1 k2 k3 k4 k5 k6 k8 k9 n1 n2 n3 n4 hwr1 hwr2
    refine (show wpList _ _ _ _ _ _ from ?_)
    simp only [List.drop, Act.put, List.setIfInBounds_toArray, List.set]
    have HQ := Lib.hid (HQ.out.kept hb3)
    have HBV := Lib.hid (HBV.out.kept hb3)
    have HBA := Lib.hid (HBA.out.kept hb3)
    have HBR := Lib.hid (range_later HBR.out hgbl2 hb3)
    have RT := Lib.hid (RT.out.kept hb3)
    have hbW := hbW2.trans (hb3.mono hbW2.size)
    have hgbl2 := Nat.lt_of_lt_of_le hgbl2 hb3.size
    have hB9' : w.heap.size + 1 < b9 := by omega
    clear hbW2 hb3 HRG HRJ hbl2
    generalize grow (redrawn w2 dq) osq = w3 at *
    go_wp2_with ((with_reducible refine at_store 73 (.tmp 9) (.tmp 58) ?_); refine wpList_store_own rfl 73 (.tmp 9) (.tmp 58) rfl b9 _ rfl rfl _ _ HR9.out (by kernel_rfl) rfl (by simp [Value.oneCell']) w2.heap.size hB9 ?_)
    intro w4 hR4 ho4 hs4 hb4
    have HV : Hid (RowIs w4 b9 73 #[.int .u8 ((ir.f 0).toNat : Int), .int .u8 ((ir.f 1).toNat : Int), .int .u8 ((ir.f 2).toNat : Int), .int .u8 ((ir.f 3).toNat : Int), .int .u8 ((ir.f 4).toNat : Int), .int .u8 ((ir.f 5).toNat : Int), .int .u8 ((ir.f 6).toNat : Int), .int .u8 ((ir.f 7).toNat : Int), .int .i64 (y + c), .int .u8 ((ii.f 0).toNat : Int), .int .u8 ((ii.f 1).toNat : Int), .int .u8 ((ii.f 2).toNat : Int), .int .u8 ((ii.f 3).toNat : Int), .int .u8 ((ii.f 4).toNat : Int), .int .u8 ((ii.f 5).toNat : Int), .int .u8 ((ii.f 6).toNat : Int), .int .u8 ((ii.f 7).toNat : Int), .int .i64 (p + 1)]) := hR4
    have HQB : Hid (gq ≠ b9 ∧ OO ≠ b9 ∧ gb ≠ b9 ∧ BO ≠ b9) := HB9N
    have HQ := Lib.hid (show ArrAt w4 OO gq q from ⟨rowIs_same HQ.out.ov (ho4 _ HQB.out.2.1), rowIs_same HQ.out.arr (ho4 _ HQB.out.1)⟩)
    have HBV := Lib.hid (rowIs_same HBV.out (ho4 _ HQB.out.2.2.2))
    have HBA := Lib.hid (rowIs_same HBA.out (ho4 _ HQB.out.2.2.1))
    have RT := Lib.hid (rowIs_same RT.out (ho4 _ (by omega)))
    have HBR : Hid (w4.rangeAt gb (j * 18) old.vals) := fun m z hz => by
      have h := HBR.out m z hz
      rw [← h]
      simp only [World.cell?, ho4 gb HQB.out.2.2.1]
    have hbW := hbW.trans (hb4.mono (by omega))
    have hgbl4 : gb < w4.heap.size := by omega
    clear hR4 ho4 hs4 hb4 HR9
    have f1 : w4.cell? ⟨OO, 0, none⟩ = some (.slice (some ⟨gq, 0, none⟩) q.length q.length) := HQ.out.ov.cell 0
    have f2 : w4.cell? ⟨w.heap.size + 1, 0, none⟩ = some (.int .i64 j) := RT.out.cell 0
    have f3 : w4.cell? ⟨gq, j, none⟩ = some (.int .i64 was) := by
      rw [HQ.out.arr.cell, intsA_get hjq, HWAS.out]
    go_upto_region 4 with fail
    clear f1 f2 f3
    by_cases hws : was < 0
    · have d1 : decide (was < 0) = true := decide_eq_true hws
      go_quiet (fail)
      have hbq : Below w4.heap.size w4 (w4.drewN nq) := below_drewN (Below.refl _ _) _
      have HQ := Lib.hid (HQ.out.kept hbq)
      have HBV := Lib.hid (HBV.out.kept hbq)
      have HBA := Lib.hid (HBA.out.kept hbq)
      have RT := Lib.hid (RT.out.kept hbq)
      have HV := Lib.hid (HV.out.kept hbq)
      have hbW := hbW.trans (hbq.mono hbW.size)
      clear hbq d1
      generalize w4.drewN nq = w5 at *
      rw [if_pos (.inl hws)] at HST
      go_upto_region 5 with fail
      -- REGION5
      have hbd : Below w5.heap.size w5 w5.drew := (Below.refl _ _).drew
      have HOO := Lib.hid ((HQ.out.kept hbd).ov)
      have HQA := Lib.hid ((HQ.out.kept hbd).arr)
      have HBV := Lib.hid (HBV.out.kept hbd)
      have HBA := Lib.hid (HBA.out.kept hbd)
      have HVX := Lib.hid (HV.out.kept hbd)
      have HRT := Lib.hid (RT.out.kept hbd)
      have hbWd := hbW.trans (hbd.mono hbW.size)
      clear HQ HV RT hbd
      refine wp_region_held (S := fun w' => w'.cell? ⟨OO, 0, none⟩ = some (.slice (some ⟨gq, 0, none⟩) q.length q.length) ∧ w'.cell? ⟨w.heap.size + 1, 0, none⟩ = some (.int .i64 j) ∧ w'.cell? ⟨w.heap.size + 1, 1, none⟩ = some (.int .i64 qq) ∧ w'.cell? ⟨BO, 0, none⟩ = some (.slice (some ⟨gb, 0, none⟩) q.length q.length) ∧ w'.rangeAt b9 0 [.int .u8 ((ir.f 0).toNat : Int), .int .u8 ((ir.f 1).toNat : Int), .int .u8 ((ir.f 2).toNat : Int), .int .u8 ((ir.f 3).toNat : Int), .int .u8 ((ir.f 4).toNat : Int), .int .u8 ((ir.f 5).toNat : Int), .int .u8 ((ir.f 6).toNat : Int), .int .u8 ((ir.f 7).toNat : Int), .int .i64 (y + c), .int .u8 ((ii.f 0).toNat : Int), .int .u8 ((ii.f 1).toNat : Int), .int .u8 ((ii.f 2).toNat : Int), .int .u8 ((ii.f 3).toNat : Int), .int .u8 ((ii.f 4).toNat : Int), .int .u8 ((ii.f 5).toNat : Int), .int .u8 ((ii.f 6).toNat : Int), .int .u8 ((ii.f 7).toNat : Int), .int .i64 (p + 1)]) (by kernel_rfl) ?_
      change wpAnyH _ _ _ _ _ _ _ _ w5.drew
      generalize w5.drew = wd at *
      have RD : (fun w' => w'.cell? ⟨OO, 0, none⟩ = some (.slice (some ⟨gq, 0, none⟩) q.length q.length) ∧ w'.cell? ⟨w.heap.size + 1, 0, none⟩ = some (.int .i64 j) ∧ w'.cell? ⟨w.heap.size + 1, 1, none⟩ = some (.int .i64 qq) ∧ w'.cell? ⟨BO, 0, none⟩ = some (.slice (some ⟨gb, 0, none⟩) q.length q.length) ∧ w'.rangeAt b9 0 [.int .u8 ((ir.f 0).toNat : Int), .int .u8 ((ir.f 1).toNat : Int), .int .u8 ((ir.f 2).toNat : Int), .int .u8 ((ir.f 3).toNat : Int), .int .u8 ((ir.f 4).toNat : Int), .int .u8 ((ir.f 5).toNat : Int), .int .u8 ((ir.f 6).toNat : Int), .int .u8 ((ir.f 7).toNat : Int), .int .i64 (y + c), .int .u8 ((ii.f 0).toNat : Int), .int .u8 ((ii.f 1).toNat : Int), .int .u8 ((ii.f 2).toNat : Int), .int .u8 ((ii.f 3).toNat : Int), .int .u8 ((ii.f 4).toNat : Int), .int .u8 ((ii.f 5).toNat : Int), .int .u8 ((ii.f 6).toNat : Int), .int .u8 ((ii.f 7).toNat : Int), .int .i64 (p + 1)]) wd := ⟨HOO.out.cell 0, HRT.out.cell 0, HRT.out.cell 1, HBV.out.cell 0, range_of_row HVX.out rfl⟩
      refine wpAnyH_take (i := 0) (oi := { dst := some 90, op := Op.load 35 (Operand.tmp 5), type := 35, pos := "least.go:129", after := #[], guard := none }) (v := .slice (some ⟨gq, 0, none⟩) q.length q.length) rfl (by kernel_rfl) (by kernel_rfl) (by kernel_rfl) (fun _ _ _ h => h) (Or.inl ⟨by rfl, fun w' hS' => by have hk := hS'.1; clear hS'; go_simp⟩) RD ?_
      (try simp only [Act.put, List.setIfInBounds_toArray, List.set_cons_zero, List.set_cons_succ])
      refine wpAnyH_take (i := 1) (oi := { dst := some 91, op := Op.fieldAddr 63 (Operand.tmp 8) 0, type := 0, pos := "least.go:129", after := #[], guard := none }) (v := .pointer (some ⟨w.heap.size + 1, 0, none⟩)) rfl (by kernel_rfl) (by kernel_rfl) (by kernel_rfl) (fun _ _ _ h => h) (Or.inl ⟨by rfl, fun w' hS' => by clear hS'; go_simp⟩) RD ?_
      (try simp only [Act.put, List.setIfInBounds_toArray, List.set_cons_zero, List.set_cons_succ])
      refine wpAnyH_take (i := 2) (oi := { dst := some 92, op := Op.load 3 (Operand.tmp 91), type := 3, pos := "least.go:129", after := #[{ on := 1, ground := Ground.data }], guard := none }) (v := .int .i64 j) rfl (by kernel_rfl) (by kernel_rfl) (by kernel_rfl) (fun _ _ _ h => h) (Or.inl ⟨by rfl, fun w' hS' => by have hk := hS'.2.1; clear hS'; go_simp⟩) RD ?_
      (try simp only [Act.put, List.setIfInBounds_toArray, List.set_cons_zero, List.set_cons_succ])
      refine wpAnyH_take (i := 3) (oi := { dst := some 93, op := Op.load 71 (Operand.tmp 6), type := 71, pos := "least.go:129", after := #[], guard := none }) (v := .slice (some ⟨gb, 0, none⟩) q.length q.length) rfl (by kernel_rfl) (by kernel_rfl) (by kernel_rfl) (fun _ _ _ h => h) (Or.inl ⟨by rfl, fun w' hS' => by have hk := hS'.2.2.2.1; clear hS'; go_simp⟩) RD ?_
      (try simp only [Act.put, List.setIfInBounds_toArray, List.set_cons_zero, List.set_cons_succ])
      refine wpAnyH_take (i := 4) (oi := { dst := some 94, op := Op.fieldAddr 63 (Operand.tmp 8) 0, type := 0, pos := "least.go:129", after := #[{ on := 10, ground := Ground.gcOnly Departure.lateStores }], guard := none }) (v := .pointer (some ⟨w.heap.size + 1, 0, none⟩)) rfl (by kernel_rfl) (by kernel_rfl) (by kernel_rfl) (fun _ _ _ h => h) (Or.inl ⟨by rfl, fun w' hS' => by clear hS'; go_simp⟩) RD ?_
      (try simp only [Act.put, List.setIfInBounds_toArray, List.set_cons_zero, List.set_cons_succ])
      refine wpAnyH_take (i := 5) (oi := { dst := some 95, op := Op.load 3 (Operand.tmp 94), type := 3, pos := "least.go:129", after := #[{ on := 4, ground := Ground.data }, { on := 10, ground := Ground.gcOnly Departure.lateStores }], guard := none }) (v := .int .i64 j) rfl (by kernel_rfl) (by kernel_rfl) (by kernel_rfl) (fun _ _ _ h => h) (Or.inl ⟨by rfl, fun w' hS' => by have hk := hS'.2.1; clear hS'; go_simp⟩) RD ?_
      (try simp only [Act.put, List.setIfInBounds_toArray, List.set_cons_zero, List.set_cons_succ])
      refine wpAnyH_take (i := 6) (oi := { dst := some 96, op := Op.fieldAddr 63 (Operand.tmp 8) 1, type := 0, pos := "least.go:129", after := #[], guard := none }) (v := .pointer (some ⟨w.heap.size + 1, 1, none⟩)) rfl (by kernel_rfl) (by kernel_rfl) (by kernel_rfl) (fun _ _ _ h => h) (Or.inl ⟨by rfl, fun w' hS' => by clear hS'; go_simp⟩) RD ?_
      (try simp only [Act.put, List.setIfInBounds_toArray, List.set_cons_zero, List.set_cons_succ])
      refine wpAnyH_take (i := 7) (oi := { dst := some 97, op := Op.load 3 (Operand.tmp 96), type := 3, pos := "least.go:129", after := #[{ on := 6, ground := Ground.data }], guard := none }) (v := .int .i64 qq) rfl (by kernel_rfl) (by kernel_rfl) (by kernel_rfl) (fun _ _ _ h => h) (Or.inl ⟨by rfl, fun w' hS' => by have hk := hS'.2.2.1; clear hS'; go_simp⟩) RD ?_
      (try simp only [Act.put, List.setIfInBounds_toArray, List.set_cons_zero, List.set_cons_succ])
      refine wpAnyH_take (i := 8) (oi := { dst := some 98, op := Op.load 73 (Operand.tmp 9), type := 73, pos := "least.go:129", after := #[{ on := 10, ground := Ground.gcOnly Departure.lateStores }], guard := none }) (v := .agg #[.int .u8 ((ir.f 0).toNat : Int), .int .u8 ((ir.f 1).toNat : Int), .int .u8 ((ir.f 2).toNat : Int), .int .u8 ((ir.f 3).toNat : Int), .int .u8 ((ir.f 4).toNat : Int), .int .u8 ((ir.f 5).toNat : Int), .int .u8 ((ir.f 6).toNat : Int), .int .u8 ((ir.f 7).toNat : Int), .int .i64 (y + c), .int .u8 ((ii.f 0).toNat : Int), .int .u8 ((ii.f 1).toNat : Int), .int .u8 ((ii.f 2).toNat : Int), .int .u8 ((ii.f 3).toNat : Int), .int .u8 ((ii.f 4).toNat : Int), .int .u8 ((ii.f 5).toNat : Int), .int .u8 ((ii.f 6).toNat : Int), .int .u8 ((ii.f 7).toNat : Int), .int .i64 (p + 1)]) rfl (by kernel_rfl) (by kernel_rfl) (by kernel_rfl) (fun _ _ _ h => h) (yieldsIf_load_mid rfl _ _ rfl b9 0 rfl [.int .u8 ((ir.f 0).toNat : Int), .int .u8 ((ir.f 1).toNat : Int), .int .u8 ((ir.f 2).toNat : Int), .int .u8 ((ir.f 3).toNat : Int), .int .u8 ((ir.f 4).toNat : Int), .int .u8 ((ir.f 5).toNat : Int), .int .u8 ((ir.f 6).toNat : Int), .int .u8 ((ir.f 7).toNat : Int), .int .i64 (y + c), .int .u8 ((ii.f 0).toNat : Int), .int .u8 ((ii.f 1).toNat : Int), .int .u8 ((ii.f 2).toNat : Int), .int .u8 ((ii.f 3).toNat : Int), .int .u8 ((ii.f 4).toNat : Int), .int .u8 ((ii.f 5).toNat : Int), .int .u8 ((ii.f 6).toNat : Int), .int .u8 ((ii.f 7).toNat : Int), .int .i64 (p + 1)] _ (fun w' (hS' : (fun w' => w'.cell? ⟨OO, 0, none⟩ = some (.slice (some ⟨gq, 0, none⟩) q.length q.length) ∧ w'.cell? ⟨w.heap.size + 1, 0, none⟩ = some (.int .i64 j) ∧ w'.cell? ⟨w.heap.size + 1, 1, none⟩ = some (.int .i64 qq) ∧ w'.cell? ⟨BO, 0, none⟩ = some (.slice (some ⟨gb, 0, none⟩) q.length q.length) ∧ w'.rangeAt b9 0 [.int .u8 ((ir.f 0).toNat : Int), .int .u8 ((ir.f 1).toNat : Int), .int .u8 ((ir.f 2).toNat : Int), .int .u8 ((ir.f 3).toNat : Int), .int .u8 ((ir.f 4).toNat : Int), .int .u8 ((ir.f 5).toNat : Int), .int .u8 ((ir.f 6).toNat : Int), .int .u8 ((ir.f 7).toNat : Int), .int .i64 (y + c), .int .u8 ((ii.f 0).toNat : Int), .int .u8 ((ii.f 1).toNat : Int), .int .u8 ((ii.f 2).toNat : Int), .int .u8 ((ii.f 3).toNat : Int), .int .u8 ((ii.f 4).toNat : Int), .int .u8 ((ii.f 5).toNat : Int), .int .u8 ((ii.f 6).toNat : Int), .int .u8 ((ii.f 7).toNat : Int), .int .i64 (p + 1)]) w') => hS'.2.2.2.2) Try.underlying73 rfl (by kernel_rfl)) RD ?_
      (try simp only [Act.put, List.setIfInBounds_toArray, List.set_cons_zero, List.set_cons_succ])
      refine wpAnyH_take (i := 9) (oi := { dst := some 99, op := Op.indexAddr 35 (Operand.tmp 90) (Operand.tmp 92), type := 0, pos := "least.go:129", after := #[{ on := 0, ground := Ground.data }, { on := 2, ground := Ground.data }, { on := 0, ground := Ground.phase }, { on := 1, ground := Ground.phase }, { on := 2, ground := Ground.phase }, { on := 3, ground := Ground.textOnly Departure.inlinedCapture }, { on := 4, ground := Ground.textOnly Departure.lateStores }, { on := 5, ground := Ground.textOnly Departure.lateStores }, { on := 6, ground := Ground.phase }, { on := 7, ground := Ground.phase }, { on := 8, ground := Ground.textOnly Departure.lateStores }], guard := none }) (v := .pointer (some ⟨gq, j, none⟩)) rfl (by kernel_rfl) (by kernel_rfl) (by kernel_rfl) (fun _ _ _ h => h) (Or.inl ⟨by rfl, fun w' hS' => by clear hS'; go_simp⟩) RD ?_
      (try simp only [Act.put, List.setIfInBounds_toArray, List.set_cons_zero, List.set_cons_succ])
      refine wpAnyH_ready (rs := [10]) (by kernel_rfl) (by simp) ?_
      refine ar_cell18 (i := 10) (o := { dst := none, op := Op.store 3 (Operand.tmp 99) (Operand.tmp 97), type := 0, pos := "least.go:129", after := #[{ on := 9, ground := Ground.data }, { on := 7, ground := Ground.data }, { on := 0, ground := Ground.phase }, { on := 1, ground := Ground.phase }, { on := 2, ground := Ground.phase }, { on := 3, ground := Ground.textOnly Departure.inlinedCapture }, { on := 4, ground := Ground.textOnly Departure.lateStores }, { on := 5, ground := Ground.textOnly Departure.lateStores }, { on := 6, ground := Ground.phase }, { on := 7, ground := Ground.phase }, { on := 8, ground := Ground.textOnly Departure.lateStores }], guard := none }) rfl (by kernel_rfl) 3 (.tmp 99) (.tmp 97) rfl gq j (.int .i64 qq) rfl rfl 3 _ HQA.out (by rw [intsA_size]; exact hjq) (by kernel_rfl) rfl ?_
      intro w6 hR6 ho6 hs6 hb6
      rw [intsA_set] at hR6
      have HQA6 := Lib.hid hR6
      have HOO6 := Lib.hid (rowIs_same HOO.out (ho6 _ hqo))
      have HBV6 := Lib.hid (rowIs_same HBV.out (ho6 _ hBq))
      have HBA6 := Lib.hid (rowIs_same HBA.out (ho6 _ (Ne.symm hqb)))
      have HVX6 := Lib.hid (rowIs_same HVX.out (ho6 _ (Ne.symm HQB.out.1)))
      have HRT6 := Lib.hid (rowIs_same HRT.out (ho6 _ (by omega)))
      have RD6 : (fun w' => w'.cell? ⟨OO, 0, none⟩ = some (.slice (some ⟨gq, 0, none⟩) q.length q.length) ∧ w'.cell? ⟨w.heap.size + 1, 0, none⟩ = some (.int .i64 j) ∧ w'.cell? ⟨w.heap.size + 1, 1, none⟩ = some (.int .i64 qq) ∧ w'.cell? ⟨BO, 0, none⟩ = some (.slice (some ⟨gb, 0, none⟩) q.length q.length) ∧ w'.rangeAt b9 0 [.int .u8 ((ir.f 0).toNat : Int), .int .u8 ((ir.f 1).toNat : Int), .int .u8 ((ir.f 2).toNat : Int), .int .u8 ((ir.f 3).toNat : Int), .int .u8 ((ir.f 4).toNat : Int), .int .u8 ((ir.f 5).toNat : Int), .int .u8 ((ir.f 6).toNat : Int), .int .u8 ((ir.f 7).toNat : Int), .int .i64 (y + c), .int .u8 ((ii.f 0).toNat : Int), .int .u8 ((ii.f 1).toNat : Int), .int .u8 ((ii.f 2).toNat : Int), .int .u8 ((ii.f 3).toNat : Int), .int .u8 ((ii.f 4).toNat : Int), .int .u8 ((ii.f 5).toNat : Int), .int .u8 ((ii.f 6).toNat : Int), .int .u8 ((ii.f 7).toNat : Int), .int .i64 (p + 1)]) w6 := ⟨HOO6.out.cell 0, HRT6.out.cell 0, HRT6.out.cell 1, HBV6.out.cell 0, range_of_row HVX6.out rfl⟩
      have HON6 : Hid (Only [gq, gb] w w6) := ⟨Nat.le_trans hbWd.size (by omega), fun m hm hn => (ho6 m (fun e => hn (by rw [e]; simp))).trans (hbWd.block m hm)⟩
      have hb06 := (hbWd.mono (Nat.zero_le _)).trans (hb6.mono (Nat.zero_le _))
      refine ⟨RD6, ?_⟩
      clear RD hR6 ho6 hs6 hb6 HQA HOO HBV HBA HVX HRT hbWd
      have RD := RD6
      (try simp only [Act.put, List.setIfInBounds_toArray, List.set_cons_zero, List.set_cons_succ])
      refine wpAnyH_take (i := 11) (oi := { dst := some 100, op := Op.indexAddr 71 (Operand.tmp 93) (Operand.tmp 95), type := 0, pos := "least.go:129", after := #[{ on := 3, ground := Ground.data }, { on := 5, ground := Ground.data }, { on := 0, ground := Ground.phase }, { on := 1, ground := Ground.phase }, { on := 2, ground := Ground.phase }, { on := 3, ground := Ground.phase }, { on := 4, ground := Ground.phase }, { on := 5, ground := Ground.phase }, { on := 6, ground := Ground.phase }, { on := 7, ground := Ground.phase }, { on := 8, ground := Ground.phase }, { on := 9, ground := Ground.phase }, { on := 10, ground := Ground.phase }], guard := none }) (v := .pointer (some ⟨gb, j * 18, none⟩)) rfl (by kernel_rfl) (by kernel_rfl) (by kernel_rfl) (fun _ _ _ h => h) (Or.inl ⟨by rfl, fun w' hS' => by clear hS'; go_simp⟩) RD ?_
      (try simp only [Act.put, List.setIfInBounds_toArray, List.set_cons_zero, List.set_cons_succ])
      refine wpAnyH_ready (rs := [12]) (by kernel_rfl) (by simp) ?_
      refine ar_part18 (i := 12) (o := { dst := none, op := Op.store 73 (Operand.tmp 100) (Operand.tmp 98), type := 0, pos := "least.go:129", after := #[{ on := 11, ground := Ground.data }, { on := 8, ground := Ground.data }, { on := 10, ground := Ground.chain }, { on := 0, ground := Ground.phase }, { on := 1, ground := Ground.phase }, { on := 2, ground := Ground.phase }, { on := 3, ground := Ground.phase }, { on := 4, ground := Ground.phase }, { on := 5, ground := Ground.phase }, { on := 6, ground := Ground.phase }, { on := 7, ground := Ground.phase }, { on := 8, ground := Ground.phase }, { on := 9, ground := Ground.phase }, { on := 10, ground := Ground.phase }], guard := none } ) rfl (by kernel_rfl) 73 (.tmp 100) (.tmp 98) rfl gb (j * 18) #[.int .u8 ((ir.f 0).toNat : Int), .int .u8 ((ir.f 1).toNat : Int), .int .u8 ((ir.f 2).toNat : Int), .int .u8 ((ir.f 3).toNat : Int), .int .u8 ((ir.f 4).toNat : Int), .int .u8 ((ir.f 5).toNat : Int), .int .u8 ((ir.f 6).toNat : Int), .int .u8 ((ir.f 7).toNat : Int), .int .i64 (y + c), .int .u8 ((ii.f 0).toNat : Int), .int .u8 ((ii.f 1).toNat : Int), .int .u8 ((ii.f 2).toNat : Int), .int .u8 ((ii.f 3).toNat : Int), .int .u8 ((ii.f 4).toNat : Int), .int .u8 ((ii.f 5).toNat : Int), .int .u8 ((ii.f 6).toNat : Int), .int .u8 ((ii.f 7).toNat : Int), .int .i64 (p + 1)] rfl rfl 73 _ HBA6.out (by rw [vecsA_size]; show j * 18 + 18 ≤ _; omega) (by kernel_rfl) (by simp [Value.oneCell']) (vecsA (bs.set j X)) (by rw [← vecsA_put hjb X, HHV.out]; rfl) ?_
      intro w7 hR7 ho7 hs7 hb7
      have HBA7 := Lib.hid hR7
      have HQ7 : Hid (ArrAt w7 OO gq (q.set j qq)) := ⟨by rw [List.length_set]; exact rowIs_same HOO6.out (ho7 _ hob), rowIs_same HQA6.out (ho7 _ hqb)⟩
      have HBV7 := Lib.hid (rowIs_same HBV6.out (ho7 _ hBb))
      have HVX7 := Lib.hid (rowIs_same HVX6.out (ho7 _ (Ne.symm HQB.out.2.2.1)))
      have HRT7 := Lib.hid (rowIs_same HRT6.out (ho7 _ (by omega)))
      have HON7 := Lib.hid (HON6.out.store (S := gb) (by simp) ho7 hs7)
      have hb07 := hb06.trans (hb7.mono (Nat.zero_le _))
      refine ⟨⟨HQ7.out.ov.cell 0 |>.trans (by rw [List.length_set]; rfl), HRT7.out.cell 0, HRT7.out.cell 1, HBV7.out.cell 0, range_of_row HVX7.out rfl⟩, ?_⟩
      clear RD RD6 hR7 ho7 hs7 hb7 HQA6 HOO6 HBV6 HBA6 HVX6 HRT6 HON6 hb06
      (try simp only [Act.put, List.setIfInBounds_toArray, List.set_cons_zero, List.set_cons_succ])
      refine wpAnyH_done (by kernel_rfl) ?_ _
      go_wp2_with fail
      go_end0
      rw [HST.out]
      exact ⟨rfl, HQ7.out, HBV7.out, HBA7.out, HON7.out, hb07⟩
    · have d1 : decide (was < 0) = false := decide_eq_false hws
      have HXN : Hid (X ≠ old) := HNE.out (by omega)
      have hXV : Hid (X = ⟨ir, y + c, ii, p + 1⟩) := HHV
      have CB := Lib.hid (fun (k : Regrown) => better_any ir.f ii.f old.r.f old.b.f (y + c) (p + 1) old.c old.p (grow (redrawn w4 k.d) k.os))
      have HBB : Hid (X.better old = Vec.better [ir.f 0, ir.f 1, ir.f 2, ir.f 3, ir.f 4, ir.f 5, ir.f 6, ir.f 7] (y + c) [ii.f 0, ii.f 1, ii.f 2, ii.f 3, ii.f 4, ii.f 5, ii.f 6, ii.f 7] (p + 1) [old.r.f 0, old.r.f 1, old.r.f 2, old.r.f 3, old.r.f 4, old.r.f 5, old.r.f 6, old.r.f 7] old.c [old.b.f 0, old.b.f 1, old.b.f 2, old.b.f 3, old.b.f 4, old.b.f 5, old.b.f 6, old.b.f 7] old.p) := by
        show _ = _
        rw [hXV.out]
        rfl
      have HEQ : Hid (∀ w : World, (binOp .eql 73 (.agg #[.int .u8 ((ir.f 0).toNat : Int), .int .u8 ((ir.f 1).toNat : Int), .int .u8 ((ir.f 2).toNat : Int), .int .u8 ((ir.f 3).toNat : Int), .int .u8 ((ir.f 4).toNat : Int), .int .u8 ((ir.f 5).toNat : Int), .int .u8 ((ir.f 6).toNat : Int), .int .u8 ((ir.f 7).toNat : Int), .int .i64 (y + c), .int .u8 ((ii.f 0).toNat : Int), .int .u8 ((ii.f 1).toNat : Int), .int .u8 ((ii.f 2).toNat : Int), .int .u8 ((ii.f 3).toNat : Int), .int .u8 ((ii.f 4).toNat : Int), .int .u8 ((ii.f 5).toNat : Int), .int .u8 ((ii.f 6).toNat : Int), .int .u8 ((ii.f 7).toNat : Int), .int .i64 (p + 1)]) (.agg #[.int .u8 ((old.r.f 0).toNat : Int), .int .u8 ((old.r.f 1).toNat : Int), .int .u8 ((old.r.f 2).toNat : Int), .int .u8 ((old.r.f 3).toNat : Int), .int .u8 ((old.r.f 4).toNat : Int), .int .u8 ((old.r.f 5).toNat : Int), .int .u8 ((old.r.f 6).toNat : Int), .int .u8 ((old.r.f 7).toNat : Int), .int .i64 old.c, .int .u8 ((old.b.f 0).toNat : Int), .int .u8 ((old.b.f 1).toNat : Int), .int .u8 ((old.b.f 2).toNat : Int), .int .u8 ((old.b.f 3).toNat : Int), .int .u8 ((old.b.f 4).toNat : Int), .int .u8 ((old.b.f 5).toNat : Int), .int .u8 ((old.b.f 6).toNat : Int), .int .u8 ((old.b.f 7).toNat : Int), .int .i64 old.p])).run Try.prog w = .ok (.bool false) w) := fun w => by
        have h := run_equalIn_sv 9997 X old w
        rw [decide_eq_false HXN.out, hXV.out] at h
        have h' : (Op.equal 73 (.agg #[.int .u8 ((ir.f 0).toNat : Int), .int .u8 ((ir.f 1).toNat : Int), .int .u8 ((ir.f 2).toNat : Int), .int .u8 ((ir.f 3).toNat : Int), .int .u8 ((ir.f 4).toNat : Int), .int .u8 ((ir.f 5).toNat : Int), .int .u8 ((ir.f 6).toNat : Int), .int .u8 ((ir.f 7).toNat : Int), .int .i64 (y + c), .int .u8 ((ii.f 0).toNat : Int), .int .u8 ((ii.f 1).toNat : Int), .int .u8 ((ii.f 2).toNat : Int), .int .u8 ((ii.f 3).toNat : Int), .int .u8 ((ii.f 4).toNat : Int), .int .u8 ((ii.f 5).toNat : Int), .int .u8 ((ii.f 6).toNat : Int), .int .u8 ((ii.f 7).toNat : Int), .int .i64 (p + 1)]) (.agg #[.int .u8 ((old.r.f 0).toNat : Int), .int .u8 ((old.r.f 1).toNat : Int), .int .u8 ((old.r.f 2).toNat : Int), .int .u8 ((old.r.f 3).toNat : Int), .int .u8 ((old.r.f 4).toNat : Int), .int .u8 ((old.r.f 5).toNat : Int), .int .u8 ((old.r.f 6).toNat : Int), .int .u8 ((old.r.f 7).toNat : Int), .int .i64 old.c, .int .u8 ((old.b.f 0).toNat : Int), .int .u8 ((old.b.f 1).toNat : Int), .int .u8 ((old.b.f 2).toNat : Int), .int .u8 ((old.b.f 3).toNat : Int), .int .u8 ((old.b.f 4).toNat : Int), .int .u8 ((old.b.f 5).toNat : Int), .int .u8 ((old.b.f 6).toNat : Int), .int .u8 ((old.b.f 7).toNat : Int), .int .i64 old.p])).run Try.prog w = .ok false w := h
        simp only [binOp]
        simp [h']
      have kt := cell_regrown (show w4.cell? ⟨w.heap.size + 1, 0, none⟩ = some (.int .i64 j) from RT.out.cell 0)
      have kb := cell_regrown (show w4.cell? ⟨BO, 0, none⟩ = some (.slice (some ⟨gb, 0, none⟩) q.length q.length) from HBV.out.cell 0)
      generalize Vec.better [ir.f 0, ir.f 1, ir.f 2, ir.f 3, ir.f 4, ir.f 5, ir.f 6, ir.f 7] (y + c) [ii.f 0, ii.f 1, ii.f 2, ii.f 3, ii.f 4, ii.f 5, ii.f 6, ii.f 7] (p + 1) [old.r.f 0, old.r.f 1, old.r.f 2, old.r.f 3, old.r.f 4, old.r.f 5, old.r.f 6, old.r.f 7] old.c [old.b.f 0, old.b.f 1, old.b.f 2, old.b.f 3, old.b.f 4, old.b.f 5, old.b.f 6, old.b.f 7] old.p = bt at *
      cases bt
      · have hno : ¬ (was < 0 ∨ X.better old = true) := by
          rw [HBB.out]
          simp
          omega
        rw [if_neg hno] at HST
        have heq := HEQ.out
        clear hno HBB HEQ HXN hXV
        refine wp_region_mix 26 (by kernel_rfl) (by kernel_rfl) (by kernel_rfl) ?_
        (refine mix_step (by kernel_rfl) (by kernel_rfl) (fun K hK => ?_); go_simp; (try (simp only [↓IntWalk.iteOmega]; go_simp)); (first | (refine hK _ ?_; clear hK K) | (apply Exists.intro; refine ⟨fun _ => ?_, hK _ ?_⟩; (first | fail); clear hK K)))
        (refine mix_step (by kernel_rfl) (by kernel_rfl) (fun K hK => ?_); go_simp; (try (simp only [↓IntWalk.iteOmega]; go_simp)); (first | (refine hK _ ?_; clear hK K) | (apply Exists.intro; refine ⟨fun _ => ?_, hK _ ?_⟩; (first | fail); clear hK K)))
        (refine mix_step (by kernel_rfl) (by kernel_rfl) (fun K hK => ?_); go_simp; (try (simp only [↓IntWalk.iteOmega]; go_simp)); (first | (refine hK _ ?_; clear hK K) | (apply Exists.intro; refine ⟨fun _ => ?_, hK _ ?_⟩; (first | fail); clear hK K)))
        refine mix_exact (.agg #[.int .u8 ((ir.f 0).toNat : Int), .int .u8 ((ir.f 1).toNat : Int), .int .u8 ((ir.f 2).toNat : Int), .int .u8 ((ir.f 3).toNat : Int), .int .u8 ((ir.f 4).toNat : Int), .int .u8 ((ir.f 5).toNat : Int), .int .u8 ((ir.f 6).toNat : Int), .int .u8 ((ir.f 7).toNat : Int), .int .i64 (y + c), .int .u8 ((ii.f 0).toNat : Int), .int .u8 ((ii.f 1).toNat : Int), .int .u8 ((ii.f 2).toNat : Int), .int .u8 ((ii.f 3).toNat : Int), .int .u8 ((ii.f 4).toNat : Int), .int .u8 ((ii.f 5).toNat : Int), .int .u8 ((ii.f 6).toNat : Int), .int .u8 ((ii.f 7).toNat : Int), .int .i64 (p + 1)]) rfl (exact_load_row rfl rfl (by simp) HV.out Try.underlying73 rfl (by kernel_rfl)) ?_
        (refine mix_step (by kernel_rfl) (by kernel_rfl) (fun K hK => ?_); go_simp; (try (simp only [↓IntWalk.iteOmega]; go_simp)); (first | (refine hK _ ?_; clear hK K) | (apply Exists.intro; refine ⟨fun _ => ?_, hK _ ?_⟩; (first | fail); clear hK K)))
        (refine mix_step (by kernel_rfl) (by kernel_rfl) (fun K hK => ?_); go_simp; (try (simp only [↓IntWalk.iteOmega]; go_simp)); (first | (refine hK _ ?_; clear hK K) | (apply Exists.intro; refine ⟨fun _ => ?_, hK _ ?_⟩; (first | fail); clear hK K)))
        (refine mix_step (by kernel_rfl) (by kernel_rfl) (fun K hK => ?_); go_simp; (try (simp only [↓IntWalk.iteOmega]; go_simp)); (first | (refine hK _ ?_; clear hK K) | (apply Exists.intro; refine ⟨fun _ => ?_, hK _ ?_⟩; (first | fail); clear hK K)))
        (refine mix_step (by kernel_rfl) (by kernel_rfl) (fun K hK => ?_); go_simp; (try (simp only [↓IntWalk.iteOmega]; go_simp)); (first | (refine hK _ ?_; clear hK K) | (apply Exists.intro; refine ⟨fun _ => ?_, hK _ ?_⟩; (first | fail); clear hK K)))
        refine mix_exact (.agg #[.int .u8 ((old.r.f 0).toNat : Int), .int .u8 ((old.r.f 1).toNat : Int), .int .u8 ((old.r.f 2).toNat : Int), .int .u8 ((old.r.f 3).toNat : Int), .int .u8 ((old.r.f 4).toNat : Int), .int .u8 ((old.r.f 5).toNat : Int), .int .u8 ((old.r.f 6).toNat : Int), .int .u8 ((old.r.f 7).toNat : Int), .int .i64 old.c, .int .u8 ((old.b.f 0).toNat : Int), .int .u8 ((old.b.f 1).toNat : Int), .int .u8 ((old.b.f 2).toNat : Int), .int .u8 ((old.b.f 3).toNat : Int), .int .u8 ((old.b.f 4).toNat : Int), .int .u8 ((old.b.f 5).toNat : Int), .int .u8 ((old.b.f 6).toNat : Int), .int .u8 ((old.b.f 7).toNat : Int), .int .i64 old.p]) rfl (exact_load_range (sub := old.vals) rfl rfl (by simp) HBR.out hgbl4 Try.underlying73 rfl (by kernel_rfl)) ?_
        (refine mix_step (by kernel_rfl) (by kernel_rfl) (fun K hK => ?_); go_simp; (try (simp only [↓IntWalk.iteOmega]; go_simp)); (first | (refine hK _ ?_; clear hK K) | (apply Exists.intro; refine ⟨fun _ => ?_, hK _ ?_⟩; (first | exact CB.out _); clear hK K)))
        (refine mix_step (by kernel_rfl) (by kernel_rfl) (fun K hK => ?_); go_simp; (try (simp only [↓IntWalk.iteOmega]; go_simp)); (first | (refine hK _ ?_; clear hK K) | (apply Exists.intro; refine ⟨fun _ => ?_, hK _ ?_⟩; (first | fail); clear hK K)))
        (refine mix_step (by kernel_rfl) (by kernel_rfl) (fun K hK => ?_); go_simp; (try (simp only [↓IntWalk.iteOmega]; go_simp)); (first | (refine hK _ ?_; clear hK K) | (apply Exists.intro; refine ⟨fun _ => ?_, hK _ ?_⟩; (first | fail); clear hK K)))
        refine mix_exact (.agg #[.int .u8 ((ir.f 0).toNat : Int), .int .u8 ((ir.f 1).toNat : Int), .int .u8 ((ir.f 2).toNat : Int), .int .u8 ((ir.f 3).toNat : Int), .int .u8 ((ir.f 4).toNat : Int), .int .u8 ((ir.f 5).toNat : Int), .int .u8 ((ir.f 6).toNat : Int), .int .u8 ((ir.f 7).toNat : Int), .int .i64 (y + c), .int .u8 ((ii.f 0).toNat : Int), .int .u8 ((ii.f 1).toNat : Int), .int .u8 ((ii.f 2).toNat : Int), .int .u8 ((ii.f 3).toNat : Int), .int .u8 ((ii.f 4).toNat : Int), .int .u8 ((ii.f 5).toNat : Int), .int .u8 ((ii.f 6).toNat : Int), .int .u8 ((ii.f 7).toNat : Int), .int .i64 (p + 1)]) rfl (exact_load_row rfl rfl (by simp) HV.out Try.underlying73 rfl (by kernel_rfl)) ?_
        (refine mix_step (by kernel_rfl) (by kernel_rfl) (fun K hK => ?_); go_simp; (try (simp only [↓IntWalk.iteOmega]; go_simp)); (first | (refine hK _ ?_; clear hK K) | (apply Exists.intro; refine ⟨fun _ => ?_, hK _ ?_⟩; (first | fail); clear hK K)))
        (refine mix_step (by kernel_rfl) (by kernel_rfl) (fun K hK => ?_); go_simp; (try (simp only [↓IntWalk.iteOmega]; go_simp)); (first | (refine hK _ ?_; clear hK K) | (apply Exists.intro; refine ⟨fun _ => ?_, hK _ ?_⟩; (first | fail); clear hK K)))
        (refine mix_step (by kernel_rfl) (by kernel_rfl) (fun K hK => ?_); go_simp; (try (simp only [↓IntWalk.iteOmega]; go_simp)); (first | (refine hK _ ?_; clear hK K) | (apply Exists.intro; refine ⟨fun _ => ?_, hK _ ?_⟩; (first | fail); clear hK K)))
        (refine mix_step (by kernel_rfl) (by kernel_rfl) (fun K hK => ?_); go_simp; (try (simp only [↓IntWalk.iteOmega]; go_simp)); (first | (refine hK _ ?_; clear hK K) | (apply Exists.intro; refine ⟨fun _ => ?_, hK _ ?_⟩; (first | fail); clear hK K)))
        refine mix_exact (.agg #[.int .u8 ((old.r.f 0).toNat : Int), .int .u8 ((old.r.f 1).toNat : Int), .int .u8 ((old.r.f 2).toNat : Int), .int .u8 ((old.r.f 3).toNat : Int), .int .u8 ((old.r.f 4).toNat : Int), .int .u8 ((old.r.f 5).toNat : Int), .int .u8 ((old.r.f 6).toNat : Int), .int .u8 ((old.r.f 7).toNat : Int), .int .i64 old.c, .int .u8 ((old.b.f 0).toNat : Int), .int .u8 ((old.b.f 1).toNat : Int), .int .u8 ((old.b.f 2).toNat : Int), .int .u8 ((old.b.f 3).toNat : Int), .int .u8 ((old.b.f 4).toNat : Int), .int .u8 ((old.b.f 5).toNat : Int), .int .u8 ((old.b.f 6).toNat : Int), .int .u8 ((old.b.f 7).toNat : Int), .int .i64 old.p]) rfl (exact_load_range (sub := old.vals) rfl rfl (by simp) HBR.out hgbl4 Try.underlying73 rfl (by kernel_rfl)) ?_
        (refine mix_step (by kernel_rfl) (by kernel_rfl) (fun K hK => ?_); go_simp; (try (simp only [↓IntWalk.iteOmega]; go_simp)); (first | (refine hK _ ?_; clear hK K) | (apply Exists.intro; refine ⟨fun _ => ?_, hK _ ?_⟩; (first | fail); clear hK K)))
        (refine mix_step (by kernel_rfl) (by kernel_rfl) (fun K hK => ?_); go_simp; (try (simp only [↓IntWalk.iteOmega]; go_simp)); (first | (refine hK _ ?_; clear hK K) | (apply Exists.intro; refine ⟨fun _ => ?_, hK _ ?_⟩; (first | fail); clear hK K)))
        (refine mix_step (by kernel_rfl) (by kernel_rfl) (fun K hK => ?_); go_simp; (try (simp only [↓IntWalk.iteOmega]; go_simp)); (first | (refine hK _ ?_; clear hK K) | (apply Exists.intro; refine ⟨fun _ => ?_, hK _ ?_⟩; (first | fail); clear hK K)))
        (refine mix_step (by kernel_rfl) (by kernel_rfl) (fun K hK => ?_); go_simp; (try (simp only [↓IntWalk.iteOmega]; go_simp)); (first | (refine hK _ ?_; clear hK K) | (apply Exists.intro; refine ⟨fun _ => ?_, hK _ ?_⟩; (first | fail); clear hK K)))
        (refine mix_step (by kernel_rfl) (by kernel_rfl) (fun K hK => ?_); go_simp; (try (simp only [↓IntWalk.iteOmega]; go_simp)); (first | (refine hK _ ?_; clear hK K) | (apply Exists.intro; refine ⟨fun _ => ?_, hK _ ?_⟩; (first | fail); clear hK K)))
        (refine mix_step (by kernel_rfl) (by kernel_rfl) (fun K hK => ?_); go_simp; (try (simp only [↓IntWalk.iteOmega]; go_simp)); (first | (refine hK _ ?_; clear hK K) | (apply Exists.intro; refine ⟨fun _ => ?_, hK _ ?_⟩; (first | fail); clear hK K)))
        (refine mix_step (by kernel_rfl) (by kernel_rfl) (fun K hK => ?_); go_simp; (try (simp only [↓IntWalk.iteOmega]; go_simp)); (first | (refine hK _ ?_; clear hK K) | (apply Exists.intro; refine ⟨fun _ => ?_, hK _ ?_⟩; (first | fail); clear hK K)))
        (refine mix_step (by kernel_rfl) (by kernel_rfl) (fun K hK => ?_); go_simp; (try (simp only [↓IntWalk.iteOmega]; go_simp)); (first | (refine hK _ ?_; clear hK K) | (apply Exists.intro; refine ⟨fun _ => ?_, hK _ ?_⟩; (first | fail); clear hK K)))
        refine mix_nil ?_
        rintro ⟨dq, osq⟩
        have hb5 := below_regrown w4 dq osq
        refine (show wpList _ _ _ _ _ _ from ?_)
        simp only [List.drop, Act.put, List.setIfInBounds_toArray, List.set]
        clear kt kb heq CB
        go_wp2_with fail
        go_end0
        rw [HST.out]
        have hbf := hbW.trans (hb5.mono hbW.size)
        exact ⟨rfl, HQ.out.kept hb5, HBV.out.kept hb5, HBA.out.kept hb5, only_of_below hbf, hbf.mono (Nat.zero_le _)⟩
      · have hyes : was < 0 ∨ X.better old = true := .inr (by rw [HBB.out])
        rw [if_pos hyes] at HST
        clear hyes HBB HEQ HXN hXV
        refine wp_region_mix 26 (by kernel_rfl) (by kernel_rfl) (by kernel_rfl) ?_
        (refine mix_step (by kernel_rfl) (by kernel_rfl) (fun K hK => ?_); go_simp; (try (simp only [↓IntWalk.iteOmega]; go_simp)); (first | (refine hK _ ?_; clear hK K) | (apply Exists.intro; refine ⟨fun _ => ?_, hK _ ?_⟩; (first | fail); clear hK K)))
        (refine mix_step (by kernel_rfl) (by kernel_rfl) (fun K hK => ?_); go_simp; (try (simp only [↓IntWalk.iteOmega]; go_simp)); (first | (refine hK _ ?_; clear hK K) | (apply Exists.intro; refine ⟨fun _ => ?_, hK _ ?_⟩; (first | fail); clear hK K)))
        (refine mix_step (by kernel_rfl) (by kernel_rfl) (fun K hK => ?_); go_simp; (try (simp only [↓IntWalk.iteOmega]; go_simp)); (first | (refine hK _ ?_; clear hK K) | (apply Exists.intro; refine ⟨fun _ => ?_, hK _ ?_⟩; (first | fail); clear hK K)))
        refine mix_exact (.agg #[.int .u8 ((ir.f 0).toNat : Int), .int .u8 ((ir.f 1).toNat : Int), .int .u8 ((ir.f 2).toNat : Int), .int .u8 ((ir.f 3).toNat : Int), .int .u8 ((ir.f 4).toNat : Int), .int .u8 ((ir.f 5).toNat : Int), .int .u8 ((ir.f 6).toNat : Int), .int .u8 ((ir.f 7).toNat : Int), .int .i64 (y + c), .int .u8 ((ii.f 0).toNat : Int), .int .u8 ((ii.f 1).toNat : Int), .int .u8 ((ii.f 2).toNat : Int), .int .u8 ((ii.f 3).toNat : Int), .int .u8 ((ii.f 4).toNat : Int), .int .u8 ((ii.f 5).toNat : Int), .int .u8 ((ii.f 6).toNat : Int), .int .u8 ((ii.f 7).toNat : Int), .int .i64 (p + 1)]) rfl (exact_load_row rfl rfl (by simp) HV.out Try.underlying73 rfl (by kernel_rfl)) ?_
        (refine mix_step (by kernel_rfl) (by kernel_rfl) (fun K hK => ?_); go_simp; (try (simp only [↓IntWalk.iteOmega]; go_simp)); (first | (refine hK _ ?_; clear hK K) | (apply Exists.intro; refine ⟨fun _ => ?_, hK _ ?_⟩; (first | fail); clear hK K)))
        (refine mix_step (by kernel_rfl) (by kernel_rfl) (fun K hK => ?_); go_simp; (try (simp only [↓IntWalk.iteOmega]; go_simp)); (first | (refine hK _ ?_; clear hK K) | (apply Exists.intro; refine ⟨fun _ => ?_, hK _ ?_⟩; (first | fail); clear hK K)))
        (refine mix_step (by kernel_rfl) (by kernel_rfl) (fun K hK => ?_); go_simp; (try (simp only [↓IntWalk.iteOmega]; go_simp)); (first | (refine hK _ ?_; clear hK K) | (apply Exists.intro; refine ⟨fun _ => ?_, hK _ ?_⟩; (first | fail); clear hK K)))
        (refine mix_step (by kernel_rfl) (by kernel_rfl) (fun K hK => ?_); go_simp; (try (simp only [↓IntWalk.iteOmega]; go_simp)); (first | (refine hK _ ?_; clear hK K) | (apply Exists.intro; refine ⟨fun _ => ?_, hK _ ?_⟩; (first | fail); clear hK K)))
        refine mix_exact (.agg #[.int .u8 ((old.r.f 0).toNat : Int), .int .u8 ((old.r.f 1).toNat : Int), .int .u8 ((old.r.f 2).toNat : Int), .int .u8 ((old.r.f 3).toNat : Int), .int .u8 ((old.r.f 4).toNat : Int), .int .u8 ((old.r.f 5).toNat : Int), .int .u8 ((old.r.f 6).toNat : Int), .int .u8 ((old.r.f 7).toNat : Int), .int .i64 old.c, .int .u8 ((old.b.f 0).toNat : Int), .int .u8 ((old.b.f 1).toNat : Int), .int .u8 ((old.b.f 2).toNat : Int), .int .u8 ((old.b.f 3).toNat : Int), .int .u8 ((old.b.f 4).toNat : Int), .int .u8 ((old.b.f 5).toNat : Int), .int .u8 ((old.b.f 6).toNat : Int), .int .u8 ((old.b.f 7).toNat : Int), .int .i64 old.p]) rfl (exact_load_range (sub := old.vals) rfl rfl (by simp) HBR.out hgbl4 Try.underlying73 rfl (by kernel_rfl)) ?_
        (refine mix_step (by kernel_rfl) (by kernel_rfl) (fun K hK => ?_); go_simp; (try (simp only [↓IntWalk.iteOmega]; go_simp)); (first | (refine hK _ ?_; clear hK K) | (apply Exists.intro; refine ⟨fun _ => ?_, hK _ ?_⟩; (first | exact CB.out _); clear hK K)))
        (refine mix_step (by kernel_rfl) (by kernel_rfl) (fun K hK => ?_); go_simp; (try (simp only [↓IntWalk.iteOmega]; go_simp)); (first | (refine hK _ ?_; clear hK K) | (apply Exists.intro; refine ⟨fun _ => ?_, hK _ ?_⟩; (first | fail); clear hK K)))
        (refine mix_step (by kernel_rfl) (by kernel_rfl) (fun K hK => ?_); go_simp; (try (simp only [↓IntWalk.iteOmega]; go_simp)); (first | (refine hK _ ?_; clear hK K) | (apply Exists.intro; refine ⟨fun _ => ?_, hK _ ?_⟩; (first | fail); clear hK K)))
        (refine mix_step (by kernel_rfl) (by kernel_rfl) (fun K hK => ?_); go_simp; (try (simp only [↓IntWalk.iteOmega]; go_simp)); (first | (refine hK _ ?_; clear hK K) | (apply Exists.intro; refine ⟨fun _ => ?_, hK _ ?_⟩; (first | fail); clear hK K)))
        (refine mix_step (by kernel_rfl) (by kernel_rfl) (fun K hK => ?_); go_simp; (try (simp only [↓IntWalk.iteOmega]; go_simp)); (first | (refine hK _ ?_; clear hK K) | (apply Exists.intro; refine ⟨fun _ => ?_, hK _ ?_⟩; (first | fail); clear hK K)))
        (refine mix_step (by kernel_rfl) (by kernel_rfl) (fun K hK => ?_); go_simp; (try (simp only [↓IntWalk.iteOmega]; go_simp)); (first | (refine hK _ ?_; clear hK K) | (apply Exists.intro; refine ⟨fun _ => ?_, hK _ ?_⟩; (first | fail); clear hK K)))
        (refine mix_step (by kernel_rfl) (by kernel_rfl) (fun K hK => ?_); go_simp; (try (simp only [↓IntWalk.iteOmega]; go_simp)); (first | (refine hK _ ?_; clear hK K) | (apply Exists.intro; refine ⟨fun _ => ?_, hK _ ?_⟩; (first | fail); clear hK K)))
        (refine mix_step (by kernel_rfl) (by kernel_rfl) (fun K hK => ?_); go_simp; (try (simp only [↓IntWalk.iteOmega]; go_simp)); (first | (refine hK _ ?_; clear hK K) | (apply Exists.intro; refine ⟨fun _ => ?_, hK _ ?_⟩; (first | fail); clear hK K)))
        (refine mix_step (by kernel_rfl) (by kernel_rfl) (fun K hK => ?_); go_simp; (try (simp only [↓IntWalk.iteOmega]; go_simp)); (first | (refine hK _ ?_; clear hK K) | (apply Exists.intro; refine ⟨fun _ => ?_, hK _ ?_⟩; (first | fail); clear hK K)))
        (refine mix_step (by kernel_rfl) (by kernel_rfl) (fun K hK => ?_); go_simp; (try (simp only [↓IntWalk.iteOmega]; go_simp)); (first | (refine hK _ ?_; clear hK K) | (apply Exists.intro; refine ⟨fun _ => ?_, hK _ ?_⟩; (first | fail); clear hK K)))
        (refine mix_step (by kernel_rfl) (by kernel_rfl) (fun K hK => ?_); go_simp; (try (simp only [↓IntWalk.iteOmega]; go_simp)); (first | (refine hK _ ?_; clear hK K) | (apply Exists.intro; refine ⟨fun _ => ?_, hK _ ?_⟩; (first | fail); clear hK K)))
        (refine mix_step (by kernel_rfl) (by kernel_rfl) (fun K hK => ?_); go_simp; (try (simp only [↓IntWalk.iteOmega]; go_simp)); (first | (refine hK _ ?_; clear hK K) | (apply Exists.intro; refine ⟨fun _ => ?_, hK _ ?_⟩; (first | fail); clear hK K)))
        (refine mix_step (by kernel_rfl) (by kernel_rfl) (fun K hK => ?_); go_simp; (try (simp only [↓IntWalk.iteOmega]; go_simp)); (first | (refine hK _ ?_; clear hK K) | (apply Exists.intro; refine ⟨fun _ => ?_, hK _ ?_⟩; (first | fail); clear hK K)))
        (refine mix_step (by kernel_rfl) (by kernel_rfl) (fun K hK => ?_); go_simp; (try (simp only [↓IntWalk.iteOmega]; go_simp)); (first | (refine hK _ ?_; clear hK K) | (apply Exists.intro; refine ⟨fun _ => ?_, hK _ ?_⟩; (first | fail); clear hK K)))
        (refine mix_step (by kernel_rfl) (by kernel_rfl) (fun K hK => ?_); go_simp; (try (simp only [↓IntWalk.iteOmega]; go_simp)); (first | (refine hK _ ?_; clear hK K) | (apply Exists.intro; refine ⟨fun _ => ?_, hK _ ?_⟩; (first | fail); clear hK K)))
        (refine mix_step (by kernel_rfl) (by kernel_rfl) (fun K hK => ?_); go_simp; (try (simp only [↓IntWalk.iteOmega]; go_simp)); (first | (refine hK _ ?_; clear hK K) | (apply Exists.intro; refine ⟨fun _ => ?_, hK _ ?_⟩; (first | fail); clear hK K)))
        (refine mix_step (by kernel_rfl) (by kernel_rfl) (fun K hK => ?_); go_simp; (try (simp only [↓IntWalk.iteOmega]; go_simp)); (first | (refine hK _ ?_; clear hK K) | (apply Exists.intro; refine ⟨fun _ => ?_, hK _ ?_⟩; (first | fail); clear hK K)))
        refine mix_nil ?_
        rintro ⟨dq, osq⟩
        have hb5 := below_regrown w4 dq osq
        refine (show wpList _ _ _ _ _ _ from ?_)
        simp only [List.drop, Act.put, List.setIfInBounds_toArray, List.set]
        have HQ := Lib.hid (HQ.out.kept hb5)
        have HBV := Lib.hid (HBV.out.kept hb5)
        have HBA := Lib.hid (HBA.out.kept hb5)
        have RT := Lib.hid (RT.out.kept hb5)
        have HV := Lib.hid (HV.out.kept hb5)
        have hbW := hbW.trans (hb5.mono hbW.size)
        clear kt kb CB hb5 d1
        generalize grow (redrawn w4 dq) osq = w5 at *
        go_upto_region 5 with fail
        -- REGION5
        have hbd : Below w5.heap.size w5 w5.drew := (Below.refl _ _).drew
        have HOO := Lib.hid ((HQ.out.kept hbd).ov)
        have HQA := Lib.hid ((HQ.out.kept hbd).arr)
        have HBV := Lib.hid (HBV.out.kept hbd)
        have HBA := Lib.hid (HBA.out.kept hbd)
        have HVX := Lib.hid (HV.out.kept hbd)
        have HRT := Lib.hid (RT.out.kept hbd)
        have hbWd := hbW.trans (hbd.mono hbW.size)
        clear HQ HV RT hbd
        refine wp_region_held (S := fun w' => w'.cell? ⟨OO, 0, none⟩ = some (.slice (some ⟨gq, 0, none⟩) q.length q.length) ∧ w'.cell? ⟨w.heap.size + 1, 0, none⟩ = some (.int .i64 j) ∧ w'.cell? ⟨w.heap.size + 1, 1, none⟩ = some (.int .i64 qq) ∧ w'.cell? ⟨BO, 0, none⟩ = some (.slice (some ⟨gb, 0, none⟩) q.length q.length) ∧ w'.rangeAt b9 0 [.int .u8 ((ir.f 0).toNat : Int), .int .u8 ((ir.f 1).toNat : Int), .int .u8 ((ir.f 2).toNat : Int), .int .u8 ((ir.f 3).toNat : Int), .int .u8 ((ir.f 4).toNat : Int), .int .u8 ((ir.f 5).toNat : Int), .int .u8 ((ir.f 6).toNat : Int), .int .u8 ((ir.f 7).toNat : Int), .int .i64 (y + c), .int .u8 ((ii.f 0).toNat : Int), .int .u8 ((ii.f 1).toNat : Int), .int .u8 ((ii.f 2).toNat : Int), .int .u8 ((ii.f 3).toNat : Int), .int .u8 ((ii.f 4).toNat : Int), .int .u8 ((ii.f 5).toNat : Int), .int .u8 ((ii.f 6).toNat : Int), .int .u8 ((ii.f 7).toNat : Int), .int .i64 (p + 1)]) (by kernel_rfl) ?_
        change wpAnyH _ _ _ _ _ _ _ _ w5.drew
        generalize w5.drew = wd at *
        have RD : (fun w' => w'.cell? ⟨OO, 0, none⟩ = some (.slice (some ⟨gq, 0, none⟩) q.length q.length) ∧ w'.cell? ⟨w.heap.size + 1, 0, none⟩ = some (.int .i64 j) ∧ w'.cell? ⟨w.heap.size + 1, 1, none⟩ = some (.int .i64 qq) ∧ w'.cell? ⟨BO, 0, none⟩ = some (.slice (some ⟨gb, 0, none⟩) q.length q.length) ∧ w'.rangeAt b9 0 [.int .u8 ((ir.f 0).toNat : Int), .int .u8 ((ir.f 1).toNat : Int), .int .u8 ((ir.f 2).toNat : Int), .int .u8 ((ir.f 3).toNat : Int), .int .u8 ((ir.f 4).toNat : Int), .int .u8 ((ir.f 5).toNat : Int), .int .u8 ((ir.f 6).toNat : Int), .int .u8 ((ir.f 7).toNat : Int), .int .i64 (y + c), .int .u8 ((ii.f 0).toNat : Int), .int .u8 ((ii.f 1).toNat : Int), .int .u8 ((ii.f 2).toNat : Int), .int .u8 ((ii.f 3).toNat : Int), .int .u8 ((ii.f 4).toNat : Int), .int .u8 ((ii.f 5).toNat : Int), .int .u8 ((ii.f 6).toNat : Int), .int .u8 ((ii.f 7).toNat : Int), .int .i64 (p + 1)]) wd := ⟨HOO.out.cell 0, HRT.out.cell 0, HRT.out.cell 1, HBV.out.cell 0, range_of_row HVX.out rfl⟩
        refine wpAnyH_take (i := 0) (oi := { dst := some 90, op := Op.load 35 (Operand.tmp 5), type := 35, pos := "least.go:129", after := #[], guard := none }) (v := .slice (some ⟨gq, 0, none⟩) q.length q.length) rfl (by kernel_rfl) (by kernel_rfl) (by kernel_rfl) (fun _ _ _ h => h) (Or.inl ⟨by rfl, fun w' hS' => by have hk := hS'.1; clear hS'; go_simp⟩) RD ?_
        (try simp only [Act.put, List.setIfInBounds_toArray, List.set_cons_zero, List.set_cons_succ])
        refine wpAnyH_take (i := 1) (oi := { dst := some 91, op := Op.fieldAddr 63 (Operand.tmp 8) 0, type := 0, pos := "least.go:129", after := #[], guard := none }) (v := .pointer (some ⟨w.heap.size + 1, 0, none⟩)) rfl (by kernel_rfl) (by kernel_rfl) (by kernel_rfl) (fun _ _ _ h => h) (Or.inl ⟨by rfl, fun w' hS' => by clear hS'; go_simp⟩) RD ?_
        (try simp only [Act.put, List.setIfInBounds_toArray, List.set_cons_zero, List.set_cons_succ])
        refine wpAnyH_take (i := 2) (oi := { dst := some 92, op := Op.load 3 (Operand.tmp 91), type := 3, pos := "least.go:129", after := #[{ on := 1, ground := Ground.data }], guard := none }) (v := .int .i64 j) rfl (by kernel_rfl) (by kernel_rfl) (by kernel_rfl) (fun _ _ _ h => h) (Or.inl ⟨by rfl, fun w' hS' => by have hk := hS'.2.1; clear hS'; go_simp⟩) RD ?_
        (try simp only [Act.put, List.setIfInBounds_toArray, List.set_cons_zero, List.set_cons_succ])
        refine wpAnyH_take (i := 3) (oi := { dst := some 93, op := Op.load 71 (Operand.tmp 6), type := 71, pos := "least.go:129", after := #[], guard := none }) (v := .slice (some ⟨gb, 0, none⟩) q.length q.length) rfl (by kernel_rfl) (by kernel_rfl) (by kernel_rfl) (fun _ _ _ h => h) (Or.inl ⟨by rfl, fun w' hS' => by have hk := hS'.2.2.2.1; clear hS'; go_simp⟩) RD ?_
        (try simp only [Act.put, List.setIfInBounds_toArray, List.set_cons_zero, List.set_cons_succ])
        refine wpAnyH_take (i := 4) (oi := { dst := some 94, op := Op.fieldAddr 63 (Operand.tmp 8) 0, type := 0, pos := "least.go:129", after := #[{ on := 10, ground := Ground.gcOnly Departure.lateStores }], guard := none }) (v := .pointer (some ⟨w.heap.size + 1, 0, none⟩)) rfl (by kernel_rfl) (by kernel_rfl) (by kernel_rfl) (fun _ _ _ h => h) (Or.inl ⟨by rfl, fun w' hS' => by clear hS'; go_simp⟩) RD ?_
        (try simp only [Act.put, List.setIfInBounds_toArray, List.set_cons_zero, List.set_cons_succ])
        refine wpAnyH_take (i := 5) (oi := { dst := some 95, op := Op.load 3 (Operand.tmp 94), type := 3, pos := "least.go:129", after := #[{ on := 4, ground := Ground.data }, { on := 10, ground := Ground.gcOnly Departure.lateStores }], guard := none }) (v := .int .i64 j) rfl (by kernel_rfl) (by kernel_rfl) (by kernel_rfl) (fun _ _ _ h => h) (Or.inl ⟨by rfl, fun w' hS' => by have hk := hS'.2.1; clear hS'; go_simp⟩) RD ?_
        (try simp only [Act.put, List.setIfInBounds_toArray, List.set_cons_zero, List.set_cons_succ])
        refine wpAnyH_take (i := 6) (oi := { dst := some 96, op := Op.fieldAddr 63 (Operand.tmp 8) 1, type := 0, pos := "least.go:129", after := #[], guard := none }) (v := .pointer (some ⟨w.heap.size + 1, 1, none⟩)) rfl (by kernel_rfl) (by kernel_rfl) (by kernel_rfl) (fun _ _ _ h => h) (Or.inl ⟨by rfl, fun w' hS' => by clear hS'; go_simp⟩) RD ?_
        (try simp only [Act.put, List.setIfInBounds_toArray, List.set_cons_zero, List.set_cons_succ])
        refine wpAnyH_take (i := 7) (oi := { dst := some 97, op := Op.load 3 (Operand.tmp 96), type := 3, pos := "least.go:129", after := #[{ on := 6, ground := Ground.data }], guard := none }) (v := .int .i64 qq) rfl (by kernel_rfl) (by kernel_rfl) (by kernel_rfl) (fun _ _ _ h => h) (Or.inl ⟨by rfl, fun w' hS' => by have hk := hS'.2.2.1; clear hS'; go_simp⟩) RD ?_
        (try simp only [Act.put, List.setIfInBounds_toArray, List.set_cons_zero, List.set_cons_succ])
        refine wpAnyH_take (i := 8) (oi := { dst := some 98, op := Op.load 73 (Operand.tmp 9), type := 73, pos := "least.go:129", after := #[{ on := 10, ground := Ground.gcOnly Departure.lateStores }], guard := none }) (v := .agg #[.int .u8 ((ir.f 0).toNat : Int), .int .u8 ((ir.f 1).toNat : Int), .int .u8 ((ir.f 2).toNat : Int), .int .u8 ((ir.f 3).toNat : Int), .int .u8 ((ir.f 4).toNat : Int), .int .u8 ((ir.f 5).toNat : Int), .int .u8 ((ir.f 6).toNat : Int), .int .u8 ((ir.f 7).toNat : Int), .int .i64 (y + c), .int .u8 ((ii.f 0).toNat : Int), .int .u8 ((ii.f 1).toNat : Int), .int .u8 ((ii.f 2).toNat : Int), .int .u8 ((ii.f 3).toNat : Int), .int .u8 ((ii.f 4).toNat : Int), .int .u8 ((ii.f 5).toNat : Int), .int .u8 ((ii.f 6).toNat : Int), .int .u8 ((ii.f 7).toNat : Int), .int .i64 (p + 1)]) rfl (by kernel_rfl) (by kernel_rfl) (by kernel_rfl) (fun _ _ _ h => h) (yieldsIf_load_mid rfl _ _ rfl b9 0 rfl [.int .u8 ((ir.f 0).toNat : Int), .int .u8 ((ir.f 1).toNat : Int), .int .u8 ((ir.f 2).toNat : Int), .int .u8 ((ir.f 3).toNat : Int), .int .u8 ((ir.f 4).toNat : Int), .int .u8 ((ir.f 5).toNat : Int), .int .u8 ((ir.f 6).toNat : Int), .int .u8 ((ir.f 7).toNat : Int), .int .i64 (y + c), .int .u8 ((ii.f 0).toNat : Int), .int .u8 ((ii.f 1).toNat : Int), .int .u8 ((ii.f 2).toNat : Int), .int .u8 ((ii.f 3).toNat : Int), .int .u8 ((ii.f 4).toNat : Int), .int .u8 ((ii.f 5).toNat : Int), .int .u8 ((ii.f 6).toNat : Int), .int .u8 ((ii.f 7).toNat : Int), .int .i64 (p + 1)] _ (fun w' (hS' : (fun w' => w'.cell? ⟨OO, 0, none⟩ = some (.slice (some ⟨gq, 0, none⟩) q.length q.length) ∧ w'.cell? ⟨w.heap.size + 1, 0, none⟩ = some (.int .i64 j) ∧ w'.cell? ⟨w.heap.size + 1, 1, none⟩ = some (.int .i64 qq) ∧ w'.cell? ⟨BO, 0, none⟩ = some (.slice (some ⟨gb, 0, none⟩) q.length q.length) ∧ w'.rangeAt b9 0 [.int .u8 ((ir.f 0).toNat : Int), .int .u8 ((ir.f 1).toNat : Int), .int .u8 ((ir.f 2).toNat : Int), .int .u8 ((ir.f 3).toNat : Int), .int .u8 ((ir.f 4).toNat : Int), .int .u8 ((ir.f 5).toNat : Int), .int .u8 ((ir.f 6).toNat : Int), .int .u8 ((ir.f 7).toNat : Int), .int .i64 (y + c), .int .u8 ((ii.f 0).toNat : Int), .int .u8 ((ii.f 1).toNat : Int), .int .u8 ((ii.f 2).toNat : Int), .int .u8 ((ii.f 3).toNat : Int), .int .u8 ((ii.f 4).toNat : Int), .int .u8 ((ii.f 5).toNat : Int), .int .u8 ((ii.f 6).toNat : Int), .int .u8 ((ii.f 7).toNat : Int), .int .i64 (p + 1)]) w') => hS'.2.2.2.2) Try.underlying73 rfl (by kernel_rfl)) RD ?_
        (try simp only [Act.put, List.setIfInBounds_toArray, List.set_cons_zero, List.set_cons_succ])
        refine wpAnyH_take (i := 9) (oi := { dst := some 99, op := Op.indexAddr 35 (Operand.tmp 90) (Operand.tmp 92), type := 0, pos := "least.go:129", after := #[{ on := 0, ground := Ground.data }, { on := 2, ground := Ground.data }, { on := 0, ground := Ground.phase }, { on := 1, ground := Ground.phase }, { on := 2, ground := Ground.phase }, { on := 3, ground := Ground.textOnly Departure.inlinedCapture }, { on := 4, ground := Ground.textOnly Departure.lateStores }, { on := 5, ground := Ground.textOnly Departure.lateStores }, { on := 6, ground := Ground.phase }, { on := 7, ground := Ground.phase }, { on := 8, ground := Ground.textOnly Departure.lateStores }], guard := none }) (v := .pointer (some ⟨gq, j, none⟩)) rfl (by kernel_rfl) (by kernel_rfl) (by kernel_rfl) (fun _ _ _ h => h) (Or.inl ⟨by rfl, fun w' hS' => by clear hS'; go_simp⟩) RD ?_
        (try simp only [Act.put, List.setIfInBounds_toArray, List.set_cons_zero, List.set_cons_succ])
        refine wpAnyH_ready (rs := [10]) (by kernel_rfl) (by simp) ?_
        refine ar_cell18 (i := 10) (o := { dst := none, op := Op.store 3 (Operand.tmp 99) (Operand.tmp 97), type := 0, pos := "least.go:129", after := #[{ on := 9, ground := Ground.data }, { on := 7, ground := Ground.data }, { on := 0, ground := Ground.phase }, { on := 1, ground := Ground.phase }, { on := 2, ground := Ground.phase }, { on := 3, ground := Ground.textOnly Departure.inlinedCapture }, { on := 4, ground := Ground.textOnly Departure.lateStores }, { on := 5, ground := Ground.textOnly Departure.lateStores }, { on := 6, ground := Ground.phase }, { on := 7, ground := Ground.phase }, { on := 8, ground := Ground.textOnly Departure.lateStores }], guard := none }) rfl (by kernel_rfl) 3 (.tmp 99) (.tmp 97) rfl gq j (.int .i64 qq) rfl rfl 3 _ HQA.out (by rw [intsA_size]; exact hjq) (by kernel_rfl) rfl ?_
        intro w6 hR6 ho6 hs6 hb6
        rw [intsA_set] at hR6
        have HQA6 := Lib.hid hR6
        have HOO6 := Lib.hid (rowIs_same HOO.out (ho6 _ hqo))
        have HBV6 := Lib.hid (rowIs_same HBV.out (ho6 _ hBq))
        have HBA6 := Lib.hid (rowIs_same HBA.out (ho6 _ (Ne.symm hqb)))
        have HVX6 := Lib.hid (rowIs_same HVX.out (ho6 _ (Ne.symm HQB.out.1)))
        have HRT6 := Lib.hid (rowIs_same HRT.out (ho6 _ (by omega)))
        have RD6 : (fun w' => w'.cell? ⟨OO, 0, none⟩ = some (.slice (some ⟨gq, 0, none⟩) q.length q.length) ∧ w'.cell? ⟨w.heap.size + 1, 0, none⟩ = some (.int .i64 j) ∧ w'.cell? ⟨w.heap.size + 1, 1, none⟩ = some (.int .i64 qq) ∧ w'.cell? ⟨BO, 0, none⟩ = some (.slice (some ⟨gb, 0, none⟩) q.length q.length) ∧ w'.rangeAt b9 0 [.int .u8 ((ir.f 0).toNat : Int), .int .u8 ((ir.f 1).toNat : Int), .int .u8 ((ir.f 2).toNat : Int), .int .u8 ((ir.f 3).toNat : Int), .int .u8 ((ir.f 4).toNat : Int), .int .u8 ((ir.f 5).toNat : Int), .int .u8 ((ir.f 6).toNat : Int), .int .u8 ((ir.f 7).toNat : Int), .int .i64 (y + c), .int .u8 ((ii.f 0).toNat : Int), .int .u8 ((ii.f 1).toNat : Int), .int .u8 ((ii.f 2).toNat : Int), .int .u8 ((ii.f 3).toNat : Int), .int .u8 ((ii.f 4).toNat : Int), .int .u8 ((ii.f 5).toNat : Int), .int .u8 ((ii.f 6).toNat : Int), .int .u8 ((ii.f 7).toNat : Int), .int .i64 (p + 1)]) w6 := ⟨HOO6.out.cell 0, HRT6.out.cell 0, HRT6.out.cell 1, HBV6.out.cell 0, range_of_row HVX6.out rfl⟩
        have HON6 : Hid (Only [gq, gb] w w6) := ⟨Nat.le_trans hbWd.size (by omega), fun m hm hn => (ho6 m (fun e => hn (by rw [e]; simp))).trans (hbWd.block m hm)⟩
        have hb06 := (hbWd.mono (Nat.zero_le _)).trans (hb6.mono (Nat.zero_le _))
        refine ⟨RD6, ?_⟩
        clear RD hR6 ho6 hs6 hb6 HQA HOO HBV HBA HVX HRT hbWd
        have RD := RD6
        (try simp only [Act.put, List.setIfInBounds_toArray, List.set_cons_zero, List.set_cons_succ])
        refine wpAnyH_take (i := 11) (oi := { dst := some 100, op := Op.indexAddr 71 (Operand.tmp 93) (Operand.tmp 95), type := 0, pos := "least.go:129", after := #[{ on := 3, ground := Ground.data }, { on := 5, ground := Ground.data }, { on := 0, ground := Ground.phase }, { on := 1, ground := Ground.phase }, { on := 2, ground := Ground.phase }, { on := 3, ground := Ground.phase }, { on := 4, ground := Ground.phase }, { on := 5, ground := Ground.phase }, { on := 6, ground := Ground.phase }, { on := 7, ground := Ground.phase }, { on := 8, ground := Ground.phase }, { on := 9, ground := Ground.phase }, { on := 10, ground := Ground.phase }], guard := none }) (v := .pointer (some ⟨gb, j * 18, none⟩)) rfl (by kernel_rfl) (by kernel_rfl) (by kernel_rfl) (fun _ _ _ h => h) (Or.inl ⟨by rfl, fun w' hS' => by clear hS'; go_simp⟩) RD ?_
        (try simp only [Act.put, List.setIfInBounds_toArray, List.set_cons_zero, List.set_cons_succ])
        refine wpAnyH_ready (rs := [12]) (by kernel_rfl) (by simp) ?_
        refine ar_part18 (i := 12) (o := { dst := none, op := Op.store 73 (Operand.tmp 100) (Operand.tmp 98), type := 0, pos := "least.go:129", after := #[{ on := 11, ground := Ground.data }, { on := 8, ground := Ground.data }, { on := 10, ground := Ground.chain }, { on := 0, ground := Ground.phase }, { on := 1, ground := Ground.phase }, { on := 2, ground := Ground.phase }, { on := 3, ground := Ground.phase }, { on := 4, ground := Ground.phase }, { on := 5, ground := Ground.phase }, { on := 6, ground := Ground.phase }, { on := 7, ground := Ground.phase }, { on := 8, ground := Ground.phase }, { on := 9, ground := Ground.phase }, { on := 10, ground := Ground.phase }], guard := none } ) rfl (by kernel_rfl) 73 (.tmp 100) (.tmp 98) rfl gb (j * 18) #[.int .u8 ((ir.f 0).toNat : Int), .int .u8 ((ir.f 1).toNat : Int), .int .u8 ((ir.f 2).toNat : Int), .int .u8 ((ir.f 3).toNat : Int), .int .u8 ((ir.f 4).toNat : Int), .int .u8 ((ir.f 5).toNat : Int), .int .u8 ((ir.f 6).toNat : Int), .int .u8 ((ir.f 7).toNat : Int), .int .i64 (y + c), .int .u8 ((ii.f 0).toNat : Int), .int .u8 ((ii.f 1).toNat : Int), .int .u8 ((ii.f 2).toNat : Int), .int .u8 ((ii.f 3).toNat : Int), .int .u8 ((ii.f 4).toNat : Int), .int .u8 ((ii.f 5).toNat : Int), .int .u8 ((ii.f 6).toNat : Int), .int .u8 ((ii.f 7).toNat : Int), .int .i64 (p + 1)] rfl rfl 73 _ HBA6.out (by rw [vecsA_size]; show j * 18 + 18 ≤ _; omega) (by kernel_rfl) (by simp [Value.oneCell']) (vecsA (bs.set j X)) (by rw [← vecsA_put hjb X, HHV.out]; rfl) ?_
        intro w7 hR7 ho7 hs7 hb7
        have HBA7 := Lib.hid hR7
        have HQ7 : Hid (ArrAt w7 OO gq (q.set j qq)) := ⟨by rw [List.length_set]; exact rowIs_same HOO6.out (ho7 _ hob), rowIs_same HQA6.out (ho7 _ hqb)⟩
        have HBV7 := Lib.hid (rowIs_same HBV6.out (ho7 _ hBb))
        have HVX7 := Lib.hid (rowIs_same HVX6.out (ho7 _ (Ne.symm HQB.out.2.2.1)))
        have HRT7 := Lib.hid (rowIs_same HRT6.out (ho7 _ (by omega)))
        have HON7 := Lib.hid (HON6.out.store (S := gb) (by simp) ho7 hs7)
        have hb07 := hb06.trans (hb7.mono (Nat.zero_le _))
        refine ⟨⟨HQ7.out.ov.cell 0 |>.trans (by rw [List.length_set]; rfl), HRT7.out.cell 0, HRT7.out.cell 1, HBV7.out.cell 0, range_of_row HVX7.out rfl⟩, ?_⟩
        clear RD RD6 hR7 ho7 hs7 hb7 HQA6 HOO6 HBV6 HBA6 HVX6 HRT6 HON6 hb06
        (try simp only [Act.put, List.setIfInBounds_toArray, List.set_cons_zero, List.set_cons_succ])
        refine wpAnyH_done (by kernel_rfl) ?_ _
        go_wp2_with fail
        go_end0
        rw [HST.out]
        exact ⟨rfl, HQ7.out, HBV7.out, HBA7.out, HON7.out, hb07⟩
  · have hne : x = j := by rw [beq_iff_eq] at hxj; omega
    rw [if_pos hne] at HST
    clear hne
    go_quiet (fail)
    go_wp2_with fail
    refine bodyPost_ret (results_none rfl _ _ _) rfl ?_
    rw [HST.out]
    have hbq : Below w1.heap.size w1 (w1.drewN nq) := below_drewN (Below.refl _ _) _
    have hbf := hbW.trans (hbq.mono hbW.size)
    exact ⟨rfl, HQ.out.kept hbq, HBV.out.kept hbq, HBA.out.kept hbq, only_of_below hbf, hbf.mono (Nat.zero_le _)⟩
end Go.Proofs.Ytcmokhpnooldgaa
