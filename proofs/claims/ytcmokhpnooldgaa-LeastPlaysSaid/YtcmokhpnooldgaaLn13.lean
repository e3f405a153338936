/- least.Forwards. By an AI agent. -/
import Derived.Test.YtcmokhpnooldgaaLn12
namespace Go.Proofs.Ytcmokhpnooldgaa
open Go.RowKit Go.WideShapes Go.Sort Grow

/-- what Forwards answers -/
def forwB (N : LN) (D q : List Int) (b p : Int) : Bool := N.dirs.foldl (stF N D b p) true || (q.getD b.toNat 0 == p)

/-- what holds within Forwards' walk over the links -/
structure FJ (N : LN) (v : NV) (w : World) (D : List Int) (b p : Int) (O g C : Nat) (k : Nat) (w' : World) : Prop where
  dd : ArrAt w' O g D
  ch : RowIs w' C 4 #[.bool ((N.dirs.take k).foldl (stF N D b p) true)]
  at' : RowIs w' (w.heap.size + 1) 63 #[.int .i64 b, .int .i64 p]
  box : RowIs w' w.heap.size 32 #[.slice v.ai N.ids.length v.ci, .slice v.ac N.costs.length v.cc, .slice v.al N.links.length v.cl]
  bel : Below w.heap.size w w'

set_option maxRecDepth 20000 in
set_option maxHeartbeats 2000000 in
theorem forw_round (v : NV) (N : LN) (w w1 : World) (h : NetAt w v N) (hl : N.links.length ≤ 1000) (hok : N.Ok) (D : List Int) (hD : D.length = N.ids.length) (b p : Int) (O g C : Nat)
    (h0 : FJ N v w D b p O g C 0 w1) (hC : w.heap.size ≤ C) :
    Calls Try.prog 29 #[.agg #[.slice v.ai N.ids.length v.ci, .slice v.ac N.costs.length v.cc, .slice v.al N.links.length v.cl], .func (.func 34) #[] #[.pointer (some ⟨w.heap.size + 1, 0, none⟩), .pointer (some ⟨w.heap.size, 0, none⟩), .pointer (some ⟨O, 0, none⟩), .pointer (some ⟨C, 0, none⟩)]] w1
      fun e w' => e = .returned (.tuple #[]) ∧ FJ N v w D b p O g C N.dirs.length w' := by
  have hCs := h0.ch.lt
  refine both18 34 _ v N w1 (FJ N v w D b p O g C) [C] (enters_of Try.func34 (by kernel_rfl) rfl) (by simp; exact hCs) (fun k w' hj => h.kept hj.bel)
    (fun k w' w'' hj hb => ⟨hj.dd.kept hb, hj.ch.kept hb, hj.at'.kept hb, hj.box.kept hb, hj.bel.trans (hb.mono hj.bel.size)⟩) ?_ h0 hl
  intro k d w' hd hj
  have hmem := List.mem_of_getElem? hd
  have h1 := hok.from_lt hmem
  have h2 := hok.to_lt hmem
  have n1 : w.heap.size ≠ C := rowIs_ne hj.box hj.ch (by decide)
  have n2 : w.heap.size + 1 ≠ C := rowIs_ne hj.at' hj.ch (by decide)
  have n3 : O ≠ C := rowIs_ne hj.dd.ov hj.ch (by decide)
  have n4 : g ≠ C := rowIs_ne hj.dd.arr hj.ch (by decide)
  have bd : ∀ i, i < N.ids.length → (N.cs i).length ≤ 32 := fun i hi => by
    have h3 := hok.cost (N.cs i) (LN.cs_mem (by have := hok.len; omega))
    unfold okCosts at h3
    simp only [Bool.and_eq_true, decide_eq_true_eq] at h3
    exact h3.1
  have b1 := bd _ h1.2.1
  have b2 := bd _ h2.2.1
  refine (forwC v N w' w.heap.size (w.heap.size + 1) O C (h.kept hj.bel) hj.box b p hj.at' (some ⟨g, 0, none⟩) D D.length hj.dd.ints hj.dd.ov _ hj.ch d.i d.j d.p d.q (by omega) (by omega) h1.2.1 h2.2.1 (by have := Int.toNat_of_nonneg h1.2.2.1; omega) (by have := Int.toNat_of_nonneg h2.2.2.1; omega) d (LN.dir_nat hok hmem)).mono ?_
  rintro e w2 ⟨he, hc, ho, hb⟩
  have nn : ∀ x, x ≠ C → x ∉ [C] := fun x h1 => by simpa using h1
  refine ⟨he, ⟨hj.dd.only ho (nn _ n3) (nn _ n4), ?_, rowIs_same hj.at' (ho.2 _ hj.at'.lt (nn _ n2)), rowIs_same hj.box (ho.2 _ hj.box.lt (nn _ n1)), ?_⟩, ho⟩
  · rw [take_snoc hd, List.foldl_append]; exact hc
  · exact hj.bel.trans (below_of_only ho hb hj.bel.size (by simp; exact hC))

set_option maxRecDepth 20000 in
set_option maxHeartbeats 2000000 in
theorem forw_no (v : NV) (N : LN) (b p : Int) (w : World) (h : NetAt w v N) (hl : N.links.length ≤ 1000) (hno : N.right = false ∨ N.has b p = false) :
    Calls Try.prog 16 #[.agg #[.slice v.ai N.ids.length v.ci, .slice v.ac N.costs.length v.cc, .slice v.al N.links.length v.cl], .int .i64 b, .int .i64 p] w fun e w' => e = .returned (.bool false) ∧ Below w.heap.size w w' := by
  have HN := Lib.hid h
  clear h
  go_enter Try.func16, Try.ntmps16
  go_upto_region 2 with fail
  generalize hW : (w.alloc _).alloc _ = w1
  have hbW : Below w.heap.size w w1 := by rw [← hW]; exact ((Below.refl _ _).alloc (Nat.le_refl _) _).alloc (by simp) _
  have R0 : Hid (RowIs w1 w.heap.size 32 #[.slice v.ai N.ids.length v.ci, .slice v.ac N.costs.length v.cc, .slice v.al N.links.length v.cl]) := by subst hW; exact (rowIs_new w _ _).alloc _
  have RE : Hid (RowIs w1 (w.heap.size + 1) 63 #[.int .i64 b, .int .i64 p]) := by subst hW; exact rowIs_new1 w _ _ _
  clear hW
  have HRT := Lib.hid (right18 v N w1 (HN.out.kept hbW) hl)
  cases hr : N.right
  · rw [hr] at HRT
    go_wp2_with (first | ((with_reducible refine at_load 32 (.tmp 3) ?_); refine wpList_load_own rfl 32 (.tmp 3) rfl w.heap.size rfl _ _ _ R0.out Try.underlying32 rfl (by kernel_rfl) ?_) | ((with_reducible refine at_load 63 (.tmp 7) ?_); refine wpList_load_own rfl 63 (.tmp 7) rfl (w.heap.size + 1) rfl _ _ _ RE.out Try.underlying63 rfl (by kernel_rfl) ?_))
    refine HRT.out.mono ?_
    rintro e w2 ⟨rfl, hb2⟩
    go_wp2_with fail
    go_ret
    exact ⟨rfl, hbW.trans (hb2.mono hbW.size)⟩
  · rw [hr] at HRT
    have hh : N.has b p = false := by
      rcases hno with h | h
      · rw [hr] at h; cases h
      · exact h
    go_wp2_with (first | ((with_reducible refine at_load 32 (.tmp 3) ?_); refine wpList_load_own rfl 32 (.tmp 3) rfl w.heap.size rfl _ _ _ R0.out Try.underlying32 rfl (by kernel_rfl) ?_) | ((with_reducible refine at_load 63 (.tmp 7) ?_); refine wpList_load_own rfl 63 (.tmp 7) rfl (w.heap.size + 1) rfl _ _ _ RE.out Try.underlying63 rfl (by kernel_rfl) ?_))
    refine HRT.out.mono ?_
    rintro e w2 ⟨rfl, hb2⟩
    have R02 := Lib.hid (R0.out.kept hb2)
    have RE2 := Lib.hid (RE.out.kept hb2)
    have hbW2 := hbW.trans (hb2.mono hbW.size)
    have HIS := Lib.hid (is18 v N b p w2 (HN.out.kept hbW2))
    rw [hh] at HIS
    clear hb2 R0 RE HRT
    go_wp2_with (first | ((with_reducible refine at_load 32 (.tmp 3) ?_); refine wpList_load_own rfl 32 (.tmp 3) rfl w.heap.size rfl _ _ _ R02.out Try.underlying32 rfl (by kernel_rfl) ?_) | ((with_reducible refine at_load 63 (.tmp 7) ?_); refine wpList_load_own rfl 63 (.tmp 7) rfl (w.heap.size + 1) rfl _ _ _ RE2.out Try.underlying63 rfl (by kernel_rfl) ?_))
    refine HIS.out.mono ?_
    rintro e w3 ⟨rfl, hb3⟩
    go_wp2_with fail
    go_ret
    exact ⟨rfl, hbW2.trans (hb3.mono hbW2.size)⟩

set_option maxRecDepth 20000 in
set_option maxHeartbeats 4000000 in
theorem forw_yes (v : NV) (N : LN) (b p : Int) (w : World) (h : NetAt w v N) (hl : N.links.length ≤ 1000) (hok : N.Ok) (R : List Nat) (hR : IsRoots N R) (D : List Int) (hD : IsDist N R D) (q : List Int) (hq : IsPorts N R D q) (hh : N.has b p = true) :
    Calls Try.prog 16 #[.agg #[.slice v.ai N.ids.length v.ci, .slice v.ac N.costs.length v.cc, .slice v.al N.links.length v.cl], .int .i64 b, .int .i64 p] w fun e w' => e = .returned (.bool (forwB N D q b p)) ∧ Below w.heap.size w w' := by
  have HN := Lib.hid h
  have HOK := Lib.hid hok
  have HR := Lib.hid hR
  have HD := Lib.hid hD
  have HQQ := Lib.hid hq
  have HFB : Hid (forwB N D q b p = ((N.dirs.take N.dirs.length).foldl (stF N D b p) true || (q.getD b.toNat 0 == p))) := by
    show _ = _
    rw [List.take_length]
    rfl
  have hb0 := LN.has_iff.1 hh
  have hlen := hok.len
  obtain ⟨bn, rfl⟩ := Int.eq_ofNat_of_zero_le hb0.1
  have hbn : bn < N.ids.length := by have := hb0.2.1; omega
  have HDL : Hid (D.length = N.ids.length) := hD.len
  have HQL : Hid (q.length = N.ids.length) := hq.len
  clear h hok hR hD hq hb0 hlen
  go_enter Try.func16, Try.ntmps16
  go_upto_region 2 with fail
  generalize hW : (w.alloc _).alloc _ = w1
  have hbW : Below w.heap.size w w1 := by rw [← hW]; exact ((Below.refl _ _).alloc (Nat.le_refl _) _).alloc (by simp) _
  have R0 : Hid (RowIs w1 w.heap.size 32 #[.slice v.ai N.ids.length v.ci, .slice v.ac N.costs.length v.cc, .slice v.al N.links.length v.cl]) := by subst hW; exact (rowIs_new w _ _).alloc _
  have RE : Hid (RowIs w1 (w.heap.size + 1) 63 #[.int .i64 bn, .int .i64 p]) := by subst hW; exact rowIs_new1 w _ _ _
  clear hW
  have HRT := Lib.hid (right18 v N w1 (HN.out.kept hbW) hl)
  rw [right_iff.2 HOK.out] at HRT
  go_wp2_with (first | ((with_reducible refine at_load 32 (.tmp 3) ?_); refine wpList_load_own rfl 32 (.tmp 3) rfl w.heap.size rfl _ _ _ R0.out Try.underlying32 rfl (by kernel_rfl) ?_) | ((with_reducible refine at_load 63 (.tmp 7) ?_); refine wpList_load_own rfl 63 (.tmp 7) rfl (w.heap.size + 1) rfl _ _ _ RE.out Try.underlying63 rfl (by kernel_rfl) ?_))
  refine HRT.out.mono ?_
  rintro e w2 ⟨rfl, hb2⟩
  have R02 := Lib.hid (R0.out.kept hb2)
  have RE2 := Lib.hid (RE.out.kept hb2)
  have hbW2 := hbW.trans (hb2.mono hbW.size)
  have HIS := Lib.hid (is18 v N bn p w2 (HN.out.kept hbW2))
  rw [hh] at HIS
  clear hb2 R0 RE HRT hbW
  go_wp2_with (first | ((with_reducible refine at_load 32 (.tmp 3) ?_); refine wpList_load_own rfl 32 (.tmp 3) rfl w.heap.size rfl _ _ _ R02.out Try.underlying32 rfl (by kernel_rfl) ?_) | ((with_reducible refine at_load 63 (.tmp 7) ?_); refine wpList_load_own rfl 63 (.tmp 7) rfl (w.heap.size + 1) rfl _ _ _ RE2.out Try.underlying63 rfl (by kernel_rfl) ?_))
  refine HIS.out.mono ?_
  rintro e w3 ⟨rfl, hb3⟩
  have R03 := Lib.hid (R02.out.kept hb3)
  have RE3 := Lib.hid (RE2.out.kept hb3)
  have hbW3 := hbW2.trans (hb3.mono hbW2.size)
  have HDY := Lib.hid (dist_yes v N w3 (HN.out.kept hbW3) hl HOK.out R HR.out D HD.out)
  clear hb3 R02 RE2 HIS hbW2
  go_wp2_with (first | ((with_reducible refine at_load 32 (.tmp 3) ?_); refine wpList_load_own rfl 32 (.tmp 3) rfl w.heap.size rfl _ _ _ R03.out Try.underlying32 rfl (by kernel_rfl) ?_) | ((with_reducible refine at_load 63 (.tmp 7) ?_); refine wpList_load_own rfl 63 (.tmp 7) rfl (w.heap.size + 1) rfl _ _ _ RE3.out Try.underlying63 rfl (by kernel_rfl) ?_))
  refine HDY.out.mono ?_
  rintro e w4 ⟨⟨g, rfl, hg4, hgl⟩, hb4⟩
  have R04 := Lib.hid (R03.out.kept hb4)
  have RE4 := Lib.hid (RE3.out.kept hb4)
  have HG4 := Lib.hid hg4
  have hbW4 := hbW3.trans (hb4.mono hbW3.size)
  clear hb4 R03 RE3 HDY hbW3 hg4
  go_upto_region 6 with fail
  have hbx : Below w4.heap.size w4 ((w4.alloc (.cells #[.slice (some ⟨g, 0, none⟩) N.ids.length N.ids.length] 35)).alloc (.cells #[.bool true] 4)) := ((Below.refl _ _).alloc (Nat.le_refl _) _).alloc (by simp) _
  have RO := Lib.hid ((rowIs_new w4 35 #[.slice (some ⟨g, 0, none⟩) N.ids.length N.ids.length]).alloc (.cells #[.bool true] 4))
  have RC := Lib.hid (rowIs_new1 w4 (.cells #[.slice (some ⟨g, 0, none⟩) N.ids.length N.ids.length] 35) 4 #[.bool true])
  have R05 := Lib.hid (R04.out.kept hbx)
  have RE5 := Lib.hid (RE4.out.kept hbx)
  have HG5 := Lib.hid (HG4.out.kept hbx)
  have hbW5 := hbW4.trans (hbx.mono hbW4.size)
  have hsz := hbW4.size
  clear hbx R04 RE4 HG4
  generalize (w4.alloc (.cells #[.slice (some ⟨g, 0, none⟩) N.ids.length N.ids.length] 35)).alloc (.cells #[.bool true] 4) = w5 at *
  generalize w4.heap.size = O at *
  have HAD : Hid (ArrAt w5 O g D) := ⟨by rw [HDL.out]; exact RO.out, HG5.out⟩
  have HJ0 : Hid (FJ N v w D bn p O g (O + 1) 0 w5) := ⟨HAD.out, RC.out, RE5.out, R05.out, hbW5⟩
  have HCA := Lib.hid (forw_round v N w w5 HN.out hl HOK.out D HDL.out bn p O g (O + 1) HJ0.out (by omega))
  clear HJ0 HAD RO RC RE5 HG5 hbW5
  go_wp2_with (first | ((with_reducible refine at_load 32 (.tmp 3) ?_); refine wpList_load_own rfl 32 (.tmp 3) rfl w.heap.size rfl _ _ _ R05.out Try.underlying32 rfl (by kernel_rfl) ?_) | ((with_reducible refine at_load 63 (.tmp 7) ?_); refine wpList_load_own rfl 63 (.tmp 7) rfl (w.heap.size + 1) rfl _ _ _ RE5.out Try.underlying63 rfl (by kernel_rfl) ?_))
  refine HCA.out.mono ?_
  rintro e w6 ⟨rfl, hj6⟩
  have RC6 := Lib.hid hj6.ch
  have R06 := Lib.hid hj6.box
  have hbW6 := hj6.bel
  clear hj6 HCA R05
  generalize (N.dirs.take N.dirs.length).foldl (stF N D bn p) true = o at *
  have cC : w6.cell? ⟨O + 1, 0, none⟩ = some (.bool o) := RC6.out.cell 0
  cases o
  · have HPY := Lib.hid (ports_yes v N w6 (HN.out.kept hbW6) hl HOK.out R HR.out D HD.out q HQQ.out)
    go_wp2_with ((with_reducible refine at_load 32 (.tmp 3) ?_); refine wpList_load_own rfl 32 (.tmp 3) rfl w.heap.size rfl _ _ _ R06.out Try.underlying32 rfl (by kernel_rfl) ?_)
    refine HPY.out.mono ?_
    rintro e w7 ⟨⟨g7, rfl, hg7, _⟩, hb7⟩
    have cq : w7.cell? ⟨g7, bn, none⟩ = some (.int .i64 (q.getD bn 0)) := by
      rw [hg7.cell, intsA_get (by rw [HQL.out]; exact hbn)]
    have hbf := hbW6.trans (hb7.mono hbW6.size)
    rw [Int.toNat_natCast] at HFB
    generalize q.getD bn 0 = z at *
    have hx0 : (0 : Int) ≤ (bn : Int) := by omega
    have hx1 : (bn : Int) < (N.ids.length : Int) := by omega
    clear hb7 hg7 HPY cC
    go_wp2_with fail
    go_ret
    rw [HFB.out]
    exact ⟨rfl, hbf⟩
  · go_wp2_with fail
    go_ret
    rw [HFB.out]
    exact ⟨rfl, hbW6⟩
end Go.Proofs.Ytcmokhpnooldgaa
