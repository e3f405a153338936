/- least.Distances. By an AI agent. -/
import Derived.Test.YtcmokhpnooldgaaLn7
import Derived.Test.YtcmokhpnooldgaaLp1
import Derived.Laws.Cover3
namespace Go.Proofs.Ytcmokhpnooldgaa
open Go.RowKit Go.WideShapes Go.Sort Grow

def startK (r : List Nat) (k : Nat) : List Int := (List.range r.length).map fun i => if i < k ∧ r.getD i 0 ≠ i then 1099511627776 else 0
theorem startK_len (r : List Nat) (k : Nat) : (startK r k).length = r.length := by simp [startK]
theorem startK_zero (r : List Nat) : List.replicate r.length (0 : Int) = startK r 0 := by
  apply List.ext_getElem?
  intro i
  by_cases h : i < r.length <;> simp [startK, h]
theorem startK_all (r : List Nat) : startK r r.length = startD r := by
  unfold startK startD
  refine List.map_congr_left fun i hi => ?_
  have := List.mem_range.1 hi
  by_cases e : r.getD i 0 = i
  · rw [if_neg (fun h => h.2 e), if_pos e]
  · rw [if_pos ⟨this, e⟩, if_neg e]
theorem startK_root {r : List Nat} {k : Nat} (e : r.getD k 0 = k) : startK r (k + 1) = startK r k := by
  unfold startK
  refine List.map_congr_left fun i hi => ?_
  by_cases h : i = k
  · subst h
    rw [if_neg (fun h => h.2 e), if_neg (fun h => h.2 e)]
  · by_cases h1 : i < k
    · by_cases h2 : r.getD i 0 ≠ i
      · rw [if_pos ⟨by omega, h2⟩, if_pos ⟨h1, h2⟩]
      · rw [if_neg (fun h => h2 h.2), if_neg (fun h => h2 h.2)]
    · rw [if_neg (by omega), if_neg (by omega)]
theorem startK_set {r : List Nat} {k : Nat} (hk : k < r.length) (e : r.getD k 0 ≠ k) : (startK r k).set k 1099511627776 = startK r (k + 1) := by
  apply List.ext_getElem?
  intro i
  rw [List.getElem?_set]
  by_cases h : i < r.length
  · by_cases e1 : k = i
    · subst e1
      rw [if_pos rfl, if_pos (by rw [startK_len]; exact h)]
      simp only [startK, List.getElem?_map, List.getElem?_range h, Option.map_some]
      rw [if_pos ⟨by omega, e⟩]
    · rw [if_neg e1]
      simp only [startK, List.getElem?_map, List.getElem?_range h, Option.map_some, Option.some.injEq]
      by_cases h1 : i < k
      · by_cases h2 : r.getD i 0 ≠ i
        · rw [if_pos ⟨h1, h2⟩, if_pos ⟨by omega, h2⟩]
        · rw [if_neg (fun h => h2 h.2), if_neg (fun h => h2 h.2)]
      · rw [if_neg (by omega), if_neg (by omega)]
  · have : k ≠ i := by omega
    rw [if_neg this]
    simp [startK, h]

theorem run_eql_nil18 (a : Option Addr) (l c : Nat) (w : World) : (binOp .eql 35 (.slice a l c) (.slice none 0 0)).run Try.prog w = .ok (.bool a.isNone) w := by
  simp only [binOp]
  simp [run_equal_slice_nil w 35 3 a l c Try.underlying35]
/-- what holds within a round of Distances -/
structure DJ (N : LN) (v : NV) (w : World) (O g : Nat) (s : List Int) (k : Nat) (w' : World) : Prop where
  arr : ArrAt w' O g ((N.dirs.take k).foldl (stD N) s)
  box : RowIs w' w.heap.size 32 #[.slice v.ai N.ids.length v.ci, .slice v.ac N.costs.length v.cc, .slice v.al N.links.length v.cl]
  bel : Below w.heap.size w w'

set_option maxRecDepth 20000 in
set_option maxHeartbeats 2000000 in
theorem dist_round (v : NV) (N : LN) (w w1 : World) (h : NetAt w v N) (hl : N.links.length ≤ 1000) (hok : N.Ok) (O g : Nat) (r : List Nat) (hr : IsRoots N r) (s : List Int) (hs : DInv N r s)
    (h0 : DJ N v w O g s 0 w1) (hO : w.heap.size ≤ O) (hg : w.heap.size ≤ g) :
    Calls Try.prog 29 #[.agg #[.slice v.ai N.ids.length v.ci, .slice v.ac N.costs.length v.cc, .slice v.al N.links.length v.cl], .func (.func 31) #[] #[.pointer (some ⟨O, 0, none⟩), .pointer (some ⟨w.heap.size, 0, none⟩)]] w1
      fun e w' => e = .returned (.tuple #[]) ∧ DJ N v w O g s N.dirs.length w' := by
  have hgs := h0.arr.arr.lt
  refine both18 31 _ v N w1 (DJ N v w O g s) [g] (enters_of Try.func31 (by kernel_rfl) rfl) (by simp; exact hgs) (fun k w' hj => h.kept hj.bel)
    (fun k w' w'' hj hb => ⟨hj.arr.kept hb, hj.box.kept hb, hj.bel.trans (hb.mono hj.bel.size)⟩) ?_ h0 hl
  intro k d w' hd hj
  have hmem := List.mem_of_getElem? hd
  have hk : k < N.dirs.length := (List.getElem?_eq_some_iff.1 hd).1
  have hinv : DInv N r ((N.dirs.take k).foldl (stD N) s) := fold_inv (N := N) (I := DInv N r) (fun s d hd h => h.step hok hr hd) _ _ (fun d hd => List.mem_of_mem_take hd) hs
  have h1 := hok.from_lt hmem
  have h2 := hok.to_lt hmem
  have hSg : w.heap.size ≠ g := rowIs_ne hj.box hj.arr.arr (by decide)
  have hq : (d.q.toNat : Int) = d.q := Int.toNat_of_nonneg h2.2.2.1
  have hdd : d = ⟨(d.i : Nat), d.p, (d.j : Nat), (d.q.toNat : Nat)⟩ := by
    have := LN.dir_nat hok hmem
    rw [hq]
    exact this
  refine (distC v N w' w.heap.size O g _ (h.kept hj.bel) hj.box hj.arr (fun x hx => ?_) d.i d.j d.q.toNat d.p (by rw [hinv.len]; exact h1.2.1) (by rw [hinv.len]; exact h2.2.1) (by have := hok.len; omega) h2.2.2.2 (hok.cost_le hmem) d hdd).mono ?_
  · obtain ⟨m, hm, rfl⟩ := List.mem_iff_getElem.1 hx
    have := hinv.bd m (by rw [← hinv.len]; exact hm)
    rwa [List.getD, List.getElem?_eq_getElem hm] at this
  · rintro e w2 ⟨he, ha, ho, hb⟩
    refine ⟨he, ⟨?_, rowIs_same hj.box (ho.2 _ hj.box.lt (by simp; exact hSg)), ?_⟩, ho⟩
    · rw [take_snoc hd, List.foldl_append]; exact ha
    · exact hj.bel.trans (below_of_only ho hb hj.bel.size (by simp; exact hg))

set_option maxRecDepth 20000 in
set_option maxHeartbeats 4000000 in
theorem dist_no (v : NV) (N : LN) (w : World) (h : NetAt w v N) (hl : N.links.length ≤ 1000) (hno : N.right = false) :
    Calls Try.prog 14 #[.agg #[.slice v.ai N.ids.length v.ci, .slice v.ac N.costs.length v.cc, .slice v.al N.links.length v.cl]] w fun e w' => e = .returned (.slice none 0 0) ∧ Below w.heap.size w w' := by
  have HN := Lib.hid h
  clear h
  go_enter Try.func14, Try.ntmps14
  go_upto_region 1 with fail
  generalize hW : w.alloc _ = w1
  have hbW : Below w.heap.size w w1 := by rw [← hW]; exact (Below.refl _ _).alloc (Nat.le_refl _) _
  have R0 : Hid (RowIs w1 w.heap.size 32 #[.slice v.ai N.ids.length v.ci, .slice v.ac N.costs.length v.cc, .slice v.al N.links.length v.cl]) := by subst hW; exact rowIs_new w _ _
  clear hW
  have HRT := Lib.hid (roots_no v N w1 (HN.out.kept hbW) hl hno)
  have hnl : ∀ w : World, (binOp .eql 35 (.slice none 0 0) (.slice none 0 0)).run Try.prog w = .ok (.bool true) w := fun w => run_eql_nil18 none 0 0 w
  go_wp2_with ((with_reducible refine at_load 32 (.tmp 1) ?_); refine wpList_load_own rfl 32 (.tmp 1) rfl w.heap.size rfl _ _ _ R0.out Try.underlying32 rfl (by kernel_rfl) ?_)
  refine HRT.out.mono ?_
  rintro e w2 ⟨rfl, hb2⟩
  go_wp2_with fail
  go_ret
  exact ⟨rfl, hbW.trans (hb2.mono hbW.size)⟩

set_option maxRecDepth 20000 in
set_option maxHeartbeats 4000000 in
theorem dist_yes (v : NV) (N : LN) (w : World) (h : NetAt w v N) (hl : N.links.length ≤ 1000) (hok : N.Ok) (R : List Nat) (hR : IsRoots N R) (D : List Int) (hD : IsDist N R D) :
    Calls Try.prog 14 #[.agg #[.slice v.ai N.ids.length v.ci, .slice v.ac N.costs.length v.cc, .slice v.al N.links.length v.cl]] w fun e w' => (∃ g, e = .returned (.slice (some ⟨g, 0, none⟩) N.ids.length N.ids.length) ∧ RowIs w' g 3 (intsA D) ∧ w.heap.size ≤ g) ∧ Below w.heap.size w w' := by
  have HN := Lib.hid h
  have HOK := Lib.hid hok
  have HR := Lib.hid hR
  have HD : Hid (rounds18 (stD N) N.dirs N.ids.length (startD R) = D) := (dist_is hok hR).uniq hD
  have HDI : Hid (∀ k, DInv N R (rounds18 (stD N) N.dirs k (startD R))) := fun k => rounds_inv (N := N) (step := stD N) (I := DInv N R) (fun s d hd h => h.step hok hR hd) (startD R) (dinv_start hR) k
  have hn16 := hok.n16
  have HRL : Hid (R.length = N.ids.length) := hR.len
  clear h hok hR hD
  go_enter Try.func14, Try.ntmps14
  go_upto_region 1 with fail
  generalize hW : w.alloc _ = w1
  have hbW : Below w.heap.size w w1 := by rw [← hW]; exact (Below.refl _ _).alloc (Nat.le_refl _) _
  have R0 : Hid (RowIs w1 w.heap.size 32 #[.slice v.ai N.ids.length v.ci, .slice v.ac N.costs.length v.cc, .slice v.al N.links.length v.cl]) := by subst hW; exact rowIs_new w _ _
  clear hW
  have HRT := Lib.hid (roots_yes v N w1 (HN.out.kept hbW) hl HOK.out R HR.out)
  go_wp2_with ((with_reducible refine at_load 32 (.tmp 1) ?_); refine wpList_load_own rfl 32 (.tmp 1) rfl w.heap.size rfl _ _ _ R0.out Try.underlying32 rfl (by kernel_rfl) ?_)
  refine HRT.out.mono ?_
  rintro e w2 ⟨⟨gr, rfl, hgr, hgl⟩, hb2⟩
  have hbW2 := hbW.trans (hb2.mono hbW.size)
  have R02 := Lib.hid (R0.out.kept hb2)
  have HG2 := Lib.hid hgr
  have hsw2 : w.heap.size < w2.heap.size := R02.out.lt
  have hgr2 : gr < w2.heap.size := hgr.lt
  have hmk := run_make_ints N.ids.length (by omega) w2
  have hnl : ∀ w : World, (binOp .eql 35 (.slice (some ⟨gr, 0, none⟩) N.ids.length N.ids.length) (.slice none 0 0)).run Try.prog w = .ok (.bool false) w := fun w => run_eql_nil18 _ _ _ w
  clear hb2 hbW R0 HRT hgr
  go_upto_region 5 with fail
  have RA := Lib.hid (rowIs_new w2 3 (intsA (List.replicate N.ids.length 0)))
  have R03 := Lib.hid (R02.out.alloc (.cells (intsA (List.replicate N.ids.length 0)) 3))
  have HG3 := Lib.hid (HG2.out.alloc (.cells (intsA (List.replicate N.ids.length 0)) 3))
  have hbW3 := hbW2.alloc hbW2.size (.cells (intsA (List.replicate N.ids.length 0)) 3)
  generalize hW3 : w2.alloc (.cells (intsA (List.replicate N.ids.length 0)) 3) = w3 at *
  have hs3 : w3.heap.size = w2.heap.size + 1 := by rw [← hW3]; simp
  have RO := Lib.hid (rowIs_new w3 35 #[.slice (some ⟨w2.heap.size, 0, none⟩) N.ids.length N.ids.length])
  have RA4 := Lib.hid (RA.out.alloc (.cells #[.slice (some ⟨w2.heap.size, 0, none⟩) N.ids.length N.ids.length] 35))
  have R04 := Lib.hid (R03.out.alloc (.cells #[.slice (some ⟨w2.heap.size, 0, none⟩) N.ids.length N.ids.length] 35))
  have HG4 := Lib.hid (HG3.out.alloc (.cells #[.slice (some ⟨w2.heap.size, 0, none⟩) N.ids.length N.ids.length] 35))
  have hbW4 := hbW3.alloc hbW3.size (.cells #[.slice (some ⟨w2.heap.size, 0, none⟩) N.ids.length N.ids.length] 35)
  rw [hs3] at RO
  clear hbW3 R03 RA hmk R02 HG2 HG3
  generalize w3.alloc _ = w4 at *
  have HZ : Hid (List.replicate N.ids.length (0 : Int) = startK R 0) := by show _ = _; rw [← HRL.out]; exact startK_zero R
  rw [HZ.out] at RA4
  have AA : Hid (ArrAt w4 (w2.heap.size + 1) w2.heap.size (startK R 0)) := ⟨by rw [startK_len, HRL.out]; exact RO.out, RA4.out⟩
  clear RO RA4 hs3 hW3 HZ
  generalize w2.heap.size = g at *
  go_wp2_with fail
  go_loopw [5, 6, 16] (fun _ _ s16 wr => ∃ k : Nat, k ≤ N.ids.length ∧ s16 = .int .i64 k ∧ Hid (ArrAt wr (g + 1) g (startK R k)) ∧ Hid (RowIs wr w.heap.size 32 #[.slice v.ai N.ids.length v.ci, .slice v.ac N.costs.length v.cc, .slice v.al N.links.length v.cl]) ∧ Hid (RowIs wr gr 3 (intsA (natI R))) ∧ Below w.heap.size w wr) (fun _ _ s16 _ => N.ids.length - (intOf s16).toNat)
  case atStart => exact ⟨0, Nat.zero_le _, rfl, AA, R04, HG4, hbW4⟩
  case round =>
    clear AA R04 hbW4 HG4
    rename World => wr
    obtain ⟨k, hk, rfl, AA, R0, HG, hbr⟩ := hrel
    by_cases hlt : k < N.ids.length
    · have cO : wr.cell? ⟨g + 1, 0, none⟩ = some (.slice (some ⟨g, 0, none⟩) N.ids.length N.ids.length) := by
        have := AA.out.ov.cell 0
        rw [startK_len, HRL.out] at this
        exact this
      have hkR : k < R.length := by rw [HRL.out]; exact hlt
      have cR : wr.cell? ⟨gr, k, none⟩ = some (.int .i64 (R.getD k 0 : Nat)) := by
        rw [HG.out.cell, intsA_get (by rw [natI_len]; exact hkR), natI_get hkR]
      have HRO := Lib.hid (fun (e : R.getD k 0 = k) => startK_root e)
      have HSE := Lib.hid (fun (e : R.getD k 0 ≠ k) => startK_set hkR e)
      clear hkR
      generalize R.getD k 0 = x at *
      have hx0 : (0 : Int) ≤ (k : Int) := by omega
      have hx1 : (k : Int) < (N.ids.length : Int) := by omega
      cases hq : ((k : Int) == (x : Int))
      · have hne : x ≠ k := by rw [beq_eq_false_iff_ne] at hq; omega
        go_wp2_with ((with_reducible refine at_store 3 (.tmp 26) (.const (.int .i64 1099511627776)) ?_); refine wpList_store_cell rfl 3 (.tmp 26) (.const (.int .i64 1099511627776)) rfl g k _ rfl rfl 3 _ AA.out.arr (by rw [intsA_size, startK_len, HRL.out]; exact hlt) (by kernel_rfl) rfl w.heap.size (by omega) ?_)
        intro w5 hR5 ho5 hs5 hb5
        rw [intsA_set, HSE.out hne] at hR5
        have HA5 : Hid (ArrAt w5 (g + 1) g (startK R (k + 1))) := ⟨by
          have := rowIs_same AA.out.ov (ho5 _ (by omega))
          rw [startK_len] at this
          rw [startK_len]
          exact this, hR5⟩
        have HR5 := Lib.hid (rowIs_same R0.out (ho5 _ (by omega)))
        have HG5 := Lib.hid (rowIs_same HG.out (ho5 _ (by omega)))
        have hbr5 := hbr.trans hb5
        clear hR5 ho5 hs5 hb5 AA R0 cO cR HG
        go_wp2_with fail
        exact ⟨⟨k + 1, by omega, by go_num, HA5, HR5, HG5, hbr5⟩, by simp [intOf]; omega⟩
      · have he : x = k := by rw [beq_iff_eq] at hq; omega
        have AA5 : Hid (ArrAt wr (g + 1) g (startK R (k + 1))) := by
          show ArrAt _ _ _ _
          rw [HRO.out he]
          exact AA.out
        clear he AA
        go_wp2_with fail
        exact ⟨⟨k + 1, by omega, by go_num, AA5, R0, HG, hbr⟩, by simp [intOf]; omega⟩
    · obtain rfl : k = N.ids.length := by omega
      have AA : Hid (ArrAt wr (g + 1) g (rounds18 (stD N) N.dirs 0 (startD R))) := by
        have h := AA.out
        rw [← HRL.out, startK_all] at h
        exact h
      go_wp2_with fail
      go_loopw [30] (fun s30 wr => ∃ m : Nat, m ≤ N.ids.length ∧ s30 = .int .i64 m ∧ Hid (ArrAt wr (g + 1) g (rounds18 (stD N) N.dirs m (startD R))) ∧ Hid (RowIs wr w.heap.size 32 #[.slice v.ai N.ids.length v.ci, .slice v.ac N.costs.length v.cc, .slice v.al N.links.length v.cl]) ∧ Below w.heap.size w wr) (fun s30 _ => N.ids.length - (intOf s30).toNat)
      case atStart => exact ⟨0, Nat.zero_le _, rfl, AA, R0, hbr⟩
      case round =>
        clear AA R0 hbr hlt hk HG
        rename World => wr
        obtain ⟨m, hm, rfl, AA, R0, hbr⟩ := hrel
        by_cases hlt : m < N.ids.length
        · have HCA := Lib.hid (dist_round v N w wr HN.out hl HOK.out (g + 1) g R HR.out _ (HDI.out m) ⟨AA.out, R0.out, hbr⟩ (by omega) (by omega))
          have HRS : Hid (rounds18 (stD N) N.dirs (m + 1) (startD R) = (N.dirs.take N.dirs.length).foldl (stD N) (rounds18 (stD N) N.dirs m (startD R))) := by
            show _ = _
            rw [List.take_length]
            rfl
          go_wp2_with ((with_reducible refine at_load 32 (.tmp 1) ?_); refine wpList_load_own rfl 32 (.tmp 1) rfl w.heap.size rfl _ _ _ R0.out Try.underlying32 rfl (by kernel_rfl) ?_)
          refine HCA.out.mono ?_
          rintro e w6 ⟨rfl, hj6⟩
          have AA6 : Hid (ArrAt w6 (g + 1) g (rounds18 (stD N) N.dirs (m + 1) (startD R))) := by
            show ArrAt _ _ _ _
            rw [HRS.out]
            exact hj6.arr
          have R06 := Lib.hid hj6.box
          have hbr6 := hj6.bel
          clear hj6 HCA AA R0 hbr
          go_wp2_with fail
          exact ⟨⟨m + 1, by omega, by go_num, AA6, R06, hbr6⟩, by simp [intOf]; omega⟩
        · obtain rfl : m = N.ids.length := by omega
          rw [HD.out] at AA
          have HDL : Hid (D.length = N.ids.length) := by show _ = _; rw [← HD.out]; exact (HDI.out _).len
          have cO : wr.cell? ⟨g + 1, 0, none⟩ = some (.slice (some ⟨g, 0, none⟩) N.ids.length N.ids.length) := by
            have := AA.out.ov.cell 0
            rw [HDL.out] at this
            exact this
          go_wp2_with fail
          go_ret
          exact ⟨⟨g, rfl, AA.out.arr, by omega⟩, hbr⟩
end Go.Proofs.Ytcmokhpnooldgaa
