/- least.Roots. By an AI agent. -/
import Derived.Test.YtcmokhpnooldgaaLp0
import Derived.Deep.OwnRows
import Derived.WalkMore
import Derived.Shelf.Abstract
namespace Go.Proofs.Ytcmokhpnooldgaa
open Go.RowKit Go.WideShapes Go.Sort Grow

theorem int_info18 : (Try.prog.info? 3).map (fun i => (i.zero, i.size, i.bytes)) = some (some (.int .i64 0), 1, 8) := by kernel_rfl
theorem made_zeros (n : Nat) : madeCells #[Value.int .i64 0] n = intsA (List.replicate n 0) := by
  apply Array.ext_getElem?
  intro i
  by_cases h : i < n
  · simp [madeCells, intsA, h, Nat.mod_one]
  · simp [madeCells, intsA, h]
theorem run_make_ints (n : Nat) (hn : n ≤ 1000000) (w : World) : (Instr.makeSlice 35 (.int .i64 (n : Nat)) (.int .i64 (n : Nat))).run Try.prog w = .ok (.slice (some ⟨w.heap.size, 0, none⟩) (n : Nat) (n : Nat)) (w.alloc (.cells (intsA (List.replicate n 0)) 3)) := by
  rw [← made_zeros]
  exact Go.run_make_row' (P := Try.prog) 35 3 (.int .i64 0) 8 Try.underlying35 int_info18 rfl .i64 .i64 n (by omega) (by omega) w
/-- 0, 1, .. up to k, and 0 behind -/
def fillR (n k : Nat) : List Nat := (List.range n).map fun i => if i < k then i else 0
theorem fillR_len (n k : Nat) : (fillR n k).length = n := by simp [fillR]
theorem fillR_zero (n : Nat) : natI (fillR n 0) = List.replicate n 0 := by
  apply List.ext_getElem?
  intro i
  by_cases h : i < n <;> simp [natI, fillR, h]
theorem fillR_set {n k : Nat} (hk : k < n) : (fillR n k).set k k = fillR n (k + 1) := by
  apply List.ext_getElem?
  intro i
  rw [List.getElem?_set]
  by_cases h : i < n
  · by_cases e : k = i
    · subst e
      simp [fillR, h]
    · rw [if_neg e]
      simp only [fillR, List.getElem?_map, List.getElem?_range h, Option.map_some, Option.some.injEq]
      by_cases h1 : i < k
      · rw [if_pos h1, if_pos (by omega)]
      · rw [if_neg h1, if_neg (by omega)]
  · have : k ≠ i := by omega
    rw [if_neg this]
    simp [fillR, h]
theorem fillR_all (n : Nat) : fillR n n = List.range n := by
  unfold fillR
  conv => rhs; rw [← List.map_id (List.range n)]
  refine List.map_congr_left fun i hi => ?_
  rw [if_pos (List.mem_range.1 hi)]
  rfl
/-- the numbers of a block -/
def natsAt (w : World) (g : Nat) : List Nat := match w.heap[g]? with
  | some (.cells cs _ _) => cs.toList.map fun v => (intOf v).toNat
  | _ => []
theorem natsAt_of {w : World} {g : Nat} {r : List Nat} (h : RowIs w g 3 (intsA (natI r))) : natsAt w g = r := by
  unfold natsAt
  rw [show w.heap[g]? = _ from h]
  simp [intsA, natI, intOf, Function.comp_def]

theorem LN.dir_nat {N : LN} (h : N.Ok) {d : Lk} (hd : d ∈ N.dirs) : d = ⟨(d.i : Nat), d.p, (d.j : Nat), d.q⟩ := by
  have h1 := (h.from_lt hd).1
  have h2 := (h.to_lt hd).1
  obtain ⟨a, p, b, q⟩ := d
  simp only [Lk.mk.injEq, true_and, and_true]
  have h1 : 0 ≤ a := h1
  have h2 : 0 ≤ b := h2
  exact ⟨(Int.toNat_of_nonneg h1).symm, (Int.toNat_of_nonneg h2).symm⟩

/-- what holds within a round of Roots -/
structure RJ (v : NV) (N : LN) (w : World) (O g C : Nat) (r : List Nat) (k : Nat) (w' : World) : Prop where
  arr : ArrAt w' O g (natI (rdR N r k).1)
  ch : RowIs w' C 4 #[.bool (rdR N r k).2]
  box : RowIs w' w.heap.size 32 #[.slice v.ai N.ids.length v.ci, .slice v.ac N.costs.length v.cc, .slice v.al N.links.length v.cl]
  bel : Below w.heap.size w w'

set_option maxRecDepth 20000 in
set_option maxHeartbeats 2000000 in
theorem roots_round (v : NV) (N : LN) (w w1 : World) (h : NetAt w v N) (hl : N.links.length ≤ 1000) (hok : N.Ok) (O g C : Nat) (r : List Nat) (hr : RInv N r)
    (h0 : RJ v N w O g C r 0 w1) (hO : w.heap.size ≤ O) (hg : w.heap.size ≤ g) (hC : w.heap.size ≤ C) :
    Calls Try.prog 29 #[.agg #[.slice v.ai N.ids.length v.ci, .slice v.ac N.costs.length v.cc, .slice v.al N.links.length v.cl], .func (.func 30) #[] #[.pointer (some ⟨w.heap.size, 0, none⟩), .pointer (some ⟨O, 0, none⟩), .pointer (some ⟨C, 0, none⟩)]] w1
      fun e w' => e = .returned (.tuple #[]) ∧ RJ v N w O g C r N.dirs.length w' := by
  have hgs := h0.arr.arr.lt
  have hCs := h0.ch.lt
  refine both18 30 _ v N w1 (RJ v N w O g C r) [g, C] (enters_of Try.func30 (by kernel_rfl) rfl) (by simp; exact ⟨hgs, hCs⟩) (fun k w' hj => h.kept hj.bel)
    (fun k w' w'' hj hb => ⟨hj.arr.kept hb, hj.ch.kept hb, hj.box.kept hb, hj.bel.trans (hb.mono hj.bel.size)⟩) ?_ h0 hl
  intro k d w' hd hj
  have hmem := List.mem_of_getElem? hd
  have hk : k < N.dirs.length := (List.getElem?_eq_some_iff.1 hd).1
  have hinv := rdR_inv hok hr k (by omega)
  have h1 := hok.from_lt hmem
  have h2 := hok.to_lt hmem
  have hSg : w.heap.size ≠ g := rowIs_ne hj.box hj.arr.arr (by decide)
  have hSC : w.heap.size ≠ C := rowIs_ne hj.box hj.ch (by decide)
  refine (rootsC v N w' w.heap.size O g C (rdR N r k).1 (rdR N r k).2 (h.kept hj.bel) hj.box hj.arr hj.ch (fun x hx => ?_) d.i d.j d.p d.q (by rw [hinv.len]; exact h1.2.1) (by rw [hinv.len]; exact h2.2.1) d (LN.dir_nat hok hmem)).mono ?_
  · obtain ⟨m, hm, rfl⟩ := List.mem_iff_getElem.1 hx
    have := hinv.lt m (by rw [← hinv.len]; exact hm)
    rwa [List.getD, List.getElem?_eq_getElem hm] at this
  · rintro e w2 ⟨he, ha, hc, ho, hb⟩
    refine ⟨he, ⟨?_, ?_, rowIs_same hj.box (ho.2 _ hj.box.lt (by simp; exact ⟨hSg, hSC⟩)), ?_⟩, ho⟩
    · rw [rdR_succ hd]; exact ha
    · rw [rdR_succ hd]; exact hc
    · exact hj.bel.trans (below_of_only ho hb hj.bel.size (by simp; exact ⟨hg, hC⟩))

set_option maxRecDepth 20000 in
set_option maxHeartbeats 4000000 in
theorem roots_no (v : NV) (N : LN) (w : World) (h : NetAt w v N) (hl : N.links.length ≤ 1000) (hno : N.right = false) :
    Calls Try.prog 13 #[.agg #[.slice v.ai N.ids.length v.ci, .slice v.ac N.costs.length v.cc, .slice v.al N.links.length v.cl]] w fun e w' => e = .returned (.slice none 0 0) ∧ Below w.heap.size w w' := by
  have HN := Lib.hid h
  clear h
  go_enter Try.func13, Try.ntmps13
  go_upto_region 1 with fail
  generalize hW : w.alloc _ = w1
  have hbW : Below w.heap.size w w1 := by rw [← hW]; exact (Below.refl _ _).alloc (Nat.le_refl _) _
  have R0 : Hid (RowIs w1 w.heap.size 32 #[.slice v.ai N.ids.length v.ci, .slice v.ac N.costs.length v.cc, .slice v.al N.links.length v.cl]) := by subst hW; exact rowIs_new w _ _
  clear hW
  go_step3
  have HRT := Lib.hid (right18 v N w1 (HN.out.kept hbW) hl)
  rw [hno] at HRT
  go_wp2_with ((with_reducible refine at_load 32 (.tmp 1) ?_); refine wpList_load_own rfl 32 (.tmp 1) rfl w.heap.size rfl _ _ _ R0.out Try.underlying32 rfl (by kernel_rfl) ?_)
  refine HRT.out.mono ?_
  rintro e w2 ⟨rfl, hb2⟩
  go_wp2_with fail
  rw [Exit.noGoto_ret]
  go_ret
  exact ⟨rfl, hbW.trans (hb2.mono hbW.size)⟩

set_option maxRecDepth 20000 in
set_option maxHeartbeats 4000000 in
theorem roots_yes (v : NV) (N : LN) (w : World) (h : NetAt w v N) (hl : N.links.length ≤ 1000) (hok : N.Ok) (R : List Nat) (hR : IsRoots N R) :
    Calls Try.prog 13 #[.agg #[.slice v.ai N.ids.length v.ci, .slice v.ac N.costs.length v.cc, .slice v.al N.links.length v.cl]] w fun e w' => (∃ g, e = .returned (.slice (some ⟨g, 0, none⟩) N.ids.length N.ids.length) ∧ RowIs w' g 3 (intsA (natI R)) ∧ w.heap.size ≤ g) ∧ Below w.heap.size w w' := by
  have HN := Lib.hid h
  have HOK := Lib.hid hok
  have HR := Lib.hid hR
  have hn16 := hok.n16
  clear h hok hR
  go_enter Try.func13, Try.ntmps13
  go_upto_region 1 with fail
  generalize hW : w.alloc _ = w1
  have hbW : Below w.heap.size w w1 := by rw [← hW]; exact (Below.refl _ _).alloc (Nat.le_refl _) _
  have R0 : Hid (RowIs w1 w.heap.size 32 #[.slice v.ai N.ids.length v.ci, .slice v.ac N.costs.length v.cc, .slice v.al N.links.length v.cl]) := by subst hW; exact rowIs_new w _ _
  clear hW
  go_step3
  have HRT := Lib.hid (right18 v N w1 (HN.out.kept hbW) hl)
  rw [right_iff.2 HOK.out] at HRT
  go_wp2_with ((with_reducible refine at_load 32 (.tmp 1) ?_); refine wpList_load_own rfl 32 (.tmp 1) rfl w.heap.size rfl _ _ _ R0.out Try.underlying32 rfl (by kernel_rfl) ?_)
  refine HRT.out.mono ?_
  rintro e w2 ⟨rfl, hb2⟩
  have hbW2 := hbW.trans (hb2.mono hbW.size)
  have R02 := Lib.hid (R0.out.kept hb2)
  have c0 : w2.cell? ⟨w.heap.size, 0, none⟩ = some (.slice v.ai N.ids.length v.ci) := R02.out.cell 0
  have hsw2 : w.heap.size < w2.heap.size := R02.out.lt
  have hmk := run_make_ints N.ids.length (by omega) w2
  have RA := Lib.hid (rowIs_new w2 3 (intsA (List.replicate N.ids.length 0)))
  have R03 := Lib.hid (R02.out.alloc (.cells (intsA (List.replicate N.ids.length 0)) 3))
  have hbW3 := hbW2.alloc hbW2.size (.cells (intsA (List.replicate N.ids.length 0)) 3)
  clear hb2 hbW R0 HRT hbW2
  go_upto_region 4 with fail
  rw [← fillR_zero] at *
  generalize hW3 : w2.alloc (.cells (intsA (natI (fillR N.ids.length 0))) 3) = w3 at *
  have hs3 : w3.heap.size = w2.heap.size + 1 := by rw [← hW3]; simp
  have RO := Lib.hid (rowIs_new w3 35 #[.slice (some ⟨w2.heap.size, 0, none⟩) N.ids.length N.ids.length])
  have RA4 := Lib.hid (RA.out.alloc (.cells #[.slice (some ⟨w2.heap.size, 0, none⟩) N.ids.length N.ids.length] 35))
  have R04 := Lib.hid (R03.out.alloc (.cells #[.slice (some ⟨w2.heap.size, 0, none⟩) N.ids.length N.ids.length] 35))
  have hbW4 := hbW3.alloc hbW3.size (.cells #[.slice (some ⟨w2.heap.size, 0, none⟩) N.ids.length N.ids.length] 35)
  rw [hs3] at RO
  clear hbW3 R03 RA hmk c0 R02
  generalize w3.alloc _ = w4 at *
  have AA : Hid (ArrAt w4 (w2.heap.size + 1) w2.heap.size (natI (fillR N.ids.length 0))) := ⟨by rw [natI_len, fillR_len]; exact RO.out, RA4.out⟩
  clear RO RA4 hs3 hW3
  generalize w2.heap.size = g at *
  have cO : w4.cell? ⟨g + 1, 0, none⟩ = some (.slice (some ⟨g, 0, none⟩) N.ids.length N.ids.length) := by
    have := AA.out.ov.cell 0
    rw [natI_len, fillR_len] at this
    exact this
  go_wp2_with fail
  clear cO
  go_loopw [4, 15] (fun _ s15 wr => ∃ k : Nat, k ≤ N.ids.length ∧ s15 = .int .i64 k ∧ Hid (ArrAt wr (g + 1) g (natI (fillR N.ids.length k))) ∧ Hid (RowIs wr w.heap.size 32 #[.slice v.ai N.ids.length v.ci, .slice v.ac N.costs.length v.cc, .slice v.al N.links.length v.cl]) ∧ Below w.heap.size w wr) (fun _ s15 _ => N.ids.length - (intOf s15).toNat)
  case atStart => exact ⟨0, Nat.zero_le _, rfl, AA, R04, hbW4⟩
  case round =>
    clear AA R04 hbW4
    rename World => wr
    obtain ⟨k, hk, rfl, AA, R0, hbr⟩ := hrel
    by_cases hlt : k < N.ids.length
    · have cO : wr.cell? ⟨g + 1, 0, none⟩ = some (.slice (some ⟨g, 0, none⟩) N.ids.length N.ids.length) := by
        have := AA.out.ov.cell 0
        rw [natI_len, fillR_len] at this
        exact this
      have hx0 : (0 : Int) ≤ (k : Int) := by omega
      have hx1 : (k : Int) < (N.ids.length : Int) := by omega
      have HSET : Hid ((natI (fillR N.ids.length k)).set k (k : Int) = natI (fillR N.ids.length (k + 1))) := by show _ = _; rw [natI_set, fillR_set hlt]
      go_wp2_with ((with_reducible refine at_store 3 (.tmp 21) (.tmp 20) ?_); refine wpList_store_cell rfl 3 (.tmp 21) (.tmp 20) rfl g k _ rfl rfl 3 _ AA.out.arr (by rw [intsA_size, natI_len, fillR_len]; exact hlt) (by kernel_rfl) rfl w.heap.size (by omega) ?_)
      intro w5 hR5 ho5 hs5 hb5
      rw [intsA_set, HSET.out] at hR5
      have HA5 : Hid (ArrAt w5 (g + 1) g (natI (fillR N.ids.length (k + 1)))) := ⟨by
        have := rowIs_same AA.out.ov (ho5 _ (by omega))
        rw [natI_len, fillR_len] at this
        rw [natI_len, fillR_len]
        exact this, hR5⟩
      have HR5 := Lib.hid (rowIs_same R0.out (ho5 _ (by omega)))
      have hbr5 := hbr.trans hb5
      clear hR5 ho5 hs5 hb5 AA R0 cO
      go_wp2_with fail
      exact ⟨⟨k + 1, by omega, by go_num, HA5, HR5, hbr5⟩, by simp [intOf]; omega⟩
    · obtain rfl : k = N.ids.length := by omega
      go_wp2_with fail
      go_step3
      go_wp2_with fail
      have AA : Hid (ArrAt wr (g + 1) g (natI (List.range N.ids.length))) := by
        have h := AA.out
        rw [fillR_all] at h
        exact h
      have HI := Lib.hid (rinv_start N)
      go_loopw [5] (fun _ wr => ∃ r : List Nat, Hid (RInv N r) ∧ Hid (ArrAt wr (g + 1) g (natI r)) ∧ Hid (RowIs wr w.heap.size 32 #[.slice v.ai N.ids.length v.ci, .slice v.ac N.costs.length v.cc, .slice v.al N.links.length v.cl]) ∧ Below w.heap.size w wr ∧ g + 1 < wr.heap.size) (fun _ wr => rankSum N (natsAt wr g))
      case atStart => exact ⟨_, HI, AA, R0, hbr, AA.out.ov.lt⟩
      case round =>
        clear HI AA R0 hbr hlt hk
        rename World => wr
        obtain ⟨r, HI, AA, R0, hbr, hgr⟩ := hrel
        go_upto_region 10 with fail
        generalize hW5 : wr.alloc _ = w5
        have hb5 : Below wr.heap.size wr w5 := by rw [← hW5]; exact (Below.refl _ _).alloc (Nat.le_refl _) _
        have RC5 : Hid (RowIs w5 wr.heap.size 4 #[.bool false]) := by subst hW5; exact rowIs_new wr _ _
        clear hW5
        have AA5 := Lib.hid (AA.out.kept hb5)
        have R05 := Lib.hid (R0.out.kept hb5)
        have hbr5 := hbr.trans (hb5.mono hbr.size)
        have hsr := hbr.size
        have hnat := natsAt_of AA.out.arr
        have HNAT := Lib.hid hnat
        clear AA R0 hbr hb5 hnat
        have HCA := Lib.hid (roots_round v N w w5 HN.out hl HOK.out (g + 1) g wr.heap.size r HI.out ⟨AA5.out, RC5.out, R05.out, hbr5⟩ (by omega) (by omega) hsr)
        have HCH := Lib.hid (rdR_change HOK.out HI.out N.dirs.length (Nat.le_refl _))
        have HRI := Lib.hid (rdR_inv HOK.out HI.out N.dirs.length (Nat.le_refl _))
        go_wp2_with ((with_reducible refine at_load 32 (.tmp 1) ?_); refine wpList_load_own rfl 32 (.tmp 1) rfl w.heap.size rfl _ _ _ R05.out Try.underlying32 rfl (by kernel_rfl) ?_)
        refine HCA.out.mono ?_
        rintro e w6 ⟨rfl, hj6⟩
        have AA6 := Lib.hid hj6.arr
        have RC6 := Lib.hid hj6.ch
        have R06 := Lib.hid hj6.box
        have hbr6 := hj6.bel
        have hg6 : g + 1 < w6.heap.size := hj6.arr.ov.lt
        clear hj6 HCA AA5 RC5 R05 hbr5
        generalize hs : rdR N r N.dirs.length = s at *
        obtain ⟨r6, ch6⟩ := s
        cases ch6
        · have h6 : r6 = r ∧ ∀ m d, m < N.dirs.length → N.dirs[m]? = some d → N.lt (r.getD d.i 0) (r.getD d.j 0) = false := by
            rcases HCH.out with ⟨h, _⟩ | ⟨h, h'⟩
            · cases h
            · simp only [Prod.mk.injEq, and_true] at h
              exact ⟨h, h'⟩
          have HEQ : Hid (r6 = R) := by
            show r6 = R
            rw [h6.1]
            refine (HI.out.fixed HOK.out fun d hd => ?_).uniq HOK.out HR.out
            obtain ⟨m, hm, rfl⟩ := List.mem_iff_getElem.1 hd
            exact h6.2 m _ hm (List.getElem?_eq_getElem hm)
          have HLN : Hid (R.length = N.ids.length) := HR.out.len
          clear h6 HCH HRI HI
          rw [HEQ.out] at AA6
          have cC : w6.cell? ⟨wr.heap.size, 0, none⟩ = some (.bool false) := RC6.out.cell 0
          have cO : w6.cell? ⟨g + 1, 0, none⟩ = some (.slice (some ⟨g, 0, none⟩) N.ids.length N.ids.length) := by
            have := AA6.out.ov.cell 0
            rw [natI_len, HLN.out] at this
            exact this
          go_wp2_with fail
          rw [Exit.noGoto_ret]
          go_ret
          exact ⟨⟨g, rfl, AA6.out.arr, by omega⟩, hbr6⟩
        · have HLT : Hid (rankSum N r6 < rankSum N r) := by
            rcases HCH.out with ⟨_, h⟩ | ⟨h, _⟩
            · exact h
            · cases h
          have cC : w6.cell? ⟨wr.heap.size, 0, none⟩ = some (.bool true) := RC6.out.cell 0
          clear HCH
          go_wp2_with fail
          refine ⟨⟨r6, HRI, AA6, R06, hbr6, hg6⟩, ?_⟩
          rw [natsAt_of AA6.out.arr, HNAT.out]
          exact HLT.out
end Go.Proofs.Ytcmokhpnooldgaa
