/- LeastTree: the walk. By an AI agent. -/
import Derived.Test.YtcmokhpnooldgaaLn16
import Derived.Test.YtcmokhpnooldgaaLp4
namespace Go.Proofs.Ytcmokhpnooldgaa
open Go.RowKit Go.WideShapes Go.Sort Grow

theorem TreeI.size {N : LN} {R : List Nat} {D q : List Int} (hs : Sol N R D q) {k : Nat} {one : List Int} {S : List Nat} {t : Nat → Nat} (h : TreeI N R D q k one S t) (hk : k ≤ N.links.length) : S.length ≤ N.ids.length :=
  nodup_len _ S h.nd fun x hx => by
    obtain ⟨m, d, hm, hd, _, rfl⟩ := (h.mem x).1 hx
    exact (hs.ok.to_lt (lk_dirs (show m < N.links.length by omega) hd)).2.1
/-- the numbers up to k are united -/
def uniT (a b : Int) (one : List Int) (k : Nat) : List Int := (one.take k).map (fun x => if x = b then a else x) ++ one.drop k
theorem uniT_zero (a b : Int) (one : List Int) : uniT a b one 0 = one := by simp [uniT]
theorem uniT_all (a b : Int) (one : List Int) : uniT a b one one.length = one.map (fun x => if x = b then a else x) := by simp [uniT]
theorem uniT_len (a b : Int) (one : List Int) (k : Nat) : (uniT a b one k).length = one.length := by
  unfold uniT
  simp
  omega
theorem uniT_get (a b : Int) {one : List Int} {k : Nat} (hk : k < one.length) : (uniT a b one k).getD k 0 = one.getD k 0 := by
  unfold uniT
  rw [List.getD, List.getElem?_append_right (by simp; omega)]
  simp [List.getD, Nat.min_eq_left (Nat.le_of_lt hk)]
theorem uniT_succ (a b : Int) {one : List Int} {k : Nat} (hk : k < one.length) : uniT a b one (k + 1) = (uniT a b one k).set k (if one.getD k 0 = b then a else one.getD k 0) := by
  unfold uniT
  rw [List.take_add_one, List.getElem?_eq_getElem hk, List.map_append, List.set_append, if_neg (by simp; omega)]
  have e : k - ((one.take k).map (fun x => if x = b then a else x)).length = 0 := by simp; omega
  rw [e, List.drop_eq_getElem_cons hk, List.set_cons_zero, List.getD, List.getElem?_eq_getElem hk]
  simp
theorem uniT_same (a b : Int) {one : List Int} {k : Nat} (hk : k < one.length) (h : one.getD k 0 ≠ b) : uniT a b one (k + 1) = uniT a b one k := by
  rw [uniT_succ a b hk, if_neg h, ← uniT_get a b hk, List.getD, List.getElem?_eq_getElem (by rw [uniT_len]; exact hk)]
  simp
theorem uniT_put (a b : Int) {one : List Int} {k : Nat} (hk : k < one.length) (h : one.getD k 0 = b) : (uniT a b one k).set k a = uniT a b one (k + 1) := by
  rw [uniT_succ a b hk, if_pos h]
theorem startT_fill (n : Nat) : natI (fillR n n) = startT n := by rw [fillR_all]; rfl

set_option maxRecDepth 20000 in
set_option maxHeartbeats 4000000 in
theorem leastTree_walk (v : NV) (N : LN) (w : World) (h : NetAt w v N) : Calls Try.prog 3 #[.agg #[.slice v.ai N.ids.length v.ci, .slice v.ac N.costs.length v.cc, .slice v.al N.links.length v.cl]] w fun e w' => e = .returned (.bool true) ∧ Below w.heap.size w w' := by
  have HN := Lib.hid h
  clear h
  go_enter Try.func3, Try.ntmps3
  go_upto_region 1 with fail
  generalize hW : w.alloc _ = w1
  have hbW : Below w.heap.size w w1 := by rw [← hW]; exact (Below.refl _ _).alloc (Nat.le_refl _) _
  have R0 : Hid (RowIs w1 w.heap.size 26 #[.slice v.ai N.ids.length v.ci, .slice v.ac N.costs.length v.cc, .slice v.al N.links.length v.cl]) := by subst hW; exact rowIs_new w _ _
  clear hW
  go_wp2_with fail
  refine (awake18 _).mono ?_
  rintro e w2 ⟨rfl, hb2⟩
  have R0 := Lib.hid (R0.out.kept hb2)
  have hbW := hbW.trans (hb2.mono hbW.size)
  clear hb2
  have HF := Lib.hid (few18 v N w2 (HN.out.kept hbW))
  cases hf : N.few
  · rw [LN.few1_no hf] at HF
    go_wp2_with ((with_reducible refine at_load 26 (.tmp 1) ?_); refine wpList_load_own rfl 26 (.tmp 1) rfl w.heap.size rfl _ _ _ R0.out Try.underlying26 rfl (by kernel_rfl) ?_)
    refine HF.out.mono ?_
    rintro e w3 ⟨rfl, hb3⟩
    have hbW := hbW.trans (hb3.mono hbW.size)
    clear hb3 HF R0
    go_wp2_with fail
    refine (awake18 _).mono ?_
    rintro e w4 ⟨rfl, hb4⟩
    go_wp2_with fail
    go_ret
    exact ⟨rfl, hbW.trans (hb4.mono hbW.size)⟩
  rw [LN.few1_yes hf] at HF
  have hll : N.links.length ≤ 300 := by
    unfold LN.few at hf
    simp only [Bool.and_eq_true, decide_eq_true_eq] at hf
    exact hf.2.2.1
  have hil : N.ids.length ≤ 50 := by
    unfold LN.few at hf
    simp only [Bool.and_eq_true, decide_eq_true_eq] at hf
    exact hf.1
  go_wp2_with ((with_reducible refine at_load 26 (.tmp 1) ?_); refine wpList_load_own rfl 26 (.tmp 1) rfl w.heap.size rfl _ _ _ R0.out Try.underlying26 rfl (by kernel_rfl) ?_)
  refine HF.out.mono ?_
  rintro e w3 ⟨rfl, hb3⟩
  have R0 := Lib.hid (R0.out.kept hb3)
  have hbW := hbW.trans (hb3.mono hbW.size)
  clear hb3 HF hf
  have HO := Lib.hid (of18 v N w3 (HN.out.kept hbW) (by omega) (by omega))
  go_wp2_with ((with_reducible refine at_load 26 (.tmp 1) ?_); refine wpList_load_own rfl 26 (.tmp 1) rfl w.heap.size rfl _ _ _ R0.out Try.underlying26 rfl (by kernel_rfl) ?_)
  refine HO.out.mono ?_
  rintro e w6 ⟨v6, rfl, hN6, hb6⟩
  replace R0 := Lib.hid (R0.out.kept hb6)
  have HN6 := Lib.hid hN6
  replace hbW := hbW.trans (hb6.mono hbW.size)
  clear hb6 hN6 HO
  have hwM : w.heap.size < w6.heap.size := R0.out.lt
  go_upto_region 4 with fail
  have hb7 : Below w6.heap.size w6 (w6.alloc (.cells #[.slice v6.ai N.ids.length v6.ci, .slice v6.ac N.costs.length v6.cc, .slice v6.al N.links.length v6.cl] 32)) := (Below.refl _ _).alloc (Nat.le_refl _) _
  have RM := Lib.hid (rowIs_new w6 32 #[.slice v6.ai N.ids.length v6.ci, .slice v6.ac N.costs.length v6.cc, .slice v6.al N.links.length v6.cl])
  replace R0 := Lib.hid (R0.out.kept hb7)
  replace HN6 := Lib.hid (HN6.out.kept hb7)
  replace hbW := hbW.trans (hb7.mono hbW.size)
  clear hb7
  generalize w6.alloc (.cells #[.slice v6.ai N.ids.length v6.ci, .slice v6.ac N.costs.length v6.cc, .slice v6.al N.links.length v6.cl] 32) = w8 at *
  generalize w6.heap.size = M at *
  have HRT := Lib.hid (right18 v6 N w8 HN6.out (by omega))
  cases hr : N.right
  · rw [hr] at HRT
    as_aux_lemma =>
    go_wp2_with ((with_reducible refine at_load 32 (.tmp 3) ?_); refine wpList_load_own rfl 32 (.tmp 3) rfl M rfl _ _ _ RM.out Try.underlying32 rfl (by kernel_rfl) ?_)
    refine HRT.out.mono ?_
    rintro e w9 ⟨rfl, hbk⟩
    replace R0 := Lib.hid (R0.out.kept hbk)
    replace RM := Lib.hid (RM.out.kept hbk)
    replace HN6 := Lib.hid (HN6.out.kept hbk)
    replace hbW := hbW.trans (hbk.mono hbW.size)
    clear hbk
    clear HRT
    have HR := Lib.hid (roots_no v6 N w9 HN6.out (by omega) hr)
    go_wp2_with ((with_reducible refine at_load 32 (.tmp 3) ?_); refine wpList_load_own rfl 32 (.tmp 3) rfl M rfl _ _ _ RM.out Try.underlying32 rfl (by kernel_rfl) ?_)
    refine HR.out.mono ?_
    rintro e w10 ⟨rfl, hbk⟩
    replace R0 := Lib.hid (R0.out.kept hbk)
    replace RM := Lib.hid (RM.out.kept hbk)
    replace HN6 := Lib.hid (HN6.out.kept hbk)
    replace hbW := hbW.trans (hbk.mono hbW.size)
    clear hbk
    clear HR
    have HD := Lib.hid (dist_no v6 N w10 HN6.out (by omega) hr)
    go_wp2_with ((with_reducible refine at_load 32 (.tmp 3) ?_); refine wpList_load_own rfl 32 (.tmp 3) rfl M rfl _ _ _ RM.out Try.underlying32 rfl (by kernel_rfl) ?_)
    refine HD.out.mono ?_
    rintro e w11 ⟨rfl, hbk⟩
    replace R0 := Lib.hid (R0.out.kept hbk)
    replace RM := Lib.hid (RM.out.kept hbk)
    replace HN6 := Lib.hid (HN6.out.kept hbk)
    replace hbW := hbW.trans (hbk.mono hbW.size)
    clear hbk
    clear HD
    have HP := Lib.hid (ports_no v6 N w11 HN6.out (by omega) hr)
    go_wp2_with ((with_reducible refine at_load 32 (.tmp 3) ?_); refine wpList_load_own rfl 32 (.tmp 3) rfl M rfl _ _ _ RM.out Try.underlying32 rfl (by kernel_rfl) ?_)
    refine HP.out.mono ?_
    rintro e w12 ⟨⟨g, rfl⟩, hbk⟩
    replace hbW := hbW.trans (hbk.mono hbW.size)
    clear hbk HP
    go_wp2_with fail
    go_ret
    exact ⟨rfl, hbW⟩
  rw [hr] at HRT
  have HOK := Lib.hid (right_iff.1 hr)
  clear hr
  go_wp2_with ((with_reducible refine at_load 32 (.tmp 3) ?_); refine wpList_load_own rfl 32 (.tmp 3) rfl M rfl _ _ _ RM.out Try.underlying32 rfl (by kernel_rfl) ?_)
  refine HRT.out.mono ?_
  rintro e w9 ⟨rfl, hbk⟩
  replace R0 := Lib.hid (R0.out.kept hbk)
  replace RM := Lib.hid (RM.out.kept hbk)
  replace HN6 := Lib.hid (HN6.out.kept hbk)
  replace hbW := hbW.trans (hbk.mono hbW.size)
  clear hbk
  clear HRT
  obtain ⟨R, D, q, hS⟩ := sol_ex HOK.out
  have HS := Lib.hid hS
  have hn16 := HOK.out.n16
  clear hS
  have HRY := Lib.hid (roots_yes v6 N w9 HN6.out (by omega) HOK.out R HS.out.roots)
  go_wp2_with ((with_reducible refine at_load 32 (.tmp 3) ?_); refine wpList_load_own rfl 32 (.tmp 3) rfl M rfl _ _ _ RM.out Try.underlying32 rfl (by kernel_rfl) ?_)
  refine HRY.out.mono ?_
  rintro e w10 ⟨⟨gr, rfl, hgr, _⟩, hbk⟩
  replace R0 := Lib.hid (R0.out.kept hbk)
  replace RM := Lib.hid (RM.out.kept hbk)
  replace HN6 := Lib.hid (HN6.out.kept hbk)
  replace hbW := hbW.trans (hbk.mono hbW.size)
  have HGR := Lib.hid hgr
  clear hbk HRY hgr
  have HRL : Hid (R.length = N.ids.length) := HS.out.roots.len
  go_wp2_with fail
  go_loop [5, 7] (fun s5 s7 => ∃ k : Nat, k ≤ N.ids.length ∧ s5 = .int .i64 (nTrees R k : Nat) ∧ s7 = .int .i64 k) (fun _ s7 => N.ids.length - (intOf s7).toNat)
  case atStart => exact ⟨0, Nat.zero_le _, rfl, rfl⟩
  case round =>
    obtain ⟨k, hk, rfl, rfl⟩ := hrel
    have hnt := nTrees_le R k
    by_cases hlt : k < N.ids.length
    · have f1 : w10.cell? ⟨gr, k, none⟩ = some (.int .i64 (R.getD k 0 : Nat)) := by rw [HGR.out.cell, intsA_get (by rw [natI_len, HRL.out]; exact hlt), natI_get (by rw [HRL.out]; exact hlt)]
      have hx0 : (0 : Int) ≤ (k : Int) := by omega
      have hx1 : (k : Int) < (N.ids.length : Int) := by omega
      by_cases he : R.getD k 0 = k
      · have HNT : Hid (nTrees R (k + 1) = nTrees R k + 1) := by show nTrees R k + (if R.getD k 0 = k then 1 else 0) = _; rw [if_pos he]
        rw [he] at f1
        clear he
        generalize nTrees R k = nt at *
        go_wp2_with fail
        exact ⟨⟨k + 1, by omega, by rw [HNT.out]; go_num, by go_num⟩, by simp [intOf]; omega⟩
      · have HNT : Hid (nTrees R (k + 1) = nTrees R k) := by show nTrees R k + (if R.getD k 0 = k then 1 else 0) = _; rw [if_neg he]; rfl
        have e1 : (((R.getD k 0 : Nat) : Int) == (k : Int)) = false := by rw [beq_eq_false_iff_ne]; omega
        clear he
        generalize nTrees R k = nt at *
        generalize R.getD k 0 = rk at *
        go_wp2_with fail
        exact ⟨⟨k + 1, by omega, by rw [HNT.out], by go_num⟩, by simp [intOf]; omega⟩
    · obtain rfl : k = N.ids.length := by omega
      clear hlt hk
      have hmk := run_make_ints N.ids.length (by omega) w10
      go_upto_region 14 with fail
      have RA := Lib.hid (rowIs_new w10 3 (intsA (List.replicate N.ids.length 0)))
      have hbk : Below w10.heap.size w10 (w10.alloc (.cells (intsA (List.replicate N.ids.length 0)) 3)) := (Below.refl _ _).alloc (Nat.le_refl _) _
      have hwg : w.heap.size ≤ w10.heap.size := hbW.size
      have HK : Hid (∀ W, Below w10.heap.size w10 W → RowIs W w.heap.size 26 #[.slice v.ai N.ids.length v.ci, .slice v.ac N.costs.length v.cc, .slice v.al N.links.length v.cl] ∧ RowIs W M 32 #[.slice v6.ai N.ids.length v6.ci, .slice v6.ac N.costs.length v6.cc, .slice v6.al N.links.length v6.cl] ∧ NetAt W v6 N ∧ NetAt W v N) := fun W hb => ⟨R0.out.kept hb, RM.out.kept hb, HN6.out.kept hb, HN.out.kept (hbW.trans (hb.mono hbW.size))⟩
      have HEND : Hid (∀ W, Below w10.heap.size w10 W → Below w.heap.size w W) := fun W hb => hbW.trans (hb.mono hbW.size)
      clear hmk HGR R0 RM HN6 hbW HN
      rw [← fillR_zero] at RA hbk
      rw [← fillR_zero]
      generalize w10.alloc (.cells (intsA (natI (fillR N.ids.length 0))) 3) = w11 at *
      have HLG : Hid (w10.heap.size + 1 ≤ w11.heap.size) := RA.out.lt
      generalize w10.heap.size = g at *
      go_wp2_with fail
      clear hnt
      go_loopw [9] (fun s9 wr => ∃ k : Nat, k ≤ N.ids.length ∧ s9 = .int .i64 k ∧ Hid (RowIs wr g 3 (intsA (natI (fillR N.ids.length k)))) ∧ Below g w10 wr) (fun s9 _ => N.ids.length - (intOf s9).toNat)
      case atStart => exact ⟨0, Nat.zero_le _, rfl, RA, hbk⟩
      case round =>
        clear RA hbk HLG
        rename World => wr
        obtain ⟨k, hk, rfl, RA, hbr⟩ := hrel
        by_cases hlt : k < N.ids.length
        · have HSET : Hid ((natI (fillR N.ids.length k)).set k (k : Int) = natI (fillR N.ids.length (k + 1))) := by show _ = _; rw [natI_set, fillR_set hlt]
          have hx0 : (0 : Int) ≤ (k : Int) := by omega
          have hx1 : (k : Int) < (N.ids.length : Int) := by omega
          go_wp2_with ((with_reducible refine at_store 3 (.tmp 74) (.tmp 73) ?_); refine wpList_store_cell rfl 3 (.tmp 74) (.tmp 73) rfl g k _ rfl rfl 3 _ RA.out (by rw [intsA_size, natI_len, fillR_len]; exact hlt) (by kernel_rfl) rfl g (Nat.le_refl _) ?_)
          intro w5 hR5 ho5 hs5 hb5
          rw [intsA_set, HSET.out] at hR5
          have RA5 := Lib.hid hR5
          replace hbr := hbr.trans hb5
          clear hR5 ho5 hs5 hb5 RA HSET
          go_wp2_with fail
          exact ⟨⟨k + 1, by omega, by go_num, RA5, hbr⟩, by simp [intOf]; omega⟩
        · obtain rfl : k = N.ids.length := by omega
          clear hlt hk
          have HA0 : Hid (RowIs wr g 3 (intsA (startT N.ids.length))) := by
            have := RA.out
            rw [startT_fill] at this
            exact this
          clear RA
          go_wp2_with fail
          have HLEN := Lib.hid HOK.out.len
          have HNTL := Lib.hid (nTrees_le R N.ids.length)
          go_loopw [6, 10, 11, 12, 13, 14] (fun s6 s10 _ _ _ _ wr => ∃ (k : Nat) (one : List Int) (S : List Nat) (t : Nat → Nat), k ≤ N.links.length ∧ s6 = .int .i64 (S.length : Nat) ∧ s10 = .int .i64 k ∧ Hid (TreeI N R D q k one S t) ∧ Hid (RowIs wr g 3 (intsA one)) ∧ Below g w10 wr) (fun _ s10 _ _ _ _ _ => N.links.length - (intOf s10).toNat)
          case atStart => exact ⟨0, _, [], id, Nat.zero_le _, rfl, rfl, Lib.hid (tree_start N R D q), HA0, hbr⟩
          case round =>
            clear HA0 hbr
            rename World => wq
            obtain ⟨k, one, S, t, hk, rfl, rfl, HT, HA, hbr⟩ := hrel
            obtain ⟨hr0, hrM, hn6, hn⟩ := HK.out wq hbr
            have R0 := Lib.hid hr0
            have RM := Lib.hid hrM
            have HN6 := Lib.hid hn6
            have HN := Lib.hid hn
            clear hr0 hrM hn6 hn
            have HOL : Hid (one.length = N.ids.length) := HT.out.len
            have hgq : g < wq.heap.size := HA.out.lt
            by_cases hlt : k < N.links.length
            · as_aux_lemma =>
              have hSz := HT.out.size HS.out hk
              have HSKIP : Hid (¬ (forwB N D q (N.lk k).a (N.lk k).p = true ∧ forwB N D q (N.lk k).b (N.lk k).q = true) → TreeI N R D q (k + 1) one S t) := fun hn => HT.out.skip HS.out hlt hn
              have HTAKE : Hid (forwB N D q (N.lk k).a (N.lk k).p = true → forwB N D q (N.lk k).b (N.lk k).q = true → one.getD (N.lk k).i 0 ≠ one.getD (N.lk k).j 0 ∧ ∃ S' t', S'.length = S.length + 1 ∧ TreeI N R D q (k + 1) (one.map fun x => if x = one.getD (N.lk k).j 0 then one.getD (N.lk k).i 0 else x) S' t') := HT.out.take HS.out hlt
              obtain ⟨b, off, eal, hbl, hrg⟩ := HN.out.lkr hlt
              have HRG := Lib.hid hrg
              have hmem : N.lk k ∈ N.dirs := List.mem_of_getElem? (dirs_get hlt).1
              have h1 := HOK.out.from_lt hmem
              have h2 := HOK.out.to_lt hmem
              have hh1 := HOK.out.has _ hmem
              have hh2 := HOK.out.has _ (dirs_turn hmem)
              obtain ⟨i, ei⟩ := Int.eq_ofNat_of_zero_le h1.1
              obtain ⟨p, ep⟩ := Int.eq_ofNat_of_zero_le h1.2.2.1
              obtain ⟨j, ej⟩ := Int.eq_ofNat_of_zero_le h2.1
              obtain ⟨qq, eq⟩ := Int.eq_ofNat_of_zero_le h2.2.2.1
              have c2 : wq.cell? ⟨w.heap.size, 2, none⟩ = some (.slice (some ⟨b, off, none⟩) N.links.length v.cl) := by rw [← eal]; exact R0.out.cell 2
              generalize N.lk k = x at *
              obtain ⟨xa, xp, xb, xq⟩ := x
              simp only at ei ep ej eq
              subst ei ep ej eq
              have hi : i < N.ids.length := by simpa [Lk.i] using h1.2.1
              have hj : j < N.ids.length := by simpa [Lk.j] using h2.2.1
              have hh1 : N.has i p = true := hh1
              have hh2 : N.has j qq = true := hh2
              have HSKIP : Hid (¬ (forwB N D q i p = true ∧ forwB N D q j qq = true) → TreeI N R D q (k + 1) one S t) := HSKIP
              have HTAKE : Hid (forwB N D q i p = true → forwB N D q j qq = true → one.getD i 0 ≠ one.getD j 0 ∧ ∃ S' t', S'.length = S.length + 1 ∧ TreeI N R D q (k + 1) (one.map fun x => if x = one.getD j 0 then one.getD i 0 else x) S' t') := HTAKE
              have CF : Hid (∀ (b p : Int) (W : World), N.has b p = true → NetAt W v6 N → Calls Try.prog 16 #[.agg #[.slice v6.ai N.ids.length v6.ci, .slice v6.ac N.costs.length v6.cc, .slice v6.al N.links.length v6.cl], .int .i64 b, .int .i64 p] W fun e w' => e = .returned (.bool (forwB N D q b p)) ∧ Below W.heap.size W w') := fun b p W hh hn => forw_yes v6 N b p W hn (by omega) HOK.out R HS.out.roots D HS.out.dist q HS.out.ports hh
              clear h1 h2 hmem eal hrg HK HEND HS HOK
              have hx0 : (0 : Int) ≤ (k : Int) := by omega
              have hx1 : (k : Int) < (N.links.length : Int) := by omega
              have R6 := Lib.hid (rowIs_new wq 37 #[.int .i64 0, .int .i64 0, .int .i64 0, .int .i64 0])
              go_wp2_with (first
                | ((with_reducible refine at_load 37 (.tmp 85) ?_); refine wpList_load_mid18 rfl 37 (.tmp 85) rfl b (off + k * 4) rfl (Lk.vals ⟨i, p, j, qq⟩) _ HRG.out Try.underlying37 rfl (by kernel_rfl) ?_)
                | ((with_reducible refine at_store 37 (.tmp 11) (.tmp 86) ?_); refine wpList_store_own rfl 37 (.tmp 11) (.tmp 86) rfl wq.heap.size _ rfl rfl _ _ R6.out (by kernel_rfl) rfl (by simp [Lk.vals, Value.oneCell']) wq.heap.size (Nat.le_refl _) ?_))
              intro wl hRl hol hsl hbl'
              have hbx : Below wq.heap.size wq wl := ((Below.refl _ _).alloc (Nat.le_refl _) _).trans hbl'
              have RL : Hid (RowIs wl wq.heap.size 37 #[.int .i64 i, .int .i64 p, .int .i64 j, .int .i64 qq]) := hRl
              replace HN6 := Lib.hid (HN6.out.kept hbx)
              replace RM := Lib.hid (RM.out.kept hbx)
              replace HA := Lib.hid (HA.out.kept hbx)
              replace hbr := hbr.trans (hbx.mono (Nat.le_of_lt hgq))
              clear hRl hol hsl hbl' hbx R6 HRG c2 R0 HN
              generalize wq.heap.size = lb at *
              have l0 : wl.cell? ⟨lb, 0, none⟩ = some (.int .i64 i) := RL.out.cell 0
              have l1 : wl.cell? ⟨lb, 1, none⟩ = some (.int .i64 p) := RL.out.cell 1
              have hgl : g < wl.heap.size := HA.out.lt
              have C1 := Lib.hid (CF.out i p wl hh1 HN6.out)
              go_wp2_with ((with_reducible refine at_load 32 (.tmp 3) ?_); refine wpList_load_own rfl 32 (.tmp 3) rfl M rfl _ _ _ RM.out Try.underlying32 rfl (by kernel_rfl) ?_)
              refine C1.out.mono ?_
              rintro e wm ⟨rfl, hbk⟩
              replace HN6 := Lib.hid (HN6.out.kept hbk)
              replace RM := Lib.hid (RM.out.kept hbk)
              replace HA := Lib.hid (HA.out.kept hbk)
              replace RL := Lib.hid (RL.out.kept hbk)
              replace hbr := hbr.trans (hbk.mono (Nat.le_of_lt hgl))
              clear hbk C1 l0 l1
              cases hf1 : forwB N D q i p
              · have HT2 := Lib.hid (HSKIP.out (by rw [hf1]; simp))
                clear HSKIP HTAKE
                go_wp2_with fail
                exact ⟨⟨k + 1, one, S, t, by omega, rfl, by go_num, HT2, HA, hbr⟩, by simp [intOf]; omega⟩
              have l2 : wm.cell? ⟨lb, 2, none⟩ = some (.int .i64 j) := RL.out.cell 2
              have l3 : wm.cell? ⟨lb, 3, none⟩ = some (.int .i64 qq) := RL.out.cell 3
              have hgm : g < wm.heap.size := HA.out.lt
              have C2 := Lib.hid (CF.out j qq wm hh2 HN6.out)
              go_wp2_with ((with_reducible refine at_load 32 (.tmp 3) ?_); refine wpList_load_own rfl 32 (.tmp 3) rfl M rfl _ _ _ RM.out Try.underlying32 rfl (by kernel_rfl) ?_)
              refine C2.out.mono ?_
              rintro e wn ⟨rfl, hbk⟩
              replace HA := Lib.hid (HA.out.kept hbk)
              replace RL := Lib.hid (RL.out.kept hbk)
              replace hbr := hbr.trans (hbk.mono (Nat.le_of_lt hgm))
              clear hbk C2 l2 l3 HN6 RM CF
              cases hf2 : forwB N D q j qq
              · have HT2 := Lib.hid (HSKIP.out (by rw [hf2]; simp))
                clear HSKIP HTAKE hf1
                go_wp2_with fail
                exact ⟨⟨k + 1, one, S, t, by omega, rfl, by go_num, HT2, HA, hbr⟩, by simp [intOf]; omega⟩
              obtain ⟨hne, S', t', hS', hT'⟩ := HTAKE.out hf1 hf2
              have HT2 := Lib.hid hT'
              clear HSKIP HTAKE hT' hf1 hf2 hh1 hh2 HT
              have l0 : wn.cell? ⟨lb, 0, none⟩ = some (.int .i64 i) := RL.out.cell 0
              have l2 : wn.cell? ⟨lb, 2, none⟩ = some (.int .i64 j) := RL.out.cell 2
              have o1 : wn.cell? ⟨g, i, none⟩ = some (.int .i64 (one.getD i 0)) := by rw [HA.out.cell, intsA_get (by rw [HOL.out]; exact hi)]
              have o2 : wn.cell? ⟨g, j, none⟩ = some (.int .i64 (one.getD j 0)) := by rw [HA.out.cell, intsA_get (by rw [HOL.out]; exact hj)]
              have e1 : (one.getD i 0 == one.getD j 0) = false := by rw [beq_eq_false_iff_ne]; exact hne
              have hy0 : (0 : Int) ≤ (i : Int) := by omega
              have hy1 : (i : Int) < (N.ids.length : Int) := by omega
              have hy2 : (0 : Int) ≤ (j : Int) := by omega
              have hy3 : (j : Int) < (N.ids.length : Int) := by omega
              clear hne
              generalize one.getD i 0 = oi at *
              generalize one.getD j 0 = oj at *
              go_upto_region 23 with fail
              go_quiet (fail)
              have hbq : Below wn.heap.size wn (wn.drewN nq) := below_drewN (Below.refl _ _) _
              have hgn : g < wn.heap.size := HA.out.lt
              replace HA := Lib.hid (HA.out.kept hbq)
              replace hbr := hbr.trans (hbq.mono (Nat.le_of_lt hgn))
              clear hbq l0 l2 o1 o2 RL
              generalize wn.drewN nq = wo at *
              have hSS : IntKind.i64.wrap ((S.length : Int) + 1) = (S'.length : Nat) := by rw [IntKind.wrap_i64, hS']; omega
              clear hS'
              generalize S.length = sl at *
              go_wp2_with fail
              have HUZ : Hid (uniT oi oj one 0 = one) := uniT_zero oi oj one
              go_loopw [14] (fun s14 wr => ∃ m : Nat, m ≤ N.ids.length ∧ s14 = .int .i64 m ∧ Hid (RowIs wr g 3 (intsA (uniT oi oj one m))) ∧ Below g w10 wr) (fun s14 _ => N.ids.length - (intOf s14).toNat)
              case atStart => exact ⟨0, Nat.zero_le _, rfl, by rw [HUZ.out]; exact HA, hbr⟩
              case round =>
                clear HA hbr
                rename World => wp
                obtain ⟨m, hm, rfl, HA, hbr⟩ := hrel
                by_cases hml : m < N.ids.length
                · have hmo : m < one.length := by rw [HOL.out]; exact hml
                  have o1 : wp.cell? ⟨g, m, none⟩ = some (.int .i64 (one.getD m 0)) := by rw [HA.out.cell, intsA_get (by rw [uniT_len]; exact hmo), uniT_get oi oj hmo]
                  have hz0 : (0 : Int) ≤ (m : Int) := by omega
                  have hz1 : (m : Int) < (N.ids.length : Int) := by omega
                  by_cases he : one.getD m 0 = oj
                  · have HSET := Lib.hid (uniT_put oi oj hmo he)
                    rw [he] at o1
                    clear he
                    go_wp2_with ((with_reducible refine at_store 3 (.tmp 133) (.tmp 132) ?_); refine wpList_store_cell rfl 3 (.tmp 133) (.tmp 132) rfl g m _ rfl rfl 3 _ HA.out (by rw [intsA_size, uniT_len]; exact hmo) (by kernel_rfl) rfl g (Nat.le_refl _) ?_)
                    intro w5 hR5 ho5 hs5 hb5
                    rw [intsA_set, HSET.out] at hR5
                    have HA5 := Lib.hid hR5
                    replace hbr := hbr.trans hb5
                    clear hR5 ho5 hs5 hb5 HA HSET o1
                    go_wp2_with fail
                    exact ⟨⟨m + 1, by omega, by go_num, HA5, hbr⟩, by simp [intOf]; omega⟩
                  · have HSET := Lib.hid (uniT_same oi oj hmo he)
                    have e2 : (one.getD m 0 == oj) = false := by rw [beq_eq_false_iff_ne]; exact he
                    clear he
                    generalize one.getD m 0 = om at *
                    go_wp2_with fail
                    exact ⟨⟨m + 1, by omega, by go_num, by rw [HSET.out]; exact HA, hbr⟩, by simp [intOf]; omega⟩
                · obtain rfl : m = N.ids.length := by omega
                  have HAF : Hid (RowIs wp g 3 (intsA (one.map fun x => if x = oj then oi else x))) := by
                    have := HA.out
                    rw [← HOL.out, uniT_all] at this
                    exact this
                  go_wp2_with fail
                  exact ⟨⟨k + 1, _, S', t', by omega, rfl, by go_num, HT2, HAF, hbr⟩, by simp [intOf]; omega⟩
            · obtain rfl : k = N.links.length := by omega
              have hfin := HT.out.fin HS.out
              have HDF := Lib.hid hfin.2
              have hcnt := hfin.1
              clear hfin HT hlt hk
              have c2 : wq.cell? ⟨w.heap.size, 2, none⟩ = some (.slice v.al N.links.length v.cl) := R0.out.cell 2
              go_wp2_with fail
              clear c2 R0 RM HN6 HN
              go_loopw [15, 16] (fun s15 _ wr => ∃ k : Nat, k ≤ N.links.length ∧ s15 = .int .i64 k ∧ Hid (RowIs wr g 3 (intsA one)) ∧ Below g w10 wr) (fun s15 _ _ => N.links.length - (intOf s15).toNat)
              case atStart => exact ⟨0, Nat.zero_le _, rfl, HA, hbr⟩
              case round =>
                clear HA hbr
                rename World => wp
                obtain ⟨k, hk, rfl, HA, hbr⟩ := hrel
                obtain ⟨hr0, hrM, hn6, hn⟩ := HK.out wp hbr
                have R0 := Lib.hid hr0
                have HN := Lib.hid hn
                clear hr0 hrM hn6 hn
                by_cases hlt : k < N.links.length
                · as_aux_lemma =>
                  obtain ⟨b, off, eal, hbl, hrg⟩ := HN.out.lkr hlt
                  have HRG := Lib.hid hrg
                  have hmem : N.lk k ∈ N.dirs := List.mem_of_getElem? (dirs_get hlt).1
                  have h1 := HOK.out.from_lt hmem
                  have h2 := HOK.out.to_lt hmem
                  have hd1 := HDF.out _ hmem
                  obtain ⟨i, ei⟩ := Int.eq_ofNat_of_zero_le h1.1
                  obtain ⟨p, ep⟩ := Int.eq_ofNat_of_zero_le h1.2.2.1
                  obtain ⟨j, ej⟩ := Int.eq_ofNat_of_zero_le h2.1
                  obtain ⟨qq, eq⟩ := Int.eq_ofNat_of_zero_le h2.2.2.1
                  have c2 : wp.cell? ⟨w.heap.size, 2, none⟩ = some (.slice (some ⟨b, off, none⟩) N.links.length v.cl) := by rw [← eal]; exact R0.out.cell 2
                  generalize N.lk k = x at *
                  obtain ⟨xa, xp, xb, xq⟩ := x
                  simp only at ei ep ej eq
                  subst ei ep ej eq
                  have hi : i < N.ids.length := by simpa [Lk.i] using h1.2.1
                  have hj : j < N.ids.length := by simpa [Lk.j] using h2.2.1
                  have hd1 : one.getD i 0 = one.getD j 0 := hd1
                  clear h1 h2 hmem eal hrg HDF HK HEND HS HOK hcnt
                  have hx0 : (0 : Int) ≤ (k : Int) := by omega
                  have hx1 : (k : Int) < (N.links.length : Int) := by omega
                  have R6 := Lib.hid (rowIs_new wp 37 #[.int .i64 0, .int .i64 0, .int .i64 0, .int .i64 0])
                  go_wp2_with (first
                    | ((with_reducible refine at_load 37 (.tmp 144) ?_); refine wpList_load_mid18 rfl 37 (.tmp 144) rfl b (off + k * 4) rfl (Lk.vals ⟨i, p, j, qq⟩) _ HRG.out Try.underlying37 rfl (by kernel_rfl) ?_)
                    | ((with_reducible refine at_store 37 (.tmp 16) (.tmp 145) ?_); refine wpList_store_own rfl 37 (.tmp 16) (.tmp 145) rfl wp.heap.size _ rfl rfl _ _ R6.out (by kernel_rfl) rfl (by simp [Lk.vals, Value.oneCell']) wp.heap.size (Nat.le_refl _) ?_))
                  intro wl hRl hol hsl hbl'
                  have hbx : Below wp.heap.size wp wl := ((Below.refl _ _).alloc (Nat.le_refl _) _).trans hbl'
                  have RL : Hid (RowIs wl wp.heap.size 37 #[.int .i64 i, .int .i64 p, .int .i64 j, .int .i64 qq]) := hRl
                  have hgp : g < wp.heap.size := HA.out.lt
                  replace HA := Lib.hid (HA.out.kept hbx)
                  replace hbr := hbr.trans (hbx.mono (Nat.le_of_lt hgp))
                  clear hRl hol hsl hbl' hbx R6 HRG c2 R0 HN
                  generalize wp.heap.size = lb at *
                  have l0 : wl.cell? ⟨lb, 0, none⟩ = some (.int .i64 i) := RL.out.cell 0
                  have l2 : wl.cell? ⟨lb, 2, none⟩ = some (.int .i64 j) := RL.out.cell 2
                  have o1 : wl.cell? ⟨g, i, none⟩ = some (.int .i64 (one.getD i 0)) := by rw [HA.out.cell, intsA_get (by rw [HOL.out]; exact hi)]
                  have o2 : wl.cell? ⟨g, j, none⟩ = some (.int .i64 (one.getD i 0)) := by rw [HA.out.cell, intsA_get (by rw [HOL.out]; exact hj), hd1]
                  have hy0 : (0 : Int) ≤ (i : Int) := by omega
                  have hy1 : (i : Int) < (N.ids.length : Int) := by omega
                  have hy2 : (0 : Int) ≤ (j : Int) := by omega
                  have hy3 : (j : Int) < (N.ids.length : Int) := by omega
                  clear hd1
                  generalize one.getD i 0 = oi at *
                  have hgl : g < wl.heap.size := HA.out.lt
                  go_upto_region 36 with fail
                  go_quiet (fail)
                  have hbq : Below wl.heap.size wl (wl.drewN nq) := below_drewN (Below.refl _ _) _
                  replace HA := Lib.hid (HA.out.kept hbq)
                  replace hbr := hbr.trans (hbq.mono (Nat.le_of_lt hgl))
                  clear hbq l0 l2 o1 o2 RL
                  generalize wl.drewN nq = wo at *
                  go_wp2_with fail
                  exact ⟨⟨k + 1, by omega, by go_num, HA, hbr⟩, by simp [intOf]; omega⟩
                · obtain rfl : k = N.links.length := by omega
                  have c2 : wp.cell? ⟨w.heap.size, 2, none⟩ = some (.slice v.al N.links.length v.cl) := R0.out.cell 2
                  have hbe := HEND.out wp hbr
                  have hnl := HNTL.out
                  generalize nTrees R N.ids.length = nt at *
                  generalize S.length = sl at *
                  have hw1 : IntKind.i64.wrap ((N.ids.length : Int) - (nt : Int)) = (sl : Int) := by rw [IntKind.wrap_i64]; omega
                  clear hcnt hnl
                  go_wp2_with fail
                  go_ret
                  exact ⟨by simp, hbe⟩
end Go.Proofs.Ytcmokhpnooldgaa
