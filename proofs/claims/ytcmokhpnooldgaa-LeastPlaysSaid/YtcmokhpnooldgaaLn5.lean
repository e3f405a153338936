/- least.Right. By an AI agent. -/
import Derived.Test.YtcmokhpnooldgaaLn4
namespace Go.Proofs.Ytcmokhpnooldgaa
open Go.RowKit Go.WideShapes Go.Sort Grow Go.MapKept Go.Maps

theorem LN.id_get {N : LN} {i : Nat} (h : i < N.ids.length) : N.id i = N.ids[i] := by unfold LN.id; rw [List.getD, List.getElem?_eq_getElem h]; rfl
theorem LN.cs_get {N : LN} {i : Nat} (h : i < N.costs.length) : N.cs i = N.costs[i] := by unfold LN.cs; rw [List.getD, List.getElem?_eq_getElem h]; rfl
/-- the first i identifiers are unlike, and their costs right -/
structure IdsOk (N : LN) (i : Nat) : Prop where
  nodup : (N.ids.take i).Nodup
  cost : ∀ j, j < i → okCosts (N.cs j) = true
theorem IdsOk.more {N : LN} {i : Nat} (h : IdsOk N i) (hi : i < N.ids.length) (h1 : N.id i ∉ N.ids.take i) (h2 : okCosts (N.cs i) = true) : IdsOk N (i + 1) :=
  ⟨by rw [LN.ids_take hi]; exact nodup_snoc h.nodup h1, fun j hj => by
    rcases Nat.lt_or_eq_of_le (Nat.le_of_lt_succ hj) with h3 | rfl
    · exact h.cost j h3
    · exact h2⟩
/-- the first k ends are there, and unlike -/
structure EndsOk (N : LN) (k : Nat) : Prop where
  nodup : ((N.dirs.map Lk.fr).take k).Nodup
  has : ∀ j d, j < k → N.dirs[j]? = some d → N.has d.a d.p = true
theorem take_fr {N : LN} {k : Nat} {d : Lk} (hd : N.dirs[k]? = some d) : (N.dirs.map Lk.fr).take (k + 1) = (N.dirs.map Lk.fr).take k ++ [d.fr] := by
  obtain ⟨hk, rfl⟩ := List.getElem?_eq_some_iff.1 hd
  rw [List.take_succ_eq_append_getElem (by simpa using hk)]
  simp
theorem EndsOk.more {N : LN} {k : Nat} {d : Lk} (h : EndsOk N k) (hd : N.dirs[k]? = some d) (h1 : d.fr ∉ (N.dirs.map Lk.fr).take k) (h2 : N.has d.a d.p = true) : EndsOk N (k + 1) :=
  ⟨by rw [take_fr hd]; exact nodup_snoc h.nodup h1, fun j d' hj hd' => by
    rcases Nat.lt_or_eq_of_le (Nat.le_of_lt_succ hj) with h3 | rfl
    · exact h.has j d' h3 hd'
    · rw [hd] at hd'
      cases hd'
      exact h2⟩
theorem EndsOk.twice {N : LN} {k : Nat} {d : Lk} (hd : N.dirs[k]? = some d) (h1 : d.fr ∈ (N.dirs.map Lk.fr).take k) : ¬ N.Ok := fun h => by
  obtain ⟨hk, rfl⟩ := List.getElem?_eq_some_iff.1 hd
  have := nodup_take h.once (i := k) (by simpa using hk)
  simp only [List.getElem_map] at this
  exact this h1

set_option maxRecDepth 20000 in
set_option maxHeartbeats 4000000 in
theorem right18 (v : NV) (N : LN) (w : World) (h : NetAt w v N) (hl : N.links.length ≤ 1000) :
    Calls Try.prog 12 #[.agg #[.slice v.ai N.ids.length v.ci, .slice v.ac N.costs.length v.cc, .slice v.al N.links.length v.cl]] w fun e w' => e = .returned (.bool N.right) ∧ Below w.heap.size w w' := by
  have HN := Lib.hid h
  have NO := Lib.hid (@right_no N)
  have YES := Lib.hid (@right_iff N)
  clear h
  go_enter Try.func12, Try.ntmps12
  go_upto_region 1 with fail
  generalize hW : w.alloc _ = w1
  have hbW : Below w.heap.size w w1 := by rw [← hW]; exact (Below.refl _ _).alloc (Nat.le_refl _) _
  have R0 : Hid (RowIs w1 w.heap.size 32 #[.slice v.ai N.ids.length v.ci, .slice v.ac N.costs.length v.cc, .slice v.al N.links.length v.cl]) := by subst hW; exact rowIs_new w _ _
  have hs1 : w1.heap.size = w.heap.size + 1 := by rw [← hW]; simp
  clear hW
  have c0 : w1.cell? ⟨w.heap.size, 0, none⟩ = some (.slice v.ai N.ids.length v.ci) := R0.out.cell 0
  have c1 : w1.cell? ⟨w.heap.size, 1, none⟩ = some (.slice v.ac N.costs.length v.cc) := R0.out.cell 1
  by_cases h0 : (N.ids.length : Int) < 1
  · go_wp2_with fail
    go_ret
    rw [NO.out (fun h => by have := h.n1; omega)]
    exact ⟨rfl, hbW⟩
  have d0 : decide ((N.ids.length : Int) < 1) = false := decide_eq_false h0
  by_cases h1 : 16 < (N.ids.length : Int)
  · go_wp2_with fail
    go_ret
    rw [NO.out (fun h => by have := h.n16; omega)]
    exact ⟨rfl, hbW⟩
  have d1 : decide (16 < (N.ids.length : Int)) = false := decide_eq_false h1
  cases h2 : ((N.costs.length : Int) == (N.ids.length : Int))
  · go_wp2_with fail
    go_ret
    rw [beq_eq_false_iff_ne] at h2
    rw [NO.out (fun h => by have := h.len; omega)]
    exact ⟨rfl, hbW⟩
  have h2' : N.costs.length = N.ids.length := by rw [beq_iff_eq] at h2; omega
  have H2 := Lib.hid h2'
  clear h2'
  have hmk : ∀ w : World, (Instr.makeMap 65 none).run Try.prog w = .ok (.map (some w.heap.size)) (w.alloc (.map #[] 0)) := fun w => run_makeMap 65 w
  have hmk2 : ∀ w : World, (Instr.makeMap 67 none).run Try.prog w = .ok (.map (some w.heap.size)) (w.alloc (.map #[] 0)) := fun w => run_makeMap 67 w
  go_upto_region 4 with fail
  have HM := Lib.hid (mapP_new (P := Try.prog) (k := 61) w1)
  have R01 := Lib.hid (R0.out.alloc (.map #[] 0))
  have hbW1 := hbW.alloc hbW.size (.map #[] 0)
  rw [hs1] at HM
  clear R0 hbW d0 d1 h2 c0 c1
  generalize hW2 : w1.alloc _ = w2 at *
  have hs2 : w2.heap.size = w.heap.size + 2 := by rw [← hW2]; simp [hs1]
  clear hW2
  have c0 : w2.cell? ⟨w.heap.size, 0, none⟩ = some (.slice v.ai N.ids.length v.ci) := R01.out.cell 0
  go_wp2_with fail
  clear c0
  go_loopw [4, 5, 34] (fun _ _ s34 wr => ∃ i : Nat, i ≤ N.ids.length ∧ s34 = .int .i64 i ∧ Hid (MapP Try.prog 61 wr (w.heap.size + 1) ((N.ids.take i).map idKV)) ∧ Hid (RowIs wr w.heap.size 32 #[.slice v.ai N.ids.length v.ci, .slice v.ac N.costs.length v.cc, .slice v.al N.links.length v.cl]) ∧ Hid (IdsOk N i) ∧ Below w.heap.size w wr ∧ w.heap.size + 2 ≤ wr.heap.size) (fun _ _ s34 _ => N.ids.length - (intOf s34).toNat)
  case atStart => exact ⟨0, Nat.zero_le _, rfl, HM, R01, ⟨List.nodup_nil, fun j hj => absurd hj (Nat.not_lt_zero _)⟩, hbW1, by omega⟩
  case round =>
    clear HM R01 hbW1 hs2 hs1
    rename World => wr
    obtain ⟨i, hi, rfl, HM, R0, HI, hbr, hswr⟩ := hrel
    by_cases hlt : i < N.ids.length
    · obtain ⟨b, off, eai, hbl, hrg⟩ := (HN.out.kept hbr).idr hlt
      have HRG := Lib.hid hrg
      have HTK := Lib.hid (LN.ids_take hlt)
      have HGI := Lib.hid (LN.id_get hlt)
      have HGC := Lib.hid (LN.cs_get (N := N) (show i < N.costs.length by have := H2.out; omega))
      have HMO := Lib.hid (fun (h1 : N.id i ∉ N.ids.take i) (h2 : okCosts (N.cs i) = true) => HI.out.more hlt h1 h2)
      have HDUP : Hid (N.id i ∈ N.ids.take i → ¬ N.Ok) := fun hm h => by
        have := nodup_take h.nodup hlt
        rw [← HGI.out] at this
        exact this hm
      have HCB : Hid (okCosts (N.cs i) = false → ¬ N.Ok) := fun hc h => by
        have := h.cost (N.cs i) (by rw [HGC.out]; exact List.getElem_mem _)
        rw [this] at hc
        cases hc
      obtain ⟨cb, coff, ca, cci, eac, hcc, hci⟩ := (HN.out.kept hbr).cs (show i < N.costs.length by have := H2.out; omega)
      have HCI := Lib.hid hci
      have HCC := Lib.hid hcc
      generalize N.id i = x at *
      generalize N.cs i = z at *
      clear hrg hcc hci
      have HEA := Lib.hid eai
      have HEC := Lib.hid eac
      clear eai eac
      have c1 : wr.cell? ⟨w.heap.size, 1, none⟩ = some (.slice v.ac N.costs.length v.cc) := R0.out.cell 1
      rw [HEC.out] at c1
      rw [HEA.out]
      have hx0 : (0 : Int) ≤ (i : Int) := by omega
      have hx1 : (i : Int) < (N.ids.length : Int) := by omega
      have hx2 : (i : Int) < (N.costs.length : Int) := by have := H2.out; omega
      have R6 := Lib.hid (rowIs_new wr 61 #[.int .u8 0, .int .u8 0, .int .u8 0, .int .u8 0, .int .u8 0, .int .u8 0, .int .u8 0, .int .u8 0])
      go_wp2_with (first
        | ((with_reducible refine at_load 61 (.tmp 37) ?_); refine wpList_load_mid18 rfl 61 (.tmp 37) rfl b (off + i * 8) rfl (Id8.vals x) _ HRG.out Try.underlying61 rfl (by kernel_rfl) ?_)
        | ((with_reducible refine at_store 61 (.tmp 5) (.tmp 38) ?_); refine wpList_store_own rfl 61 (.tmp 5) (.tmp 38) rfl wr.heap.size _ rfl rfl _ _ R6.out (by kernel_rfl) rfl (by simp [Id8.vals, Value.oneCell']) wr.heap.size (Nat.le_refl _) ?_))
      intro w4 hR4 ho4 hs4 hb4
      have hb4' : Below wr.heap.size wr w4 := ((Below.refl _ _).alloc (Nat.le_refl _) _).trans hb4
      have HR4 : Hid (RowIs w4 wr.heap.size 61 #[.int .u8 ((x.f 0).toNat : Int), .int .u8 ((x.f 1).toNat : Int), .int .u8 ((x.f 2).toNat : Int), .int .u8 ((x.f 3).toNat : Int), .int .u8 ((x.f 4).toNat : Int), .int .u8 ((x.f 5).toNat : Int), .int .u8 ((x.f 6).toNat : Int), .int .u8 ((x.f 7).toNat : Int)]) := hR4
      have HM4 := Lib.hid (HM.out.kept hb4')
      have HR04 := Lib.hid (R0.out.kept hb4')
      have hcc4 : w4.cell? ⟨cb, coff + i, none⟩ = some (.slice ca z.length cci) := by
        rw [hb4'.cell (p := ⟨cb, coff + i, none⟩) (block_lt_of_cell HCC.out)]
        exact HCC.out
      have c14 : w4.cell? ⟨w.heap.size, 1, none⟩ = some (.slice (some ⟨cb, coff, none⟩) N.costs.length v.cc) := by
        rw [← HEC.out]; exact HR04.out.cell 1
      have HCI4 := Lib.hid (HCI.out.after hb4')
      have hbr4 := hbr.trans (hb4'.mono hbr.size)
      have hsw4 : w.heap.size + 2 ≤ w4.heap.size := by have := hb4'.size; omega
      clear hR4 ho4 hs4 hb4 hb4' R0 HM HCC HCI c1 R6 HRG
      obtain ⟨kl, hkl⟩ := keyOf_id x
      by_cases hm : x ∈ N.ids.take i
      · have hlk := run_lookup_hitP (t := 65) id_keyed Try.underlying65 HM4.out hkl (idkv_mem hm) false
        simp only [Bool.false_eq_true, if_false] at hlk
        have HKL := Lib.hid hkl
        clear hkl
        go_wp2_with ((with_reducible refine at_load 61 (.tmp 5) ?_); refine wpList_load_own rfl 61 (.tmp 5) rfl wr.heap.size rfl _ _ _ HR4.out Try.underlying61 rfl (by kernel_rfl) ?_)
        go_ret
        rw [NO.out (HDUP.out hm)]
        exact ⟨rfl, hbr4⟩
      · have hlk := run_lookup_missP (t := 65) id_keyed Try.underlying65 HM4.out hkl (idkv_no hm) (zero_bool18 w4) false
        simp only [Bool.false_eq_true, if_false] at hlk
        have HKL := Lib.hid hkl
        clear hkl
        have HCO := Lib.hid (costs18 ca z cci w4 HCI4.out)
        cases hok : okCosts z
        · rw [hok] at HCO
          go_wp2_with ((with_reducible refine at_load 61 (.tmp 5) ?_); refine wpList_load_own rfl 61 (.tmp 5) rfl wr.heap.size rfl _ _ _ HR4.out Try.underlying61 rfl (by kernel_rfl) ?_)
          refine HCO.out.mono ?_
          rintro e w5 ⟨rfl, rfl⟩
          go_wp2_with fail
          go_ret
          rw [NO.out (HCB.out hok)]
          exact ⟨rfl, hbr4⟩
        · rw [hok] at HCO
          obtain ⟨w6, hup, hM6, ho6, hs6, hb6⟩ := run_update_newP (t := 65) id_keyed Try.underlying65 HM4.out HKL.out (idkv_no hm) (.bool true)
          have HM6 : Hid (MapP Try.prog 61 w6 (w.heap.size + 1) ((N.ids.take (i + 1)).map idKV)) := by
            refine hM6.perm ?_
            rw [HTK.out, List.map_append]
            exact List.perm_append_comm (l₁ := [idKV x])
          have HR06 := Lib.hid (rowIs_same HR04.out (ho6 _ (by omega)))
          have HI6 := Lib.hid (HMO.out hm hok)
          have hbr6 := hbr4.trans (hb6 w.heap.size (by omega))
          have hsw6 : w.heap.size + 2 ≤ w6.heap.size := by omega
          clear hM6 ho6 hb6 hs6
          go_wp2_with ((with_reducible refine at_load 61 (.tmp 5) ?_); refine wpList_load_own rfl 61 (.tmp 5) rfl wr.heap.size rfl _ _ _ HR4.out Try.underlying61 rfl (by kernel_rfl) ?_)
          refine HCO.out.mono ?_
          rintro e w5 ⟨rfl, rfl⟩
          go_wp2_with ((with_reducible refine at_load 61 (.tmp 5) ?_); refine wpList_load_own rfl 61 (.tmp 5) rfl wr.heap.size rfl _ _ _ HR4.out Try.underlying61 rfl (by kernel_rfl) ?_)
          rw [HEA.out] at HR06
          exact ⟨⟨i + 1, by omega, by go_num, HM6, HR06, HI6, hbr6, hsw6⟩, by simp [intOf]; omega⟩
    · obtain rfl : i = N.ids.length := by omega
      go_upto_region 12 with fail
      have HM := Lib.hid (mapP_new (P := Try.prog) (k := 63) wr)
      have R01 := Lib.hid (R0.out.alloc (.map #[] 0))
      have hbr1 := hbr.alloc hbr.size (.map #[] 0)
      clear R0 hbr hlt hi
      generalize hW2 : wr.alloc _ = w2 at *
      have hm2 : wr.heap.size < w2.heap.size := by rw [← hW2]; simp
      clear hW2
      generalize wr.heap.size = m at *
      have c2 : w2.cell? ⟨w.heap.size, 2, none⟩ = some (.slice v.al N.links.length v.cl) := R01.out.cell 2
      go_wp2_with fail
      clear c2
      go_loopw [8, 10, 58] (fun _ _ s58 wr => ∃ k : Nat, k ≤ N.links.length ∧ s58 = .int .i64 k ∧ Hid (MapP Try.prog 63 wr m (((N.dirs.map Lk.fr).take (2 * k)).map endKV)) ∧ Hid (RowIs wr w.heap.size 32 #[.slice v.ai N.ids.length v.ci, .slice v.ac N.costs.length v.cc, .slice v.al N.links.length v.cl]) ∧ Hid (EndsOk N (2 * k)) ∧ Below w.heap.size w wr ∧ m < wr.heap.size) (fun _ _ s58 _ => N.links.length - (intOf s58).toNat)
      case atStart => exact ⟨0, Nat.zero_le _, rfl, HM, R01, ⟨List.nodup_nil, fun j d hj => absurd hj (Nat.not_lt_zero _)⟩, hbr1, hm2⟩
      case round =>
        clear HM R01 hbr1 hm2
        rename World => wr
        obtain ⟨k, hk, rfl, HM, R0, HE, hbr, hmr⟩ := hrel
        by_cases hlt : k < N.links.length
        · obtain ⟨b, off, eal, hbl, hrg⟩ := (HN.out.kept hbr).lkr hlt
          have HRG := Lib.hid hrg
          have HD := Lib.hid (dirs_get hlt)
          generalize N.lk k = x at *
          clear hrg
          have HAL := Lib.hid eal
          clear eal
          rw [HAL.out]
          have hx0 : (0 : Int) ≤ (k : Int) := by omega
          have hx1 : (k : Int) < (N.links.length : Int) := by omega
          have R6 := Lib.hid (rowIs_new wr 64 #[.int .i64 0, .int .i64 0, .int .i64 0, .int .i64 0])
          go_wp2_with (first
            | ((with_reducible refine at_load 64 (.tmp 60) ?_); refine wpList_load_mid18 rfl 64 (.tmp 60) rfl b (off + k * 4) rfl (Lk.vals x) _ HRG.out Try.underlying64 rfl (by kernel_rfl) ?_)
            | ((with_reducible refine at_store 64 (.tmp 8) (.tmp 61) ?_); refine wpList_store_own rfl 64 (.tmp 8) (.tmp 61) rfl wr.heap.size _ rfl rfl _ _ R6.out (by kernel_rfl) rfl (by simp [Lk.vals, Value.oneCell']) wr.heap.size (Nat.le_refl _) ?_))
          intro w4 hR4 ho4 hs4 hb4
          have hb4' : Below wr.heap.size wr w4 := ((Below.refl _ _).alloc (Nat.le_refl _) _).trans hb4
          have HR4 : Hid (RowIs w4 wr.heap.size 64 #[.int .i64 x.a, .int .i64 x.p, .int .i64 x.b, .int .i64 x.q]) := hR4
          have HM4 := Lib.hid (HM.out.kept hb4')
          have HR04 := Lib.hid (R0.out.kept hb4')
          have hbr4 := hbr.trans (hb4'.mono hbr.size)
          have hm4 : m < w4.heap.size := by have := hb4'.size; omega
          clear hR4 ho4 hs4 hb4 hb4' R0 HM R6 HRG
          go_wp2_with ((with_reducible refine at_load 64 (.tmp 8) ?_); refine wpList_load_own rfl 64 (.tmp 8) rfl wr.heap.size rfl _ _ _ HR4.out Try.underlying64 rfl (by kernel_rfl) ?_)
          clear HR4 hmr hbr
          have hix0 : ∀ w : World, (Instr.index 64 (.agg #[.int .i64 x.a, .int .i64 x.p, .int .i64 x.b, .int .i64 x.q]) (.int .i64 0)).run Try.prog w = .ok (.agg #[.int .i64 x.a, .int .i64 x.p]) w := fun _ => by kernel_rfl
          have hix1 : ∀ w : World, (Instr.index 64 (.agg #[.int .i64 x.a, .int .i64 x.p, .int .i64 x.b, .int .i64 x.q]) (.int .i64 1)).run Try.prog w = .ok (.agg #[.int .i64 x.b, .int .i64 x.q]) w := fun _ => by kernel_rfl
          go_loopw [10, 63] (fun _ s63 wr => ∃ j : Nat, j ≤ 2 ∧ s63 = .int .i64 j ∧ Hid (MapP Try.prog 63 wr m (((N.dirs.map Lk.fr).take (2 * k + j)).map endKV)) ∧ Hid (RowIs wr w.heap.size 32 #[.slice v.ai N.ids.length v.ci, .slice v.ac N.costs.length v.cc, .slice v.al N.links.length v.cl]) ∧ Hid (EndsOk N (2 * k + j)) ∧ Below w.heap.size w wr ∧ m < wr.heap.size) (fun _ s63 _ => 2 - (intOf s63).toNat)
          case atStart => exact ⟨0, by omega, rfl, HM4, HR04, HE, hbr4, hm4⟩
          case round =>
            clear HM4 HR04 HE hbr4 hm4
            rename World => wr
            obtain ⟨j, hj, rfl, HM, R0, HE, hbr, hmr⟩ := hrel
            rcases (show j = 0 ∨ j = 1 ∨ j = 2 by omega) with rfl | rfl | rfl
            · have R6 := Lib.hid (rowIs_new wr 63 #[.int .i64 0, .int .i64 0])
              go_wp2_with ((with_reducible refine at_store 63 (.tmp 10) (.tmp 65) ?_); refine wpList_store_own rfl 63 (.tmp 10) (.tmp 65) rfl wr.heap.size _ rfl rfl _ _ R6.out (by kernel_rfl) rfl (by simp [Value.oneCell']) wr.heap.size (Nat.le_refl _) ?_)
              intro w4 hR4 ho4 hs4 hb4
              have hb4' : Below wr.heap.size wr w4 := ((Below.refl _ _).alloc (Nat.le_refl _) _).trans hb4
              have HR4 : Hid (RowIs w4 wr.heap.size 63 #[.int .i64 x.a, .int .i64 x.p]) := hR4
              have HM4 := Lib.hid (HM.out.kept hb4')
              have HR04 := Lib.hid (R0.out.kept hb4')
              have hbr4 := hbr.trans (hb4'.mono hbr.size)
              have hm4 : m < w4.heap.size := by have := hb4'.size; omega
              clear hR4 ho4 hs4 hb4 hb4' R0 HM R6
              have HIS := Lib.hid (is18 v N x.a x.p w4 (HN.out.kept hbr4))
              have HTF := Lib.hid (take_fr HD.out.1)
              have HMORE := Lib.hid (fun (h1 : (x.a, x.p) ∉ (N.dirs.map Lk.fr).take (2 * k + 0)) (h2 : N.has x.a x.p = true) => HE.out.more HD.out.1 h1 h2)
              have HTW := Lib.hid (fun (h1 : (x.a, x.p) ∈ (N.dirs.map Lk.fr).take (2 * k + 0)) => EndsOk.twice HD.out.1 h1)
              have HNO : Hid (N.has x.a x.p = false → ¬ N.Ok) := fun hf h => by
                have := h.has _ (List.mem_of_getElem? HD.out.1)
                rw [show N.has (x).a (x).p = N.has x.a x.p from rfl, hf] at this
                cases this
              cases hh : N.has x.a x.p
              · rw [hh] at HIS
                go_wp2_with (first
                  | ((with_reducible refine at_load 32 (.tmp 1) ?_); refine wpList_load_own rfl 32 (.tmp 1) rfl w.heap.size rfl _ _ _ HR04.out Try.underlying32 rfl (by kernel_rfl) ?_)
                  | ((with_reducible refine at_load 63 (.tmp 10) ?_); refine wpList_load_own rfl 63 (.tmp 10) rfl wr.heap.size rfl _ _ _ HR4.out Try.underlying63 rfl (by kernel_rfl) ?_))
                refine HIS.out.mono ?_
                rintro e w5 ⟨rfl, hb5⟩
                have hbr5 := hbr4.trans (hb5.mono hbr4.size)
                go_wp2_with fail
                go_ret
                rw [NO.out (HNO.out hh)]
                exact ⟨rfl, hbr5⟩
              · rw [hh] at HIS
                have hi64 : I64' x.a ∧ I64' x.p := by
                  have h3 := LN.has_iff.1 hh
                  have h4 := HI.out.cost (x.a).toNat (by have := H2.out; omega)
                  unfold okCosts at h4
                  simp only [Bool.and_eq_true, decide_eq_true_eq] at h4
                  unfold I64'
                  have := H2.out
                  omega
                obtain ⟨kl, hkl⟩ := keyOf_end x.a x.p hi64.1 hi64.2
                have HKL := Lib.hid hkl
                clear hkl hi64
                go_wp2_with (first
                  | ((with_reducible refine at_load 32 (.tmp 1) ?_); refine wpList_load_own rfl 32 (.tmp 1) rfl w.heap.size rfl _ _ _ HR04.out Try.underlying32 rfl (by kernel_rfl) ?_)
                  | ((with_reducible refine at_load 63 (.tmp 10) ?_); refine wpList_load_own rfl 63 (.tmp 10) rfl wr.heap.size rfl _ _ _ HR4.out Try.underlying63 rfl (by kernel_rfl) ?_))
                refine HIS.out.mono ?_
                rintro e w5 ⟨rfl, hb5⟩
                have hbr5 := hbr4.trans (hb5.mono hbr4.size)
                have HM5 := Lib.hid (HM4.out.kept hb5)
                have HR05 := Lib.hid (HR04.out.kept hb5)
                have HR5 := Lib.hid (HR4.out.kept hb5)
                have hm5 : m < w5.heap.size := by have := hb5.size; omega
                clear hb5 HM4 HR04 HR4 HIS
                by_cases hm : (x.a, x.p) ∈ (N.dirs.map Lk.fr).take (2 * k + 0)
                · have hlk := run_lookup_hitP (t := 67) end_keyed Try.underlying67 HM5.out HKL.out (endkv_mem hm) false
                  simp only [Bool.false_eq_true, if_false] at hlk
                  go_wp2_with ((with_reducible refine at_load 63 (.tmp 10) ?_); refine wpList_load_own rfl 63 (.tmp 10) rfl wr.heap.size rfl _ _ _ HR5.out Try.underlying63 rfl (by kernel_rfl) ?_)
                  go_ret
                  rw [NO.out (HTW.out hm)]
                  exact ⟨rfl, hbr5⟩
                · have hlk := run_lookup_missP (t := 67) end_keyed Try.underlying67 HM5.out HKL.out (endkv_no hm) (zero_bool18 w5) false
                  simp only [Bool.false_eq_true, if_false] at hlk
                  obtain ⟨w6, hup, hM6, ho6, hs6, hb6⟩ := run_update_newP (t := 67) end_keyed Try.underlying67 HM5.out HKL.out (endkv_no hm) (.bool true)
                  have HM6 : Hid (MapP Try.prog 63 w6 m (((N.dirs.map Lk.fr).take (2 * k + 0 + 1)).map endKV)) := by
                    refine hM6.perm ?_
                    rw [HTF.out, List.map_append]
                    exact List.perm_append_comm (l₁ := [endKV (x.a, x.p)])
                  have HR06 := Lib.hid (rowIs_same HR05.out (ho6 _ (by omega)))
                  have HE6 := Lib.hid (HMORE.out hm hh)
                  have hbr6 := hbr5.trans (hb6 w.heap.size (by omega))
                  have hm6 : m < w6.heap.size := by omega
                  clear hM6 ho6 hb6 hs6
                  go_wp2_with ((with_reducible refine at_load 63 (.tmp 10) ?_); refine wpList_load_own rfl 63 (.tmp 10) rfl wr.heap.size rfl _ _ _ HR5.out Try.underlying63 rfl (by kernel_rfl) ?_)
                  exact ⟨⟨1, by omega, by go_num, HM6, HR06, HE6, hbr6, hm6⟩, by simp [intOf]⟩
            · have R6 := Lib.hid (rowIs_new wr 63 #[.int .i64 0, .int .i64 0])
              go_wp2_with ((with_reducible refine at_store 63 (.tmp 10) (.tmp 65) ?_); refine wpList_store_own rfl 63 (.tmp 10) (.tmp 65) rfl wr.heap.size _ rfl rfl _ _ R6.out (by kernel_rfl) rfl (by simp [Value.oneCell']) wr.heap.size (Nat.le_refl _) ?_)
              intro w4 hR4 ho4 hs4 hb4
              have hb4' : Below wr.heap.size wr w4 := ((Below.refl _ _).alloc (Nat.le_refl _) _).trans hb4
              have HR4 : Hid (RowIs w4 wr.heap.size 63 #[.int .i64 x.b, .int .i64 x.q]) := hR4
              have HM4 := Lib.hid (HM.out.kept hb4')
              have HR04 := Lib.hid (R0.out.kept hb4')
              have hbr4 := hbr.trans (hb4'.mono hbr.size)
              have hm4 : m < w4.heap.size := by have := hb4'.size; omega
              clear hR4 ho4 hs4 hb4 hb4' R0 HM R6
              have HIS := Lib.hid (is18 v N x.b x.q w4 (HN.out.kept hbr4))
              have HTF := Lib.hid (take_fr HD.out.2)
              have HMORE := Lib.hid (fun (h1 : (x.b, x.q) ∉ (N.dirs.map Lk.fr).take (2 * k + 1)) (h2 : N.has x.b x.q = true) => HE.out.more HD.out.2 h1 h2)
              have HTW := Lib.hid (fun (h1 : (x.b, x.q) ∈ (N.dirs.map Lk.fr).take (2 * k + 1)) => EndsOk.twice HD.out.2 h1)
              have HNO : Hid (N.has x.b x.q = false → ¬ N.Ok) := fun hf h => by
                have := h.has _ (List.mem_of_getElem? HD.out.2)
                rw [show N.has (x.turn).a (x.turn).p = N.has x.b x.q from rfl, hf] at this
                cases this
              cases hh : N.has x.b x.q
              · rw [hh] at HIS
                go_wp2_with (first
                  | ((with_reducible refine at_load 32 (.tmp 1) ?_); refine wpList_load_own rfl 32 (.tmp 1) rfl w.heap.size rfl _ _ _ HR04.out Try.underlying32 rfl (by kernel_rfl) ?_)
                  | ((with_reducible refine at_load 63 (.tmp 10) ?_); refine wpList_load_own rfl 63 (.tmp 10) rfl wr.heap.size rfl _ _ _ HR4.out Try.underlying63 rfl (by kernel_rfl) ?_))
                refine HIS.out.mono ?_
                rintro e w5 ⟨rfl, hb5⟩
                have hbr5 := hbr4.trans (hb5.mono hbr4.size)
                go_wp2_with fail
                go_ret
                rw [NO.out (HNO.out hh)]
                exact ⟨rfl, hbr5⟩
              · rw [hh] at HIS
                have hi64 : I64' x.b ∧ I64' x.q := by
                  have h3 := LN.has_iff.1 hh
                  have h4 := HI.out.cost (x.b).toNat (by have := H2.out; omega)
                  unfold okCosts at h4
                  simp only [Bool.and_eq_true, decide_eq_true_eq] at h4
                  unfold I64'
                  have := H2.out
                  omega
                obtain ⟨kl, hkl⟩ := keyOf_end x.b x.q hi64.1 hi64.2
                have HKL := Lib.hid hkl
                clear hkl hi64
                go_wp2_with (first
                  | ((with_reducible refine at_load 32 (.tmp 1) ?_); refine wpList_load_own rfl 32 (.tmp 1) rfl w.heap.size rfl _ _ _ HR04.out Try.underlying32 rfl (by kernel_rfl) ?_)
                  | ((with_reducible refine at_load 63 (.tmp 10) ?_); refine wpList_load_own rfl 63 (.tmp 10) rfl wr.heap.size rfl _ _ _ HR4.out Try.underlying63 rfl (by kernel_rfl) ?_))
                refine HIS.out.mono ?_
                rintro e w5 ⟨rfl, hb5⟩
                have hbr5 := hbr4.trans (hb5.mono hbr4.size)
                have HM5 := Lib.hid (HM4.out.kept hb5)
                have HR05 := Lib.hid (HR04.out.kept hb5)
                have HR5 := Lib.hid (HR4.out.kept hb5)
                have hm5 : m < w5.heap.size := by have := hb5.size; omega
                clear hb5 HM4 HR04 HR4 HIS
                by_cases hm : (x.b, x.q) ∈ (N.dirs.map Lk.fr).take (2 * k + 1)
                · have hlk := run_lookup_hitP (t := 67) end_keyed Try.underlying67 HM5.out HKL.out (endkv_mem hm) false
                  simp only [Bool.false_eq_true, if_false] at hlk
                  go_wp2_with ((with_reducible refine at_load 63 (.tmp 10) ?_); refine wpList_load_own rfl 63 (.tmp 10) rfl wr.heap.size rfl _ _ _ HR5.out Try.underlying63 rfl (by kernel_rfl) ?_)
                  go_ret
                  rw [NO.out (HTW.out hm)]
                  exact ⟨rfl, hbr5⟩
                · have hlk := run_lookup_missP (t := 67) end_keyed Try.underlying67 HM5.out HKL.out (endkv_no hm) (zero_bool18 w5) false
                  simp only [Bool.false_eq_true, if_false] at hlk
                  obtain ⟨w6, hup, hM6, ho6, hs6, hb6⟩ := run_update_newP (t := 67) end_keyed Try.underlying67 HM5.out HKL.out (endkv_no hm) (.bool true)
                  have HM6 : Hid (MapP Try.prog 63 w6 m (((N.dirs.map Lk.fr).take (2 * k + 1 + 1)).map endKV)) := by
                    refine hM6.perm ?_
                    rw [HTF.out, List.map_append]
                    exact List.perm_append_comm (l₁ := [endKV (x.b, x.q)])
                  have HR06 := Lib.hid (rowIs_same HR05.out (ho6 _ (by omega)))
                  have HE6 := Lib.hid (HMORE.out hm hh)
                  have hbr6 := hbr5.trans (hb6 w.heap.size (by omega))
                  have hm6 : m < w6.heap.size := by omega
                  clear hM6 ho6 hb6 hs6
                  go_wp2_with ((with_reducible refine at_load 63 (.tmp 10) ?_); refine wpList_load_own rfl 63 (.tmp 10) rfl wr.heap.size rfl _ _ _ HR5.out Try.underlying63 rfl (by kernel_rfl) ?_)
                  exact ⟨⟨2, by omega, by go_num, HM6, HR06, HE6, hbr6, hm6⟩, by simp [intOf]⟩
            · go_wp2_with fail
              rw [HAL.out] at R0
              exact ⟨⟨k + 1, by omega, by go_num, HM, R0, HE, hbr, hmr⟩, by simp [intOf]; omega⟩
        · obtain rfl : k = N.links.length := by omega
          go_wp2_with fail
          go_ret
          have hok : N.right = true := YES.out.2 ⟨by omega, by omega, H2.out, by
              have := HI.out.nodup
              rwa [List.take_length] at this, fun c hc => by
              obtain ⟨j, hj, rfl⟩ := List.mem_iff_getElem.1 hc
              have := HI.out.cost j (by have := H2.out; omega)
              rwa [LN.cs_get hj] at this, fun d hd => by
              obtain ⟨j, hj, rfl⟩ := List.mem_iff_getElem.1 hd
              exact HE.out.has j _ (by rw [dirs_len] at hj; exact hj) (List.getElem?_eq_getElem hj), by
              have := HE.out.nodup
              rwa [List.take_of_length_le (by rw [List.length_map, dirs_len]; exact Nat.le_refl _)] at this⟩
          rw [hok]
          exact ⟨rfl, hbr⟩
end Go.Proofs.Ytcmokhpnooldgaa
