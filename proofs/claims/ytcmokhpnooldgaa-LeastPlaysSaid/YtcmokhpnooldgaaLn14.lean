/- causeyref18.Right. By an AI agent. -/
import Derived.Test.YtcmokhpnooldgaaLn13
namespace Go.Proofs.Ytcmokhpnooldgaa
open Go.RowKit Go.WideShapes Go.Sort Grow

theorem infoI64 : ∃ i, Try.prog.info? 3 = some i ∧ i.size = 1 := by
  have h : (Try.prog.info? 3).map (·.size) = some 1 := by kernel_rfl
  obtain ⟨i, hi, h⟩ := Option.map_eq_some_iff.1 h
  exact ⟨i, hi, h⟩
set_option maxRecDepth 20000 in
theorem run_equalIn_pair (d : Nat) (a p b q : Int) (w : World) : (Op.equalIn (d + 1 + 1) 77 (endV a p) (endV b q)).run Try.prog w = .ok (decide (a = b ∧ p = q)) w := by
  obtain ⟨i0, hi, _⟩ := infoI64
  have he : Try.prog.plainKey 3 = true := by kernel_rfl
  have pt : ∀ (x y : Int) (i : Nat) (z : Value), (#[Value.int .i64 x, .int .i64 y] : Array Value)[i]? = some z → (part 3 #[Value.int .i64 x, .int .i64 y] i).run Try.prog w = .ok z w := fun x y i z h => run_part_plain w he h
  have p1 := pt a p 0 (.int .i64 a) rfl
  have p2 := pt b q 0 (.int .i64 b) rfl
  have p3 := pt a p 1 (.int .i64 p) rfl
  have p4 := pt b q 1 (.int .i64 q) rfl
  have e1 := run_equalIn_int (P := Try.prog) w d 3 .i64 .i64 a b Try.underlying3
  have e2 := run_equalIn_int (P := Try.prog) w d 3 .i64 .i64 p q Try.underlying3
  rw [run_equalIn_array (P := Try.prog) w (d + 1) _ _ Try.underlying77 hi, show Try.prog.cellsOf 3 = 1 from by kernel_rfl, show List.range 2 = [0, 1] from rfl]
  simp only [Op.eqItems, Sem.run_bind, Nat.zero_mul, Nat.one_mul, p1, p2, Result.andThen_ok, e1]
  by_cases h1 : a = b
  · have h1' : (a == b) = true := by simpa using h1
    rw [h1']
    simp only [Bool.not_true, Bool.false_eq_true, if_false, Sem.run_bind, p3, p4, Result.andThen_ok, e2]
    by_cases h2 : p = q
    · have h2' : (p == q) = true := by simpa using h2
      rw [h2']
      simp [h1, h2]
    · have h2' : (p == q) = false := by simpa using h2
      rw [h2']
      simp [h2]
  · have h1' : (a == b) = false := by simpa using h1
    rw [h1']
    simp [h1]
theorem run_eql_pair (a p b q : Int) (w : World) : (binOp .eql 77 (endV a p) (endV b q)).run Try.prog w = .ok (.bool (decide (a = b ∧ p = q))) w := by
  have h : (Op.equal 77 (endV a p) (endV b q)).run Try.prog w = .ok (decide (a = b ∧ p = q)) w := run_equalIn_pair 9998 a p b q w
  simp only [binOp]
  simp [h]
theorem run_eql_ids (x y : Id8) (w : World) : (binOp .eql 44 (.agg #[.int .u8 ((x.f 0).toNat : Int), .int .u8 ((x.f 1).toNat : Int), .int .u8 ((x.f 2).toNat : Int), .int .u8 ((x.f 3).toNat : Int), .int .u8 ((x.f 4).toNat : Int), .int .u8 ((x.f 5).toNat : Int), .int .u8 ((x.f 6).toNat : Int), .int .u8 ((x.f 7).toNat : Int)]) (.agg #[.int .u8 ((y.f 0).toNat : Int), .int .u8 ((y.f 1).toNat : Int), .int .u8 ((y.f 2).toNat : Int), .int .u8 ((y.f 3).toNat : Int), .int .u8 ((y.f 4).toNat : Int), .int .u8 ((y.f 5).toNat : Int), .int .u8 ((y.f 6).toNat : Int), .int .u8 ((y.f 7).toNat : Int)])).run Try.prog w = .ok (.bool (decide (x = y))) w := by
  have h : (Op.equal 44 (.agg #[.int .u8 ((x.f 0).toNat : Int), .int .u8 ((x.f 1).toNat : Int), .int .u8 ((x.f 2).toNat : Int), .int .u8 ((x.f 3).toNat : Int), .int .u8 ((x.f 4).toNat : Int), .int .u8 ((x.f 5).toNat : Int), .int .u8 ((x.f 6).toNat : Int), .int .u8 ((x.f 7).toNat : Int)]) (.agg #[.int .u8 ((y.f 0).toNat : Int), .int .u8 ((y.f 1).toNat : Int), .int .u8 ((y.f 2).toNat : Int), .int .u8 ((y.f 3).toNat : Int), .int .u8 ((y.f 4).toNat : Int), .int .u8 ((y.f 5).toNat : Int), .int .u8 ((y.f 6).toNat : Int), .int .u8 ((y.f 7).toNat : Int)])).run Try.prog w = .ok (decide (x = y)) w := by
    have := run_equalIn_id8 9998 x.f y.f w
    rw [eqB_id] at this
    exact this
  simp only [binOp]
  simp [h]
theorem info_pair : ∃ i z, Try.prog.info? 77 = some i ∧ i.zero = some z ∧ i.size = 2 ∧ i.bytes = 16 ∧ z.cells.size = 2 := by
  have h : (Try.prog.info? 77).map (fun i => (i.zero.map (·.cells.size), i.size, i.bytes)) = some (some 2, 2, 16) := by kernel_rfl
  obtain ⟨i, hi, h⟩ := Option.map_eq_some_iff.1 h
  simp only [Prod.mk.injEq] at h
  obtain ⟨z, hz, h18⟩ := Option.map_eq_some_iff.1 h.1
  exact ⟨i, z, hi, hz, h.2.1, h.2.2, h18⟩
def endC (e : Int × Int) : List Value := [.int .i64 e.1, .int .i64 e.2]

set_option maxRecDepth 20000 in
set_option maxHeartbeats 8000000 in
theorem refRight18 (v : NV) (N : LN) (w : World) (h : NetAt w v N) (hl : N.links.length ≤ 1000) :
    Calls Try.prog 17 #[.agg #[.slice v.ai N.ids.length v.ci, .slice v.ac N.costs.length v.cc, .slice v.al N.links.length v.cl]] w fun e w' => e = .returned (.bool N.right) ∧ Below w.heap.size w w' := by
  have HN := Lib.hid h
  have NO := Lib.hid (@right_no N)
  have YES := Lib.hid (@right_iff N)
  obtain ⟨li, lz, hli, hlz, hy1, hy2, hy3⟩ := info_pair
  have HLI := Lib.hid hli
  have HLZ := Lib.hid hlz
  clear h hli hlz
  go_enter Try.func17, Try.ntmps17
  go_upto_region 1 with fail
  generalize hW : w.alloc _ = w1
  have hbW : Below w.heap.size w w1 := by rw [← hW]; exact (Below.refl _ _).alloc (Nat.le_refl _) _
  have R0 : Hid (RowIs w1 w.heap.size 26 #[.slice v.ai N.ids.length v.ci, .slice v.ac N.costs.length v.cc, .slice v.al N.links.length v.cl]) := by subst hW; exact rowIs_new w _ _
  clear hW
  have c0 : w1.cell? ⟨w.heap.size, 0, none⟩ = some (.slice v.ai N.ids.length v.ci) := R0.out.cell 0
  have c1 : w1.cell? ⟨w.heap.size, 1, none⟩ = some (.slice v.ac N.costs.length v.cc) := R0.out.cell 1
  by_cases h0 : (N.ids.length : Int) < 1
  · go_wp2_with fail
    go_ret
    rw [NO.out (fun h => by have := h.n1; omega)]
    exact ⟨rfl, hbW⟩
  have d0 : decide ((N.ids.length : Int) < 1) = false := decide_eq_false h0
  by_cases h1 : 16 < (N.ids.length : Int)
  · go_wp2_with fail
    go_ret
    rw [NO.out (fun h => by have := h.n16; omega)]
    exact ⟨rfl, hbW⟩
  have d1 : decide (16 < (N.ids.length : Int)) = false := decide_eq_false h1
  cases h2 : ((N.costs.length : Int) == (N.ids.length : Int))
  · go_wp2_with fail
    go_ret
    rw [beq_eq_false_iff_ne] at h2
    rw [NO.out (fun h => by have := h.len; omega)]
    exact ⟨rfl, hbW⟩
  have h2' : N.costs.length = N.ids.length := by rw [beq_iff_eq] at h2; omega
  have H2 := Lib.hid h2'
  clear h2'
  go_wp2_with fail
  clear c0 c1 d0 d1 h2
  go_loopw [3, 4, 5] (fun s3 _ _ wr => ∃ i : Nat, i ≤ N.ids.length ∧ s3 = .int .i64 i ∧ Hid (RowIs wr w.heap.size 26 #[.slice v.ai N.ids.length v.ci, .slice v.ac N.costs.length v.cc, .slice v.al N.links.length v.cl]) ∧ Hid (IdsOk N i) ∧ Below w.heap.size w wr) (fun s3 _ _ _ => N.ids.length - (intOf s3).toNat)
  case atStart => exact ⟨0, Nat.zero_le _, rfl, R0, ⟨List.nodup_nil, fun j hj => absurd hj (Nat.not_lt_zero _)⟩, hbW⟩
  case round =>
    clear R0 hbW w1
    rename World => wr
    obtain ⟨i, hi, rfl, R0, HI, hbr⟩ := hrel
    have c0 : wr.cell? ⟨w.heap.size, 0, none⟩ = some (.slice v.ai N.ids.length v.ci) := R0.out.cell 0
    by_cases hlt : i < N.ids.length
    · go_wp2_with fail
      clear c0
      go_loopw [4] (fun s4 wr => ∃ k : Nat, k ≤ i ∧ s4 = .int .i64 k ∧ Hid (RowIs wr w.heap.size 26 #[.slice v.ai N.ids.length v.ci, .slice v.ac N.costs.length v.cc, .slice v.al N.links.length v.cl]) ∧ Hid (∀ j, j < k → N.id j ≠ N.id i) ∧ Below w.heap.size w wr) (fun s4 _ => i - (intOf s4).toNat)
      case atStart => exact ⟨0, Nat.zero_le _, rfl, R0, fun j hj => absurd hj (Nat.not_lt_zero _), hbr⟩
      case round =>
        clear R0 hbr
        rename World => wr
        obtain ⟨k, hk, rfl, R0, HK, hbr⟩ := hrel
        by_cases hki : k < i
        · obtain ⟨b, off, eai, hbl, hrgk⟩ := (HN.out.kept hbr).idr (show k < N.ids.length by omega)
          obtain ⟨b', off', eai', hbl', hrgi⟩ := (HN.out.kept hbr).idr hlt
          rw [eai] at eai'
          simp only [Option.some.injEq, Addr.mk.injEq, and_true] at eai'
          obtain ⟨rfl, rfl⟩ := eai'
          have HRK := Lib.hid hrgk
          have HRI := Lib.hid hrgi
          have f0 := cell_regrown (show wr.cell? ⟨w.heap.size, 0, none⟩ = some (.slice (some ⟨b, off, none⟩) N.ids.length v.ci) by rw [← eai]; exact R0.out.cell 0)
          have heq := fun w => run_eql_ids (N.id k) (N.id i) w
          have HDUP : Hid (N.id k = N.id i → ¬ N.Ok) := fun e h => by
            have := h.id_inj (by omega) hlt e
            omega
          have HK1 : Hid (N.id k ≠ N.id i → ∀ j, j < k + 1 → N.id j ≠ N.id i) := fun hne j hj => by
            rcases Nat.lt_or_eq_of_le (Nat.le_of_lt_succ hj) with h1 | rfl
            · exact HK.out j h1
            · exact hne
          generalize N.id k = ik at *
          generalize N.id i = ii at *
          generalize hdc : decide (ik = ii) = dc at *
          have HDC := Lib.hid hdc
          have hx0 : (0 : Int) ≤ (k : Int) := by omega
          have hx1 : (k : Int) < (N.ids.length : Int) := by omega
          have hx2 : (0 : Int) ≤ (i : Int) := by omega
          have hx3 : (i : Int) < (N.ids.length : Int) := by omega
          clear hdc eai hrgk hrgi hbl'
          go_upto_region 9 with fail
          refine wp_region_mix 11 (by kernel_rfl) (by kernel_rfl) (by kernel_rfl) ?_
          (refine mix_step (by kernel_rfl) (by kernel_rfl) (fun K hK => ?_); go_simp; (try (simp only [↓IntWalk.iteOmega]; go_simp)); (first | (refine hK _ ?_; clear hK K) | (apply Exists.intro; refine ⟨fun _ => ?_, hK _ ?_⟩; (first | fail); clear hK K)))
          (refine mix_step (by kernel_rfl) (by kernel_rfl) (fun K hK => ?_); go_simp; (try (simp only [↓IntWalk.iteOmega]; go_simp)); (first | (refine hK _ ?_; clear hK K) | (apply Exists.intro; refine ⟨fun _ => ?_, hK _ ?_⟩; (first | fail); clear hK K)))
          (refine mix_step (by kernel_rfl) (by kernel_rfl) (fun K hK => ?_); go_simp; (try (simp only [↓IntWalk.iteOmega]; go_simp)); (first | (refine hK _ ?_; clear hK K) | (apply Exists.intro; refine ⟨fun _ => ?_, hK _ ?_⟩; (first | fail); clear hK K)))
          (refine mix_step (by kernel_rfl) (by kernel_rfl) (fun K hK => ?_); go_simp; (try (simp only [↓IntWalk.iteOmega]; go_simp)); (first | (refine hK _ ?_; clear hK K) | (apply Exists.intro; refine ⟨fun _ => ?_, hK _ ?_⟩; (first | fail); clear hK K)))
          refine mix_exact (.agg #[.int .u8 ((ik.f 0).toNat : Int), .int .u8 ((ik.f 1).toNat : Int), .int .u8 ((ik.f 2).toNat : Int), .int .u8 ((ik.f 3).toNat : Int), .int .u8 ((ik.f 4).toNat : Int), .int .u8 ((ik.f 5).toNat : Int), .int .u8 ((ik.f 6).toNat : Int), .int .u8 ((ik.f 7).toNat : Int)]) rfl (exact_load_range (sub := Id8.vals ik) rfl rfl (by simp) HRK.out hbl Try.underlying44 rfl (by kernel_rfl)) ?_
          (refine mix_step (by kernel_rfl) (by kernel_rfl) (fun K hK => ?_); go_simp; (try (simp only [↓IntWalk.iteOmega]; go_simp)); (first | (refine hK _ ?_; clear hK K) | (apply Exists.intro; refine ⟨fun _ => ?_, hK _ ?_⟩; (first | fail); clear hK K)))
          (refine mix_step (by kernel_rfl) (by kernel_rfl) (fun K hK => ?_); go_simp; (try (simp only [↓IntWalk.iteOmega]; go_simp)); (first | (refine hK _ ?_; clear hK K) | (apply Exists.intro; refine ⟨fun _ => ?_, hK _ ?_⟩; (first | fail); clear hK K)))
          (refine mix_step (by kernel_rfl) (by kernel_rfl) (fun K hK => ?_); go_simp; (try (simp only [↓IntWalk.iteOmega]; go_simp)); (first | (refine hK _ ?_; clear hK K) | (apply Exists.intro; refine ⟨fun _ => ?_, hK _ ?_⟩; (first | fail); clear hK K)))
          (refine mix_step (by kernel_rfl) (by kernel_rfl) (fun K hK => ?_); go_simp; (try (simp only [↓IntWalk.iteOmega]; go_simp)); (first | (refine hK _ ?_; clear hK K) | (apply Exists.intro; refine ⟨fun _ => ?_, hK _ ?_⟩; (first | fail); clear hK K)))
          refine mix_exact (.agg #[.int .u8 ((ii.f 0).toNat : Int), .int .u8 ((ii.f 1).toNat : Int), .int .u8 ((ii.f 2).toNat : Int), .int .u8 ((ii.f 3).toNat : Int), .int .u8 ((ii.f 4).toNat : Int), .int .u8 ((ii.f 5).toNat : Int), .int .u8 ((ii.f 6).toNat : Int), .int .u8 ((ii.f 7).toNat : Int)]) rfl (exact_load_range (sub := Id8.vals ii) rfl rfl (by simp) HRI.out hbl Try.underlying44 rfl (by kernel_rfl)) ?_
          (refine mix_step (by kernel_rfl) (by kernel_rfl) (fun K hK => ?_); go_simp; (try (simp only [↓IntWalk.iteOmega]; go_simp)); (first | (refine hK _ ?_; clear hK K) | (apply Exists.intro; refine ⟨fun _ => ?_, hK _ ?_⟩; (first | fail); clear hK K)))
          refine mix_nil ?_
          rintro ⟨dq, osq⟩
          have hb5 := below_regrown wr dq osq
          refine (show wpList _ _ _ _ _ _ from ?_)
          simp only [List.drop, Act.put, List.setIfInBounds_toArray, List.set]
          have R0 := Lib.hid (R0.out.kept hb5)
          have hbr := hbr.trans (hb5.mono hbr.size)
          clear f0 heq hb5 HRK HRI hbl
          generalize grow (redrawn wr dq) osq = w5 at *
          cases dc
          · have HK2 := Lib.hid (HK1.out (of_decide_eq_false HDC.out))
            go_wp2_with fail
            exact ⟨⟨k + 1, by omega, by go_num, R0, HK2, hbr⟩, by simp [intOf]; omega⟩
          · have HNK := Lib.hid (HDUP.out (of_decide_eq_true HDC.out))
            go_wp2_with fail
            go_ret
            rw [NO.out HNK.out]
            exact ⟨rfl, hbr⟩
        · obtain rfl : k = i := by omega
          have HNI : Hid (N.id k ∉ N.ids.take k) := fun hm => by
            obtain ⟨j, hj, e⟩ := List.mem_iff_getElem.1 hm
            rw [List.length_take] at hj
            refine HK.out j (by omega) ?_
            rw [← e, LN.id_get (by omega)]
            simp
          have HMO := Lib.hid (fun (h2 : okCosts (N.cs k) = true) => HI.out.more hlt HNI.out h2)
          have HCB : Hid (okCosts (N.cs k) = false → ¬ N.Ok) := fun hc h => by
            have := h.cost (N.cs k) (LN.cs_mem (by have := H2.out; omega))
            rw [this] at hc
            cases hc
          obtain ⟨cb, coff, ca, cci, eac, hcc, hci⟩ := (HN.out.kept hbr).cs (show k < N.costs.length by have := H2.out; omega)
          have c1 : wr.cell? ⟨w.heap.size, 1, none⟩ = some (.slice (some ⟨cb, coff, none⟩) N.costs.length v.cc) := by rw [← eac]; exact R0.out.cell 1
          have HCI := Lib.hid hci
          generalize N.cs k = z at *
          have hx2 : (0 : Int) ≤ (k : Int) := by omega
          have hx3 : (k : Int) < (N.costs.length : Int) := by have := H2.out; omega
          clear hci eac HK
          by_cases hz : 32 < (z.length : Int)
          · have HB : Hid (okCosts z = false) := by
              show _ = _
              unfold okCosts
              rw [decide_eq_false (by omega)]
              rfl
            go_wp2_with fail
            go_ret
            rw [NO.out (HCB.out HB.out)]
            exact ⟨rfl, hbr⟩
          · have dz : decide (32 < (z.length : Int)) = false := decide_eq_false hz
            go_wp2_with fail
            clear dz
            go_loopw [5] (fun s5 wr' => ∃ m : Nat, m ≤ z.length ∧ s5 = .int .i64 m ∧ Hid (∀ j, j < m → okCost (z.getD j 0) = true) ∧ wr = wr') (fun s5 _ => z.length - (intOf s5).toNat)
            case atStart => exact ⟨0, Nat.zero_le _, rfl, fun j hj => absurd hj (Nat.not_lt_zero _), rfl⟩
            case round =>
              obtain ⟨m, hm, rfl, HM, rfl⟩ := hrel
              by_cases hmz : m < z.length
              · obtain ⟨zb, zoff, eca, hzc⟩ := ints_cell HCI.out hmz
                have hcc' : wr.cell? ⟨cb, coff + k, none⟩ = some (.slice (some ⟨zb, zoff, none⟩) z.length cci) := by rw [← eca]; exact hcc
                have HMZ := Lib.hid (getD_mem18 hmz)
                have HM1 : Hid (okCost (z.getD m 0) = true → ∀ j, j < m + 1 → okCost (z.getD j 0) = true) := fun hne j hj => by
                  rcases Nat.lt_or_eq_of_le (Nat.le_of_lt_succ hj) with h1 | rfl
                  · exact HM.out j h1
                  · exact hne
                have HZB : Hid (okCost (z.getD m 0) = false → okCosts z = false) := fun hb => by
                  unfold okCosts
                  rw [show z.all okCost = false from List.all_eq_false.2 ⟨_, HMZ.out, by rw [hb]; decide⟩, Bool.and_false]
                generalize z.getD m 0 = c at *
                have hx4 : (0 : Int) ≤ (m : Int) := by omega
                have hx5 : (m : Int) < (z.length : Int) := by omega
                clear hcc eca
                by_cases hc1 : c < 1
                · have HB : Hid (okCosts z = false) := HZB.out (by unfold okCost; exact decide_eq_false (by omega))
                  go_wp2_with fail
                  go_ret
                  rw [NO.out (HCB.out HB.out)]
                  exact ⟨rfl, hbr⟩
                · have e1 : decide (c < 1) = false := decide_eq_false hc1
                  by_cases hc2 : 65535 < c
                  · have HB : Hid (okCosts z = false) := HZB.out (by unfold okCost; exact decide_eq_false (by omega))
                    go_wp2_with fail
                    go_ret
                    rw [NO.out (HCB.out HB.out)]
                    exact ⟨rfl, hbr⟩
                  · have e2 : decide (65535 < c) = false := decide_eq_false hc2
                    have HM2 := Lib.hid (HM1.out (by unfold okCost; exact decide_eq_true (by omega)))
                    go_wp2_with fail
                    exact ⟨⟨m + 1, by omega, by go_num, HM2, trivial⟩, by simp [intOf]; omega⟩
              · obtain rfl : m = z.length := by omega
                have HZ : Hid (okCosts z = true) := by
                  show _ = _
                  unfold okCosts
                  rw [decide_eq_true (by omega), Bool.true_and, List.all_eq_true]
                  intro x hx
                  obtain ⟨j, hj, rfl⟩ := List.mem_iff_getElem.1 hx
                  have := HM.out j hj
                  rwa [List.getD, List.getElem?_eq_getElem hj] at this
                have HI2 := Lib.hid (HMO.out HZ.out)
                go_wp2_with fail
                exact ⟨⟨k + 1, by omega, by go_num, R0, HI2, hbr⟩, by simp [intOf]; omega⟩
    · obtain rfl : i = N.ids.length := by omega
      go_wp2_with fail
      clear c0 hlt hi
      have HF0 : Hid (RowsFrom wr (w.heap.size + 1) 77 2 endC (.slice none 0 0) ((N.dirs.map Lk.fr).take (2 * 0))) := rowsFrom_nil
      have hs1 : w.heap.size + 1 ≤ wr.heap.size := R0.out.lt
      go_loopw [6, 7, 8, 9, 10] (fun s6 s7 _ _ _ wr => ∃ k : Nat, k ≤ N.links.length ∧ s7 = .int .i64 k ∧ Hid (RowsFrom wr (w.heap.size + 1) 77 2 endC s6 ((N.dirs.map Lk.fr).take (2 * k))) ∧ Hid (EndsOk N (2 * k)) ∧ Hid (RowIs wr w.heap.size 26 #[.slice v.ai N.ids.length v.ci, .slice v.ac N.costs.length v.cc, .slice v.al N.links.length v.cl]) ∧ Below w.heap.size w wr) (fun _ s7 _ _ _ _ => N.links.length - (intOf s7).toNat)
      case atStart => exact ⟨0, Nat.zero_le _, rfl, HF0, ⟨List.nodup_nil, fun j d hj => absurd hj (Nat.not_lt_zero _)⟩, R0, hbr⟩
      case round =>
        clear HF0 R0 hbr hs1
        rename World => wr
        obtain ⟨k, hk, rfl, HF, HE, R0, hbr⟩ := hrel
        have c2 : wr.cell? ⟨w.heap.size, 2, none⟩ = some (.slice v.al N.links.length v.cl) := R0.out.cell 2
        by_cases hlt : k < N.links.length
        · obtain ⟨b, off, eal, hbl, hrg⟩ := (HN.out.kept hbr).lkr hlt
          have HRG := Lib.hid hrg
          have HD := Lib.hid (dirs_get hlt)
          rw [eal] at c2
          generalize N.lk k = x at *
          clear hrg eal
          have hx0 : (0 : Int) ≤ (k : Int) := by omega
          have hx1 : (k : Int) < (N.links.length : Int) := by omega
          have R6 := Lib.hid (rowIs_new wr 37 #[.int .i64 0, .int .i64 0, .int .i64 0, .int .i64 0])
          go_wp2_with (first
            | ((with_reducible refine at_load 37 (.tmp 100) ?_); refine wpList_load_mid18 rfl 37 (.tmp 100) rfl b (off + k * 4) rfl (Lk.vals x) _ HRG.out Try.underlying37 rfl (by kernel_rfl) ?_)
            | ((with_reducible refine at_store 37 (.tmp 8) (.tmp 101) ?_); refine wpList_store_own rfl 37 (.tmp 8) (.tmp 101) rfl wr.heap.size _ rfl rfl _ _ R6.out (by kernel_rfl) rfl (by simp [Lk.vals, Value.oneCell']) wr.heap.size (Nat.le_refl _) ?_))
          intro w4 hR4 ho4 hs4 hb4
          have hb4' : Below wr.heap.size wr w4 := ((Below.refl _ _).alloc (Nat.le_refl _) _).trans hb4
          have RL : Hid (RowIs w4 wr.heap.size 37 #[.int .i64 x.a, .int .i64 x.p, .int .i64 x.b, .int .i64 x.q]) := hR4
          have HF4 := Lib.hid (HF.out.later hb4')
          have R04 := Lib.hid (R0.out.kept hb4')
          have hbr4 := hbr.trans (hb4'.mono hbr.size)
          have hlb : w.heap.size < wr.heap.size := R0.out.lt
          clear hR4 ho4 hs4 hb4 hb4' HF R0 R6 HRG c2 hbr
          generalize wr.heap.size = lb at *
          go_wp2_with fail
          go_loopw [6, 9, 10] (fun s6 s9 _ wr => ∃ e : Nat, e ≤ 2 ∧ s9 = .int .i64 e ∧ Hid (RowsFrom wr (w.heap.size + 1) 77 2 endC s6 ((N.dirs.map Lk.fr).take (2 * k + e))) ∧ Hid (EndsOk N (2 * k + e)) ∧ Hid (RowIs wr w.heap.size 26 #[.slice v.ai N.ids.length v.ci, .slice v.ac N.costs.length v.cc, .slice v.al N.links.length v.cl]) ∧ Hid (RowIs wr lb 37 #[.int .i64 x.a, .int .i64 x.p, .int .i64 x.b, .int .i64 x.q]) ∧ Below w.heap.size w wr) (fun _ s9 _ _ => 2 - (intOf s9).toNat)
          case atStart => exact ⟨0, by omega, rfl, HF4, HE, R04, RL, hbr4⟩
          case round =>
            clear HF4 HE R04 RL hbr4
            rename World => wr
            obtain ⟨e, he, rfl, HF, HE, R0, RL, hbr⟩ := hrel
            rcases (show e = 0 ∨ e = 1 ∨ e = 2 by omega) with rfl | rfl | rfl
            · have hw0 : IntKind.i64.wrap 0 = 0 := by decide
              have hw1 : IntKind.i64.wrap 1 = 1 := by decide
              have hw2 : IntKind.i64.wrap 2 = 2 := by decide
              have hw3 : IntKind.i64.wrap 3 = 3 := by decide
              have HD1 := HD.out.1
              have HTF : Hid ((N.dirs.map Lk.fr).take (2 * k + 0 + 1) = (N.dirs.map Lk.fr).take (2 * k + 0) ++ [(x.a, x.p)]) := take_fr HD1
              have HTW := Lib.hid (fun (h1 : (x.a, x.p) ∈ (N.dirs.map Lk.fr).take (2 * k + 0)) => EndsOk.twice HD1 h1)
              have HMORE := Lib.hid (fun (h1 : (x.a, x.p) ∉ (N.dirs.map Lk.fr).take (2 * k + 0)) (h2 : N.has x.a x.p = true) => HE.out.more HD1 h1 h2)
              have HNO : Hid (N.has x.a x.p = false → ¬ N.Ok) := fun hf h => by
                have := h.has _ (List.mem_of_getElem? HD1)
                rw [show N.has (x).a (x).p = N.has x.a x.p from rfl, hf] at this
                cases this
              clear HD1
              have f1 := cell_regrown (show wr.cell? ⟨lb, 0, none⟩ = some (.int .i64 x.a) from RL.out.cell 0)
              have f2 := cell_regrown (show wr.cell? ⟨lb, 1, none⟩ = some (.int .i64 x.p) from RL.out.cell 1)
              have C1 := Lib.hid (fun (z : Regrown) => has18 v N x.a x.p (grow (redrawn wr z.d) z.os) (HN.out.kept (hbr.trans ((below_regrown wr z.d z.os).mono hbr.size))))
              cases hh : N.has x.a x.p
              all_goals
                rw [hh] at C1
                go_upto_region 26 with fail
                refine wp_region_mix 12 (by kernel_rfl) (by kernel_rfl) (by kernel_rfl) ?_
                refine mix_exact (.agg #[.slice v.ai N.ids.length v.ci, .slice v.ac N.costs.length v.cc, .slice v.al N.links.length v.cl]) rfl (exact_load_row rfl rfl (by simp) R0.out Try.underlying26 rfl (by kernel_rfl)) ?_
                (refine mix_step (by kernel_rfl) (by kernel_rfl) (fun K hK => ?_); go_simp; (try (simp only [↓IntWalk.iteOmega]; go_simp)); (first | (refine hK _ ?_; clear hK K) | (apply Exists.intro; refine ⟨fun _ => ?_, hK _ ?_⟩; (first | fail); clear hK K)))
                (refine mix_step (by kernel_rfl) (by kernel_rfl) (fun K hK => ?_); go_simp; (try (simp only [↓IntWalk.iteOmega]; go_simp)); (first | (refine hK _ ?_; clear hK K) | (apply Exists.intro; refine ⟨fun _ => ?_, hK _ ?_⟩; (first | fail); clear hK K)))
                (refine mix_step (by kernel_rfl) (by kernel_rfl) (fun K hK => ?_); go_simp; (try (simp only [↓IntWalk.iteOmega]; go_simp)); (first | (refine hK _ ?_; clear hK K) | (apply Exists.intro; refine ⟨fun _ => ?_, hK _ ?_⟩; (first | fail); clear hK K)))
                (refine mix_step (by kernel_rfl) (by kernel_rfl) (fun K hK => ?_); go_simp; (try (simp only [↓IntWalk.iteOmega]; go_simp)); (first | (refine hK _ ?_; clear hK K) | (apply Exists.intro; refine ⟨fun _ => ?_, hK _ ?_⟩; (first | fail); clear hK K)))
                (refine mix_step (by kernel_rfl) (by kernel_rfl) (fun K hK => ?_); go_simp; (try (simp only [↓IntWalk.iteOmega]; go_simp)); (first | (refine hK _ ?_; clear hK K) | (apply Exists.intro; refine ⟨fun _ => ?_, hK _ ?_⟩; (first | fail); clear hK K)))
                (refine mix_step (by kernel_rfl) (by kernel_rfl) (fun K hK => ?_); go_simp; (try (simp only [↓IntWalk.iteOmega]; go_simp)); (first | (refine hK _ ?_; clear hK K) | (apply Exists.intro; refine ⟨fun _ => ?_, hK _ ?_⟩; (first | fail); clear hK K)))
                (refine mix_step (by kernel_rfl) (by kernel_rfl) (fun K hK => ?_); go_simp; (try (simp only [↓IntWalk.iteOmega]; go_simp)); (first | (refine hK _ ?_; clear hK K) | (apply Exists.intro; refine ⟨fun _ => ?_, hK _ ?_⟩; (first | fail); clear hK K)))
                (refine mix_step (by kernel_rfl) (by kernel_rfl) (fun K hK => ?_); go_simp; (try (simp only [↓IntWalk.iteOmega]; go_simp)); (first | (refine hK _ ?_; clear hK K) | (apply Exists.intro; refine ⟨fun _ => ?_, hK _ ?_⟩; (first | fail); clear hK K)))
                (refine mix_step (by kernel_rfl) (by kernel_rfl) (fun K hK => ?_); go_simp; (try (simp only [↓IntWalk.iteOmega]; go_simp)); (first | (refine hK _ ?_; clear hK K) | (apply Exists.intro; refine ⟨fun _ => ?_, hK _ ?_⟩; (first | fail); clear hK K)))
                (refine mix_step (by kernel_rfl) (by kernel_rfl) (fun K hK => ?_); go_simp; (try (simp only [↓IntWalk.iteOmega]; go_simp)); (first | (refine hK _ ?_; clear hK K) | (apply Exists.intro; refine ⟨fun _ => ?_, hK _ ?_⟩; (first | exact C1.out _); clear hK K)))
                (refine mix_step (by kernel_rfl) (by kernel_rfl) (fun K hK => ?_); go_simp; (try (simp only [↓IntWalk.iteOmega]; go_simp)); (first | (refine hK _ ?_; clear hK K) | (apply Exists.intro; refine ⟨fun _ => ?_, hK _ ?_⟩; (first | fail); clear hK K)))
                refine mix_nil ?_
                rintro ⟨dq, osq⟩
                have hb5 := below_regrown wr dq osq
                refine (show wpList _ _ _ _ _ _ from ?_)
                simp only [List.drop, Act.put, List.setIfInBounds_toArray, List.set]
                have HF := Lib.hid (HF.out.later hb5)
                have R0 := Lib.hid (R0.out.kept hb5)
                have RL := Lib.hid (RL.out.kept hb5)
                have hbr := hbr.trans (hb5.mono hbr.size)
                clear f1 f2 C1 hb5
                generalize grow (redrawn wr dq) osq = w5 at *
              · go_wp2_with fail
                go_ret
                rw [NO.out (HNO.out hh)]
                exact ⟨rfl, hbr⟩
              · go_wp2_with fail
                obtain ⟨la, lc, rfl, hO⟩ := HF.out
                have HLE : Hid (((N.dirs.map Lk.fr).take (2 * k + 0)).length = 2 * k + 0) := by
                  show _ = _
                  rw [List.length_take, List.length_map, dirs_len]
                  omega
                rw [HLE.out] at hO
                rw [HLE.out]
                have HO := Lib.hid hO
                have HAT := Lib.hid (HF.out.at2 (fun x : Int × Int => (rfl : (endC x).length = 2)))
                clear hO HF
                generalize hts : (N.dirs.map Lk.fr).take (2 * k + 0) = ts at *
                have HTS := Lib.hid hts
                clear hts
                generalize hMM : 2 * k + 0 = M at *
                go_loopw [10] (fun s10 wq => ∃ m : Nat, m ≤ M ∧ s10 = .int .i64 m ∧ Hid ((x.a, x.p) ∉ ts.take m) ∧ Hid (wq.ownsRow (w.heap.size + 1) 77 2 (.slice la (M) lc) (M) (ts.flatMap endC)) ∧ Hid (RowsAt wq la endC 2 ts) ∧ Hid (RowIs wq w.heap.size 26 #[.slice v.ai N.ids.length v.ci, .slice v.ac N.costs.length v.cc, .slice v.al N.links.length v.cl]) ∧ Hid (RowIs wq lb 37 #[.int .i64 x.a, .int .i64 x.p, .int .i64 x.b, .int .i64 x.q]) ∧ Below w.heap.size w wq ∧ lb < wq.heap.size ∧ w.heap.size + 1 ≤ wq.heap.size) (fun s10 _ => M - (intOf s10).toNat)
                case atStart => exact ⟨0, Nat.zero_le _, rfl, by show _ ∉ _; simp, HO, HAT, R0, RL, hbr, RL.out.lt, R0.out.lt⟩
                case round =>
                  clear HO HAT R0 RL hbr
                  rename World => wq
                  obtain ⟨m, hm, rfl, HM, HO, HAT, R0, RL, hbr, hlq, hsq⟩ := hrel
                  by_cases hmt : m < M
                  · have hml : m < ts.length := by rw [HLE.out]; exact hmt
                    obtain ⟨b, off, rfl, hbm, hrg⟩ : ∃ b off, la = some ⟨b, off, none⟩ ∧ b < wq.heap.size ∧ wq.rangeAt b (off + m * 2) (endC (ts.getD m (0, 0))) := by
                      rcases HAT.out with h0 | ⟨b, off, e, h1, h2⟩
                      · rw [h0] at hml; cases hml
                      · refine ⟨b, off, e, h1, fun j z hj => h2 m hml j z ?_⟩
                        rwa [List.getD, List.getElem?_eq_getElem hml] at hj
                    have HRG := Lib.hid hrg
                    have HTM : Hid (ts.take (m + 1) = ts.take m ++ [ts.getD m (0, 0)]) := by
                      show _ = _
                      rw [List.take_succ_eq_append_getElem hml, List.getD, List.getElem?_eq_getElem hml]
                      rfl
                    have HIN : Hid (ts.getD m (0, 0) ∈ ts) := by
                      show _ ∈ _
                      rw [List.getD, List.getElem?_eq_getElem hml]
                      exact List.getElem_mem hml
                    generalize ts.getD m (0, 0) = cur at *
                    obtain ⟨ca, cp⟩ := cur
                    clear hrg
                    have heq : ∀ w : World, (binOp .eql 77 (.agg #[.int .i64 ca, .int .i64 cp]) (.agg #[.int .i64 x.a, .int .i64 x.p])).run Try.prog w = .ok (.bool (decide (ca = x.a ∧ cp = x.p))) w := fun w => run_eql_pair ca cp x.a x.p w
                    have f1 := cell_regrown (show wq.cell? ⟨lb, 0, none⟩ = some (.int .i64 x.a) from RL.out.cell 0)
                    have f2 := cell_regrown (show wq.cell? ⟨lb, 1, none⟩ = some (.int .i64 x.p) from RL.out.cell 1)
                    have hx2 : (0 : Int) ≤ (m : Int) := by omega
                    have hx3 : (m : Int) < (M : Int) := by omega
                    generalize hdc : decide (ca = x.a ∧ cp = x.p) = dc at *
                    have HDC := Lib.hid hdc
                    clear hdc
                    go_upto_region 31 with fail
                    refine wp_region_mix 15 (by kernel_rfl) (by kernel_rfl) (by kernel_rfl) ?_
                    (refine mix_step (by kernel_rfl) (by kernel_rfl) (fun K hK => ?_); go_simp; (try (simp only [↓IntWalk.iteOmega]; go_simp)); (first | (refine hK _ ?_; clear hK K) | (apply Exists.intro; refine ⟨fun _ => ?_, hK _ ?_⟩; (first | fail); clear hK K)))
                    (refine mix_step (by kernel_rfl) (by kernel_rfl) (fun K hK => ?_); go_simp; (try (simp only [↓IntWalk.iteOmega]; go_simp)); (first | (refine hK _ ?_; clear hK K) | (apply Exists.intro; refine ⟨fun _ => ?_, hK _ ?_⟩; (first | fail); clear hK K)))
                    (refine mix_step (by kernel_rfl) (by kernel_rfl) (fun K hK => ?_); go_simp; (try (simp only [↓IntWalk.iteOmega]; go_simp)); (first | (refine hK _ ?_; clear hK K) | (apply Exists.intro; refine ⟨fun _ => ?_, hK _ ?_⟩; (first | fail); clear hK K)))
                    refine mix_exact (.agg #[.int .i64 ca, .int .i64 cp]) rfl (exact_load_range (sub := [.int .i64 ca, .int .i64 cp]) rfl rfl (by simp) HRG.out hbm Try.underlying77 rfl (by kernel_rfl)) ?_
                    (refine mix_step (by kernel_rfl) (by kernel_rfl) (fun K hK => ?_); go_simp; (try (simp only [↓IntWalk.iteOmega]; go_simp)); (first | (refine hK _ ?_; clear hK K) | (apply Exists.intro; refine ⟨fun _ => ?_, hK _ ?_⟩; (first | fail); clear hK K)))
                    (refine mix_step (by kernel_rfl) (by kernel_rfl) (fun K hK => ?_); go_simp; (try (simp only [↓IntWalk.iteOmega]; go_simp)); (first | (refine hK _ ?_; clear hK K) | (apply Exists.intro; refine ⟨fun _ => ?_, hK _ ?_⟩; (first | fail); clear hK K)))
                    (refine mix_step (by kernel_rfl) (by kernel_rfl) (fun K hK => ?_); go_simp; (try (simp only [↓IntWalk.iteOmega]; go_simp)); (first | (refine hK _ ?_; clear hK K) | (apply Exists.intro; refine ⟨fun _ => ?_, hK _ ?_⟩; (first | fail); clear hK K)))
                    (refine mix_step (by kernel_rfl) (by kernel_rfl) (fun K hK => ?_); go_simp; (try (simp only [↓IntWalk.iteOmega]; go_simp)); (first | (refine hK _ ?_; clear hK K) | (apply Exists.intro; refine ⟨fun _ => ?_, hK _ ?_⟩; (first | fail); clear hK K)))
                    (refine mix_step (by kernel_rfl) (by kernel_rfl) (fun K hK => ?_); go_simp; (try (simp only [↓IntWalk.iteOmega]; go_simp)); (first | (refine hK _ ?_; clear hK K) | (apply Exists.intro; refine ⟨fun _ => ?_, hK _ ?_⟩; (first | fail); clear hK K)))
                    (refine mix_step (by kernel_rfl) (by kernel_rfl) (fun K hK => ?_); go_simp; (try (simp only [↓IntWalk.iteOmega]; go_simp)); (first | (refine hK _ ?_; clear hK K) | (apply Exists.intro; refine ⟨fun _ => ?_, hK _ ?_⟩; (first | fail); clear hK K)))
                    (refine mix_step (by kernel_rfl) (by kernel_rfl) (fun K hK => ?_); go_simp; (try (simp only [↓IntWalk.iteOmega]; go_simp)); (first | (refine hK _ ?_; clear hK K) | (apply Exists.intro; refine ⟨fun _ => ?_, hK _ ?_⟩; (first | fail); clear hK K)))
                    (refine mix_step (by kernel_rfl) (by kernel_rfl) (fun K hK => ?_); go_simp; (try (simp only [↓IntWalk.iteOmega]; go_simp)); (first | (refine hK _ ?_; clear hK K) | (apply Exists.intro; refine ⟨fun _ => ?_, hK _ ?_⟩; (first | fail); clear hK K)))
                    (refine mix_step (by kernel_rfl) (by kernel_rfl) (fun K hK => ?_); go_simp; (try (simp only [↓IntWalk.iteOmega]; go_simp)); (first | (refine hK _ ?_; clear hK K) | (apply Exists.intro; refine ⟨fun _ => ?_, hK _ ?_⟩; (first | fail); clear hK K)))
                    (refine mix_step (by kernel_rfl) (by kernel_rfl) (fun K hK => ?_); go_simp; (try (simp only [↓IntWalk.iteOmega]; go_simp)); (first | (refine hK _ ?_; clear hK K) | (apply Exists.intro; refine ⟨fun _ => ?_, hK _ ?_⟩; (first | fail); clear hK K)))
                    (refine mix_step (by kernel_rfl) (by kernel_rfl) (fun K hK => ?_); go_simp; (try (simp only [↓IntWalk.iteOmega]; go_simp)); (first | (refine hK _ ?_; clear hK K) | (apply Exists.intro; refine ⟨fun _ => ?_, hK _ ?_⟩; (first | fail); clear hK K)))
                    refine mix_nil ?_
                    rintro ⟨dq, osq⟩
                    have hb6 := below_regrown wq dq osq
                    refine (show wpList _ _ _ _ _ _ from ?_)
                    simp only [List.drop, Act.put, List.setIfInBounds_toArray, List.set]
                    have HO := Lib.hid (ownsLater18 HO.out hb6)
                    have HAT := Lib.hid (HAT.out.kept hb6)
                    have R0 := Lib.hid (R0.out.kept hb6)
                    have RL := Lib.hid (RL.out.kept hb6)
                    have hlq := Nat.lt_of_lt_of_le hlq hb6.size
                    have hsq := Nat.le_trans hsq hb6.size
                    have hbr := hbr.trans (hb6.mono hbr.size)
                    clear f1 f2 heq hb6 HRG hbm
                    generalize grow (redrawn wq dq) osq = w6 at *
                    cases dc
                    · have hne : ¬ (ca = x.a ∧ cp = x.p) := of_decide_eq_false HDC.out
                      have HM6 : Hid ((x.a, x.p) ∉ ts.take (m + 1)) := by
                        show _ ∉ _
                        rw [HTM.out, List.mem_append, not_or]
                        refine ⟨HM.out, fun h => hne ?_⟩
                        simp only [List.mem_singleton, Prod.mk.injEq] at h
                        exact ⟨h.1.symm, h.2.symm⟩
                      clear hne
                      go_wp2_with fail
                      exact ⟨⟨m + 1, by omega, by go_num, HM6, HO, HAT, R0, RL, hbr, hlq, hsq⟩, by simp [intOf]; omega⟩
                    · have hyes : ca = x.a ∧ cp = x.p := of_decide_eq_true HDC.out
                      have HDUP : Hid (¬ N.Ok) := HTW.out (by rw [← hyes.1, ← hyes.2]; exact HIN.out)
                      clear hyes
                      go_wp2_with fail
                      go_ret
                      rw [NO.out HDUP.out]
                      exact ⟨rfl, hbr⟩
                  · obtain rfl : M = m := by omega
                    have hnot : (x.a, x.p) ∉ ts := by
                      have := HM.out
                      rwa [List.take_of_length_le (by rw [HLE.out]; exact Nat.le_refl _)] at this
                    have HE6 : Hid (EndsOk N (M + 1)) := HMORE.out hnot hh
                    have f1 := cell_regrown (show wq.cell? ⟨lb, 0, none⟩ = some (.int .i64 x.a) from RL.out.cell 0)
                    have f2 := cell_regrown (show wq.cell? ⟨lb, 1, none⟩ = some (.int .i64 x.p) from RL.out.cell 1)
                    clear hnot HM HMORE HTW HAT
                    go_upto_region 33 with fail
                    refine wp_region_mix 12 (by kernel_rfl) (by kernel_rfl) (by kernel_rfl) ?_
                    (refine mix_step (by kernel_rfl) (by kernel_rfl) (fun K hK => ?_); go_simp; (try (simp only [↓IntWalk.iteOmega]; go_simp)); (first | (refine hK _ ?_; clear hK K) | (apply Exists.intro; refine ⟨fun _ => ?_, hK _ ?_⟩; (first | fail); clear hK K)))
                    (refine mix_step (by kernel_rfl) (by kernel_rfl) (fun K hK => ?_); go_simp; (try (simp only [↓IntWalk.iteOmega]; go_simp)); (first | (refine hK _ ?_; clear hK K) | (apply Exists.intro; refine ⟨fun _ => ?_, hK _ ?_⟩; (first | fail); clear hK K)))
                    (refine mix_step (by kernel_rfl) (by kernel_rfl) (fun K hK => ?_); go_simp; (try (simp only [↓IntWalk.iteOmega]; go_simp)); (first | (refine hK _ ?_; clear hK K) | (apply Exists.intro; refine ⟨fun _ => ?_, hK _ ?_⟩; (first | fail); clear hK K)))
                    (refine mix_step (by kernel_rfl) (by kernel_rfl) (fun K hK => ?_); go_simp; (try (simp only [↓IntWalk.iteOmega]; go_simp)); (first | (refine hK _ ?_; clear hK K) | (apply Exists.intro; refine ⟨fun _ => ?_, hK _ ?_⟩; (first | fail); clear hK K)))
                    (refine mix_step (by kernel_rfl) (by kernel_rfl) (fun K hK => ?_); go_simp; (try (simp only [↓IntWalk.iteOmega]; go_simp)); (first | (refine hK _ ?_; clear hK K) | (apply Exists.intro; refine ⟨fun _ => ?_, hK _ ?_⟩; (first | fail); clear hK K)))
                    (refine mix_step (by kernel_rfl) (by kernel_rfl) (fun K hK => ?_); go_simp; (try (simp only [↓IntWalk.iteOmega]; go_simp)); (first | (refine hK _ ?_; clear hK K) | (apply Exists.intro; refine ⟨fun _ => ?_, hK _ ?_⟩; (first | fail); clear hK K)))
                    (refine mix_step (by kernel_rfl) (by kernel_rfl) (fun K hK => ?_); go_simp; (try (simp only [↓IntWalk.iteOmega]; go_simp)); (first | (refine hK _ ?_; clear hK K) | (apply Exists.intro; refine ⟨fun _ => ?_, hK _ ?_⟩; (first | fail); clear hK K)))
                    (refine mix_step (by kernel_rfl) (by kernel_rfl) (fun K hK => ?_); go_simp; (try (simp only [↓IntWalk.iteOmega]; go_simp)); (first | (refine hK _ ?_; clear hK K) | (apply Exists.intro; refine ⟨fun _ => ?_, hK _ ?_⟩; (first | fail); clear hK K)))
                    (refine mix_step (by kernel_rfl) (by kernel_rfl) (fun K hK => ?_); go_simp; (try (simp only [↓IntWalk.iteOmega]; go_simp)); (first | (refine hK _ ?_; clear hK K) | (apply Exists.intro; refine ⟨fun _ => ?_, hK _ ?_⟩; (first | fail); clear hK K)))
                    (refine mix_step (by kernel_rfl) (by kernel_rfl) (fun K hK => ?_); go_simp; (try (simp only [↓IntWalk.iteOmega]; go_simp)); (first | (refine hK _ ?_; clear hK K) | (apply Exists.intro; refine ⟨fun _ => ?_, hK _ ?_⟩; (first | fail); clear hK K)))
                    (refine mix_step (by kernel_rfl) (by kernel_rfl) (fun K hK => ?_); go_simp; (try (simp only [↓IntWalk.iteOmega]; go_simp)); (first | (refine hK _ ?_; clear hK K) | (apply Exists.intro; refine ⟨fun _ => ?_, hK _ ?_⟩; (first | fail); clear hK K)))
                    refine mix_special _ 150 rfl rfl (stable_row _ _ _ _) (owes_buildSlice (cells := #[.int .i64 x.a, .int .i64 x.p]) rfl (by simp) Try.underlying76 (sz := 2) (z := .agg #[.int .i64 0, .int .i64 0]) (by kernel_rfl) (by decide) (by decide) (by kernel_rfl)) ?_
                    refine mix_nil ?_
                    rintro ⟨dq, osq⟩
                    have hb6 := below_regrown wq dq osq
                    rintro u24 ⟨b24, rfl, hB24, hR24⟩
                    have R24 := Lib.hid hR24
                    have HO := Lib.hid (ownsLater18 HO.out hb6)
                    have R0 := Lib.hid (R0.out.kept hb6)
                    have RL := Lib.hid (RL.out.kept hb6)
                    have hbr := hbr.trans (hb6.mono hbr.size)
                    have hs6 : w.heap.size + 1 ≤ (grow (redrawn wq dq) osq).heap.size := Nat.le_trans hsq hb6.size
                    clear hR24 f1 f2 hB24 hb6
                    generalize grow (redrawn wq dq) osq = w6 at *
                    refine (show wpList _ _ _ _ _ _ from ?_)
                    simp only [List.drop, Act.put, List.setIfInBounds_toArray, List.set]
                    go_wp2_with (at_builtin; refine wpList_append_own _ rfl (.tmp 139) (.tmp 150) 76 rfl (w.heap.size + 1) 77 li lz 2 16 Try.underlying76 HLI.out HLZ.out hy1 hy2 hy3 (by decide) _ (M) _ rfl HO.out ⟨b24, 0, none⟩ 1 1 [.int .i64 x.a, .int .i64 x.p] rfl ?d0 ?d1 ?d2 ?d3 ?d4 ?d5 ?_)
                    case d0 => rfl
                    case d1 =>
                      intro j' u hj'
                      rw [addr_add, R24.out.cell j', ← Array.getElem?_toList]
                      exact hj'
                    case d2 => intro u hu; simp at hu; rcases hu with rfl | rfl <;> rfl
                    case d3 => simp [maxLen]; omega
                    case d4 => omega
                    (try case d5 => exact hs6)
                    intro v' w7 ho7 hg7 _
                    have hF7 : RowsFrom w7 (w.heap.size + 1) 77 2 endC v' ((N.dirs.map Lk.fr).take (M + 1)) := by
                      rw [HTF.out]
                      refine rowsFrom_app ?_
                      rw [HLE.out]
                      exact ho7
                    have HF7 := Lib.hid hF7
                    have hgl : Below (w.heap.size + 1) w6 w7 := (Below.refl _ w6).grown hg7 hs6 (fun k e1 => (HO.out.lt k e1).1)
                    have hnl : Value.ownBlock (.slice la (M) lc) ≠ some lb := fun e1 => by
                      rcases HO.out.2 with ⟨e2, _⟩ | ⟨g2, cap2, cur2, e2, _, b3, _⟩
                      · rw [e2] at e1; cases e1
                      · rw [e2] at e1
                        simp only [Value.ownBlock, Option.some.injEq] at e1
                        subst e1
                        exact rowIs_ne (show RowIs w6 g2 77 cur2 from b3) RL.out (by decide) rfl
                    have RL7 := Lib.hid (show RowIs w7 lb 37 _ from (hg7.block lb RL.out.lt (fun e1 => hnl e1.symm)).trans RL.out)
                    have R07 := Lib.hid (R0.out.below hgl (by omega))
                    have hbr7 := hbr.trans (hgl.mono (by omega))
                    clear ho7 hg7 hF7 HO hgl hnl R0 RL R24
                    go_wp2_with fail
                    subst hMM
                    exact ⟨⟨1, by omega, by go_num, HF7, HE6, R07, RL7, hbr7⟩, by simp [intOf]⟩
            · have hw0 : IntKind.i64.wrap 0 = 0 := by decide
              have hw1 : IntKind.i64.wrap 1 = 1 := by decide
              have hw2 : IntKind.i64.wrap 2 = 2 := by decide
              have hw3 : IntKind.i64.wrap 3 = 3 := by decide
              have HD1 := HD.out.2
              have HTF : Hid ((N.dirs.map Lk.fr).take (2 * k + 1 + 1) = (N.dirs.map Lk.fr).take (2 * k + 1) ++ [(x.b, x.q)]) := take_fr HD1
              have HTW := Lib.hid (fun (h1 : (x.b, x.q) ∈ (N.dirs.map Lk.fr).take (2 * k + 1)) => EndsOk.twice HD1 h1)
              have HMORE := Lib.hid (fun (h1 : (x.b, x.q) ∉ (N.dirs.map Lk.fr).take (2 * k + 1)) (h2 : N.has x.b x.q = true) => HE.out.more HD1 h1 h2)
              have HNO : Hid (N.has x.b x.q = false → ¬ N.Ok) := fun hf h => by
                have := h.has _ (List.mem_of_getElem? HD1)
                rw [show N.has (x.turn).a (x.turn).p = N.has x.b x.q from rfl, hf] at this
                cases this
              clear HD1
              have f1 := cell_regrown (show wr.cell? ⟨lb, 2, none⟩ = some (.int .i64 x.b) from RL.out.cell 2)
              have f2 := cell_regrown (show wr.cell? ⟨lb, 3, none⟩ = some (.int .i64 x.q) from RL.out.cell 3)
              have C1 := Lib.hid (fun (z : Regrown) => has18 v N x.b x.q (grow (redrawn wr z.d) z.os) (HN.out.kept (hbr.trans ((below_regrown wr z.d z.os).mono hbr.size))))
              cases hh : N.has x.b x.q
              all_goals
                rw [hh] at C1
                go_upto_region 26 with fail
                refine wp_region_mix 12 (by kernel_rfl) (by kernel_rfl) (by kernel_rfl) ?_
                refine mix_exact (.agg #[.slice v.ai N.ids.length v.ci, .slice v.ac N.costs.length v.cc, .slice v.al N.links.length v.cl]) rfl (exact_load_row rfl rfl (by simp) R0.out Try.underlying26 rfl (by kernel_rfl)) ?_
                (refine mix_step (by kernel_rfl) (by kernel_rfl) (fun K hK => ?_); go_simp; (try (simp only [↓IntWalk.iteOmega]; go_simp)); (first | (refine hK _ ?_; clear hK K) | (apply Exists.intro; refine ⟨fun _ => ?_, hK _ ?_⟩; (first | fail); clear hK K)))
                (refine mix_step (by kernel_rfl) (by kernel_rfl) (fun K hK => ?_); go_simp; (try (simp only [↓IntWalk.iteOmega]; go_simp)); (first | (refine hK _ ?_; clear hK K) | (apply Exists.intro; refine ⟨fun _ => ?_, hK _ ?_⟩; (first | fail); clear hK K)))
                (refine mix_step (by kernel_rfl) (by kernel_rfl) (fun K hK => ?_); go_simp; (try (simp only [↓IntWalk.iteOmega]; go_simp)); (first | (refine hK _ ?_; clear hK K) | (apply Exists.intro; refine ⟨fun _ => ?_, hK _ ?_⟩; (first | fail); clear hK K)))
                (refine mix_step (by kernel_rfl) (by kernel_rfl) (fun K hK => ?_); go_simp; (try (simp only [↓IntWalk.iteOmega]; go_simp)); (first | (refine hK _ ?_; clear hK K) | (apply Exists.intro; refine ⟨fun _ => ?_, hK _ ?_⟩; (first | fail); clear hK K)))
                (refine mix_step (by kernel_rfl) (by kernel_rfl) (fun K hK => ?_); go_simp; (try (simp only [↓IntWalk.iteOmega]; go_simp)); (first | (refine hK _ ?_; clear hK K) | (apply Exists.intro; refine ⟨fun _ => ?_, hK _ ?_⟩; (first | fail); clear hK K)))
                (refine mix_step (by kernel_rfl) (by kernel_rfl) (fun K hK => ?_); go_simp; (try (simp only [↓IntWalk.iteOmega]; go_simp)); (first | (refine hK _ ?_; clear hK K) | (apply Exists.intro; refine ⟨fun _ => ?_, hK _ ?_⟩; (first | fail); clear hK K)))
                (refine mix_step (by kernel_rfl) (by kernel_rfl) (fun K hK => ?_); go_simp; (try (simp only [↓IntWalk.iteOmega]; go_simp)); (first | (refine hK _ ?_; clear hK K) | (apply Exists.intro; refine ⟨fun _ => ?_, hK _ ?_⟩; (first | fail); clear hK K)))
                (refine mix_step (by kernel_rfl) (by kernel_rfl) (fun K hK => ?_); go_simp; (try (simp only [↓IntWalk.iteOmega]; go_simp)); (first | (refine hK _ ?_; clear hK K) | (apply Exists.intro; refine ⟨fun _ => ?_, hK _ ?_⟩; (first | fail); clear hK K)))
                (refine mix_step (by kernel_rfl) (by kernel_rfl) (fun K hK => ?_); go_simp; (try (simp only [↓IntWalk.iteOmega]; go_simp)); (first | (refine hK _ ?_; clear hK K) | (apply Exists.intro; refine ⟨fun _ => ?_, hK _ ?_⟩; (first | fail); clear hK K)))
                (refine mix_step (by kernel_rfl) (by kernel_rfl) (fun K hK => ?_); go_simp; (try (simp only [↓IntWalk.iteOmega]; go_simp)); (first | (refine hK _ ?_; clear hK K) | (apply Exists.intro; refine ⟨fun _ => ?_, hK _ ?_⟩; (first | exact C1.out _); clear hK K)))
                (refine mix_step (by kernel_rfl) (by kernel_rfl) (fun K hK => ?_); go_simp; (try (simp only [↓IntWalk.iteOmega]; go_simp)); (first | (refine hK _ ?_; clear hK K) | (apply Exists.intro; refine ⟨fun _ => ?_, hK _ ?_⟩; (first | fail); clear hK K)))
                refine mix_nil ?_
                rintro ⟨dq, osq⟩
                have hb5 := below_regrown wr dq osq
                refine (show wpList _ _ _ _ _ _ from ?_)
                simp only [List.drop, Act.put, List.setIfInBounds_toArray, List.set]
                have HF := Lib.hid (HF.out.later hb5)
                have R0 := Lib.hid (R0.out.kept hb5)
                have RL := Lib.hid (RL.out.kept hb5)
                have hbr := hbr.trans (hb5.mono hbr.size)
                clear f1 f2 C1 hb5
                generalize grow (redrawn wr dq) osq = w5 at *
              · go_wp2_with fail
                go_ret
                rw [NO.out (HNO.out hh)]
                exact ⟨rfl, hbr⟩
              · go_wp2_with fail
                obtain ⟨la, lc, rfl, hO⟩ := HF.out
                have HLE : Hid (((N.dirs.map Lk.fr).take (2 * k + 1)).length = 2 * k + 1) := by
                  show _ = _
                  rw [List.length_take, List.length_map, dirs_len]
                  omega
                rw [HLE.out] at hO
                rw [HLE.out]
                have HO := Lib.hid hO
                have HAT := Lib.hid (HF.out.at2 (fun x : Int × Int => (rfl : (endC x).length = 2)))
                clear hO HF
                generalize hts : (N.dirs.map Lk.fr).take (2 * k + 1) = ts at *
                have HTS := Lib.hid hts
                clear hts
                generalize hMM : 2 * k + 1 = M at *
                go_loopw [10] (fun s10 wq => ∃ m : Nat, m ≤ M ∧ s10 = .int .i64 m ∧ Hid ((x.b, x.q) ∉ ts.take m) ∧ Hid (wq.ownsRow (w.heap.size + 1) 77 2 (.slice la (M) lc) (M) (ts.flatMap endC)) ∧ Hid (RowsAt wq la endC 2 ts) ∧ Hid (RowIs wq w.heap.size 26 #[.slice v.ai N.ids.length v.ci, .slice v.ac N.costs.length v.cc, .slice v.al N.links.length v.cl]) ∧ Hid (RowIs wq lb 37 #[.int .i64 x.a, .int .i64 x.p, .int .i64 x.b, .int .i64 x.q]) ∧ Below w.heap.size w wq ∧ lb < wq.heap.size ∧ w.heap.size + 1 ≤ wq.heap.size) (fun s10 _ => M - (intOf s10).toNat)
                case atStart => exact ⟨0, Nat.zero_le _, rfl, by show _ ∉ _; simp, HO, HAT, R0, RL, hbr, RL.out.lt, R0.out.lt⟩
                case round =>
                  clear HO HAT R0 RL hbr
                  rename World => wq
                  obtain ⟨m, hm, rfl, HM, HO, HAT, R0, RL, hbr, hlq, hsq⟩ := hrel
                  by_cases hmt : m < M
                  · have hml : m < ts.length := by rw [HLE.out]; exact hmt
                    obtain ⟨b, off, rfl, hbm, hrg⟩ : ∃ b off, la = some ⟨b, off, none⟩ ∧ b < wq.heap.size ∧ wq.rangeAt b (off + m * 2) (endC (ts.getD m (0, 0))) := by
                      rcases HAT.out with h0 | ⟨b, off, e, h1, h2⟩
                      · rw [h0] at hml; cases hml
                      · refine ⟨b, off, e, h1, fun j z hj => h2 m hml j z ?_⟩
                        rwa [List.getD, List.getElem?_eq_getElem hml] at hj
                    have HRG := Lib.hid hrg
                    have HTM : Hid (ts.take (m + 1) = ts.take m ++ [ts.getD m (0, 0)]) := by
                      show _ = _
                      rw [List.take_succ_eq_append_getElem hml, List.getD, List.getElem?_eq_getElem hml]
                      rfl
                    have HIN : Hid (ts.getD m (0, 0) ∈ ts) := by
                      show _ ∈ _
                      rw [List.getD, List.getElem?_eq_getElem hml]
                      exact List.getElem_mem hml
                    generalize ts.getD m (0, 0) = cur at *
                    obtain ⟨ca, cp⟩ := cur
                    clear hrg
                    have heq : ∀ w : World, (binOp .eql 77 (.agg #[.int .i64 ca, .int .i64 cp]) (.agg #[.int .i64 x.b, .int .i64 x.q])).run Try.prog w = .ok (.bool (decide (ca = x.b ∧ cp = x.q))) w := fun w => run_eql_pair ca cp x.b x.q w
                    have f1 := cell_regrown (show wq.cell? ⟨lb, 2, none⟩ = some (.int .i64 x.b) from RL.out.cell 2)
                    have f2 := cell_regrown (show wq.cell? ⟨lb, 3, none⟩ = some (.int .i64 x.q) from RL.out.cell 3)
                    have hx2 : (0 : Int) ≤ (m : Int) := by omega
                    have hx3 : (m : Int) < (M : Int) := by omega
                    generalize hdc : decide (ca = x.b ∧ cp = x.q) = dc at *
                    have HDC := Lib.hid hdc
                    clear hdc
                    go_upto_region 31 with fail
                    refine wp_region_mix 15 (by kernel_rfl) (by kernel_rfl) (by kernel_rfl) ?_
                    (refine mix_step (by kernel_rfl) (by kernel_rfl) (fun K hK => ?_); go_simp; (try (simp only [↓IntWalk.iteOmega]; go_simp)); (first | (refine hK _ ?_; clear hK K) | (apply Exists.intro; refine ⟨fun _ => ?_, hK _ ?_⟩; (first | fail); clear hK K)))
                    (refine mix_step (by kernel_rfl) (by kernel_rfl) (fun K hK => ?_); go_simp; (try (simp only [↓IntWalk.iteOmega]; go_simp)); (first | (refine hK _ ?_; clear hK K) | (apply Exists.intro; refine ⟨fun _ => ?_, hK _ ?_⟩; (first | fail); clear hK K)))
                    (refine mix_step (by kernel_rfl) (by kernel_rfl) (fun K hK => ?_); go_simp; (try (simp only [↓IntWalk.iteOmega]; go_simp)); (first | (refine hK _ ?_; clear hK K) | (apply Exists.intro; refine ⟨fun _ => ?_, hK _ ?_⟩; (first | fail); clear hK K)))
                    refine mix_exact (.agg #[.int .i64 ca, .int .i64 cp]) rfl (exact_load_range (sub := [.int .i64 ca, .int .i64 cp]) rfl rfl (by simp) HRG.out hbm Try.underlying77 rfl (by kernel_rfl)) ?_
                    (refine mix_step (by kernel_rfl) (by kernel_rfl) (fun K hK => ?_); go_simp; (try (simp only [↓IntWalk.iteOmega]; go_simp)); (first | (refine hK _ ?_; clear hK K) | (apply Exists.intro; refine ⟨fun _ => ?_, hK _ ?_⟩; (first | fail); clear hK K)))
                    (refine mix_step (by kernel_rfl) (by kernel_rfl) (fun K hK => ?_); go_simp; (try (simp only [↓IntWalk.iteOmega]; go_simp)); (first | (refine hK _ ?_; clear hK K) | (apply Exists.intro; refine ⟨fun _ => ?_, hK _ ?_⟩; (first | fail); clear hK K)))
                    (refine mix_step (by kernel_rfl) (by kernel_rfl) (fun K hK => ?_); go_simp; (try (simp only [↓IntWalk.iteOmega]; go_simp)); (first | (refine hK _ ?_; clear hK K) | (apply Exists.intro; refine ⟨fun _ => ?_, hK _ ?_⟩; (first | fail); clear hK K)))
                    (refine mix_step (by kernel_rfl) (by kernel_rfl) (fun K hK => ?_); go_simp; (try (simp only [↓IntWalk.iteOmega]; go_simp)); (first | (refine hK _ ?_; clear hK K) | (apply Exists.intro; refine ⟨fun _ => ?_, hK _ ?_⟩; (first | fail); clear hK K)))
                    (refine mix_step (by kernel_rfl) (by kernel_rfl) (fun K hK => ?_); go_simp; (try (simp only [↓IntWalk.iteOmega]; go_simp)); (first | (refine hK _ ?_; clear hK K) | (apply Exists.intro; refine ⟨fun _ => ?_, hK _ ?_⟩; (first | fail); clear hK K)))
                    (refine mix_step (by kernel_rfl) (by kernel_rfl) (fun K hK => ?_); go_simp; (try (simp only [↓IntWalk.iteOmega]; go_simp)); (first | (refine hK _ ?_; clear hK K) | (apply Exists.intro; refine ⟨fun _ => ?_, hK _ ?_⟩; (first | fail); clear hK K)))
                    (refine mix_step (by kernel_rfl) (by kernel_rfl) (fun K hK => ?_); go_simp; (try (simp only [↓IntWalk.iteOmega]; go_simp)); (first | (refine hK _ ?_; clear hK K) | (apply Exists.intro; refine ⟨fun _ => ?_, hK _ ?_⟩; (first | fail); clear hK K)))
                    (refine mix_step (by kernel_rfl) (by kernel_rfl) (fun K hK => ?_); go_simp; (try (simp only [↓IntWalk.iteOmega]; go_simp)); (first | (refine hK _ ?_; clear hK K) | (apply Exists.intro; refine ⟨fun _ => ?_, hK _ ?_⟩; (first | fail); clear hK K)))
                    (refine mix_step (by kernel_rfl) (by kernel_rfl) (fun K hK => ?_); go_simp; (try (simp only [↓IntWalk.iteOmega]; go_simp)); (first | (refine hK _ ?_; clear hK K) | (apply Exists.intro; refine ⟨fun _ => ?_, hK _ ?_⟩; (first | fail); clear hK K)))
                    (refine mix_step (by kernel_rfl) (by kernel_rfl) (fun K hK => ?_); go_simp; (try (simp only [↓IntWalk.iteOmega]; go_simp)); (first | (refine hK _ ?_; clear hK K) | (apply Exists.intro; refine ⟨fun _ => ?_, hK _ ?_⟩; (first | fail); clear hK K)))
                    (refine mix_step (by kernel_rfl) (by kernel_rfl) (fun K hK => ?_); go_simp; (try (simp only [↓IntWalk.iteOmega]; go_simp)); (first | (refine hK _ ?_; clear hK K) | (apply Exists.intro; refine ⟨fun _ => ?_, hK _ ?_⟩; (first | fail); clear hK K)))
                    refine mix_nil ?_
                    rintro ⟨dq, osq⟩
                    have hb6 := below_regrown wq dq osq
                    refine (show wpList _ _ _ _ _ _ from ?_)
                    simp only [List.drop, Act.put, List.setIfInBounds_toArray, List.set]
                    have HO := Lib.hid (ownsLater18 HO.out hb6)
                    have HAT := Lib.hid (HAT.out.kept hb6)
                    have R0 := Lib.hid (R0.out.kept hb6)
                    have RL := Lib.hid (RL.out.kept hb6)
                    have hlq := Nat.lt_of_lt_of_le hlq hb6.size
                    have hsq := Nat.le_trans hsq hb6.size
                    have hbr := hbr.trans (hb6.mono hbr.size)
                    clear f1 f2 heq hb6 HRG hbm
                    generalize grow (redrawn wq dq) osq = w6 at *
                    cases dc
                    · have hne : ¬ (ca = x.b ∧ cp = x.q) := of_decide_eq_false HDC.out
                      have HM6 : Hid ((x.b, x.q) ∉ ts.take (m + 1)) := by
                        show _ ∉ _
                        rw [HTM.out, List.mem_append, not_or]
                        refine ⟨HM.out, fun h => hne ?_⟩
                        simp only [List.mem_singleton, Prod.mk.injEq] at h
                        exact ⟨h.1.symm, h.2.symm⟩
                      clear hne
                      go_wp2_with fail
                      exact ⟨⟨m + 1, by omega, by go_num, HM6, HO, HAT, R0, RL, hbr, hlq, hsq⟩, by simp [intOf]; omega⟩
                    · have hyes : ca = x.b ∧ cp = x.q := of_decide_eq_true HDC.out
                      have HDUP : Hid (¬ N.Ok) := HTW.out (by rw [← hyes.1, ← hyes.2]; exact HIN.out)
                      clear hyes
                      go_wp2_with fail
                      go_ret
                      rw [NO.out HDUP.out]
                      exact ⟨rfl, hbr⟩
                  · obtain rfl : M = m := by omega
                    have hnot : (x.b, x.q) ∉ ts := by
                      have := HM.out
                      rwa [List.take_of_length_le (by rw [HLE.out]; exact Nat.le_refl _)] at this
                    have HE6 : Hid (EndsOk N (M + 1)) := HMORE.out hnot hh
                    have f1 := cell_regrown (show wq.cell? ⟨lb, 2, none⟩ = some (.int .i64 x.b) from RL.out.cell 2)
                    have f2 := cell_regrown (show wq.cell? ⟨lb, 3, none⟩ = some (.int .i64 x.q) from RL.out.cell 3)
                    clear hnot HM HMORE HTW HAT
                    go_upto_region 33 with fail
                    refine wp_region_mix 12 (by kernel_rfl) (by kernel_rfl) (by kernel_rfl) ?_
                    (refine mix_step (by kernel_rfl) (by kernel_rfl) (fun K hK => ?_); go_simp; (try (simp only [↓IntWalk.iteOmega]; go_simp)); (first | (refine hK _ ?_; clear hK K) | (apply Exists.intro; refine ⟨fun _ => ?_, hK _ ?_⟩; (first | fail); clear hK K)))
                    (refine mix_step (by kernel_rfl) (by kernel_rfl) (fun K hK => ?_); go_simp; (try (simp only [↓IntWalk.iteOmega]; go_simp)); (first | (refine hK _ ?_; clear hK K) | (apply Exists.intro; refine ⟨fun _ => ?_, hK _ ?_⟩; (first | fail); clear hK K)))
                    (refine mix_step (by kernel_rfl) (by kernel_rfl) (fun K hK => ?_); go_simp; (try (simp only [↓IntWalk.iteOmega]; go_simp)); (first | (refine hK _ ?_; clear hK K) | (apply Exists.intro; refine ⟨fun _ => ?_, hK _ ?_⟩; (first | fail); clear hK K)))
                    (refine mix_step (by kernel_rfl) (by kernel_rfl) (fun K hK => ?_); go_simp; (try (simp only [↓IntWalk.iteOmega]; go_simp)); (first | (refine hK _ ?_; clear hK K) | (apply Exists.intro; refine ⟨fun _ => ?_, hK _ ?_⟩; (first | fail); clear hK K)))
                    (refine mix_step (by kernel_rfl) (by kernel_rfl) (fun K hK => ?_); go_simp; (try (simp only [↓IntWalk.iteOmega]; go_simp)); (first | (refine hK _ ?_; clear hK K) | (apply Exists.intro; refine ⟨fun _ => ?_, hK _ ?_⟩; (first | fail); clear hK K)))
                    (refine mix_step (by kernel_rfl) (by kernel_rfl) (fun K hK => ?_); go_simp; (try (simp only [↓IntWalk.iteOmega]; go_simp)); (first | (refine hK _ ?_; clear hK K) | (apply Exists.intro; refine ⟨fun _ => ?_, hK _ ?_⟩; (first | fail); clear hK K)))
                    (refine mix_step (by kernel_rfl) (by kernel_rfl) (fun K hK => ?_); go_simp; (try (simp only [↓IntWalk.iteOmega]; go_simp)); (first | (refine hK _ ?_; clear hK K) | (apply Exists.intro; refine ⟨fun _ => ?_, hK _ ?_⟩; (first | fail); clear hK K)))
                    (refine mix_step (by kernel_rfl) (by kernel_rfl) (fun K hK => ?_); go_simp; (try (simp only [↓IntWalk.iteOmega]; go_simp)); (first | (refine hK _ ?_; clear hK K) | (apply Exists.intro; refine ⟨fun _ => ?_, hK _ ?_⟩; (first | fail); clear hK K)))
                    (refine mix_step (by kernel_rfl) (by kernel_rfl) (fun K hK => ?_); go_simp; (try (simp only [↓IntWalk.iteOmega]; go_simp)); (first | (refine hK _ ?_; clear hK K) | (apply Exists.intro; refine ⟨fun _ => ?_, hK _ ?_⟩; (first | fail); clear hK K)))
                    (refine mix_step (by kernel_rfl) (by kernel_rfl) (fun K hK => ?_); go_simp; (try (simp only [↓IntWalk.iteOmega]; go_simp)); (first | (refine hK _ ?_; clear hK K) | (apply Exists.intro; refine ⟨fun _ => ?_, hK _ ?_⟩; (first | fail); clear hK K)))
                    (refine mix_step (by kernel_rfl) (by kernel_rfl) (fun K hK => ?_); go_simp; (try (simp only [↓IntWalk.iteOmega]; go_simp)); (first | (refine hK _ ?_; clear hK K) | (apply Exists.intro; refine ⟨fun _ => ?_, hK _ ?_⟩; (first | fail); clear hK K)))
                    refine mix_special _ 150 rfl rfl (stable_row _ _ _ _) (owes_buildSlice (cells := #[.int .i64 x.b, .int .i64 x.q]) rfl (by simp) Try.underlying76 (sz := 2) (z := .agg #[.int .i64 0, .int .i64 0]) (by kernel_rfl) (by decide) (by decide) (by kernel_rfl)) ?_
                    refine mix_nil ?_
                    rintro ⟨dq, osq⟩
                    have hb6 := below_regrown wq dq osq
                    rintro u24 ⟨b24, rfl, hB24, hR24⟩
                    have R24 := Lib.hid hR24
                    have HO := Lib.hid (ownsLater18 HO.out hb6)
                    have R0 := Lib.hid (R0.out.kept hb6)
                    have RL := Lib.hid (RL.out.kept hb6)
                    have hbr := hbr.trans (hb6.mono hbr.size)
                    have hs6 : w.heap.size + 1 ≤ (grow (redrawn wq dq) osq).heap.size := Nat.le_trans hsq hb6.size
                    clear hR24 f1 f2 hB24 hb6
                    generalize grow (redrawn wq dq) osq = w6 at *
                    refine (show wpList _ _ _ _ _ _ from ?_)
                    simp only [List.drop, Act.put, List.setIfInBounds_toArray, List.set]
                    go_wp2_with (at_builtin; refine wpList_append_own _ rfl (.tmp 139) (.tmp 150) 76 rfl (w.heap.size + 1) 77 li lz 2 16 Try.underlying76 HLI.out HLZ.out hy1 hy2 hy3 (by decide) _ (M) _ rfl HO.out ⟨b24, 0, none⟩ 1 1 [.int .i64 x.b, .int .i64 x.q] rfl ?d0 ?d1 ?d2 ?d3 ?d4 ?d5 ?_)
                    case d0 => rfl
                    case d1 =>
                      intro j' u hj'
                      rw [addr_add, R24.out.cell j', ← Array.getElem?_toList]
                      exact hj'
                    case d2 => intro u hu; simp at hu; rcases hu with rfl | rfl <;> rfl
                    case d3 => simp [maxLen]; omega
                    case d4 => omega
                    (try case d5 => exact hs6)
                    intro v' w7 ho7 hg7 _
                    have hF7 : RowsFrom w7 (w.heap.size + 1) 77 2 endC v' ((N.dirs.map Lk.fr).take (M + 1)) := by
                      rw [HTF.out]
                      refine rowsFrom_app ?_
                      rw [HLE.out]
                      exact ho7
                    have HF7 := Lib.hid hF7
                    have hgl : Below (w.heap.size + 1) w6 w7 := (Below.refl _ w6).grown hg7 hs6 (fun k e1 => (HO.out.lt k e1).1)
                    have hnl : Value.ownBlock (.slice la (M) lc) ≠ some lb := fun e1 => by
                      rcases HO.out.2 with ⟨e2, _⟩ | ⟨g2, cap2, cur2, e2, _, b3, _⟩
                      · rw [e2] at e1; cases e1
                      · rw [e2] at e1
                        simp only [Value.ownBlock, Option.some.injEq] at e1
                        subst e1
                        exact rowIs_ne (show RowIs w6 g2 77 cur2 from b3) RL.out (by decide) rfl
                    have RL7 := Lib.hid (show RowIs w7 lb 37 _ from (hg7.block lb RL.out.lt (fun e1 => hnl e1.symm)).trans RL.out)
                    have R07 := Lib.hid (R0.out.below hgl (by omega))
                    have hbr7 := hbr.trans (hgl.mono (by omega))
                    clear ho7 hg7 hF7 HO hgl hnl R0 RL R24
                    go_wp2_with fail
                    subst hMM
                    exact ⟨⟨2, by omega, by go_num, HF7, HE6, R07, RL7, hbr7⟩, by simp [intOf]⟩
            · go_wp2_with fail
              exact ⟨⟨k + 1, by omega, by go_num, HF, HE, R0, hbr⟩, by simp [intOf]; omega⟩
        · obtain rfl : k = N.links.length := by omega
          go_wp2_with fail
          go_ret
          have hok : N.right = true := YES.out.2 ⟨by omega, by omega, H2.out, by
              have := HI.out.nodup
              rwa [List.take_length] at this, fun c hc => by
              obtain ⟨j, hj, rfl⟩ := List.mem_iff_getElem.1 hc
              have := HI.out.cost j (by have := H2.out; omega)
              rwa [LN.cs_get hj] at this, fun d hd => by
              obtain ⟨j, hj, rfl⟩ := List.mem_iff_getElem.1 hd
              exact HE.out.has j _ (by rw [dirs_len] at hj; exact hj) (List.getElem?_eq_getElem hj), by
              have := HE.out.nodup
              rwa [List.take_of_length_le (by rw [List.length_map, dirs_len]; exact Nat.le_refl _)] at this⟩
          rw [hok]
          exact ⟨rfl, hbr⟩
end Go.Proofs.Ytcmokhpnooldgaa
