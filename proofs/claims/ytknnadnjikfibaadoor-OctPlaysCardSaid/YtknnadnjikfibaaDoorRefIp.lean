/- causeyref07.ReadIp. By an AI agent. -/
import Derived.Test.YtknnadnjikfibaaDoorIpLaw
import Derived.Test.YtknnadnjikfibaaDoorBeNum
import Derived.Test.YtknnadnjikfibaaDoorRefText
import Derived.Deep.DeepCutAuto
namespace Go.Proofs.YtknnadnjikfibaaDoor
open Go.RowKit Go.Sort

theorem infoA4 : (Tryd.prog.info? 28).map (·.size) = some 4 := by kernel_rfl
def RefIpAns (s : ByteArray) (e : Ending) : Prop := (∃ a b c d : UInt8, s.data.toList = Oct.ipText a b c d ∧ e = .returned (.tuple #[.agg #[.int .u8 (a.toNat : Int), .int .u8 (b.toNat : Int), .int .u8 (c.toNat : Int), .int .u8 (d.toNat : Int)], .bool true])) ∨
    ((∀ a b c d : UInt8, s.data.toList ≠ Oct.ipText a b c d) ∧ e = .returned (.tuple #[.agg #[.int .u8 0, .int .u8 0, .int .u8 0, .int .u8 0], .bool false]))
theorem getElem_list (s : ByteArray) (k : Nat) (h : k < s.size) : s.data.toList[k]? = some s[k] := by simp [ByteArray.getElem_eq_getElem_data, show k < s.data.size from h]

set_option maxRecDepth 20000 in
set_option maxHeartbeats 20000000 in
theorem refReadIp_any (s : ByteArray) (hsz : s.size ≤ 100000) (w : World) : Calls Tryd.prog 17 #[.string s] w fun e w' => RefIpAns s e ∧ Below w.heap.size w w' := by
  have HSL : Hid (s.data.toList.length = s.size) := by show _ = _; simp
  go_enter Tryd.func17, Tryd.ntmps17
  go_upto_region 2 with fail
  generalize hW : (w.alloc _).alloc _ = W
  have HR2 : Hid (RowIs W w.heap.size 28 #[.int .u8 0, .int .u8 0, .int .u8 0, .int .u8 0]) := by rw [← hW]; exact (rowIs_new w _ _).alloc _
  have HR4 : Hid (RowIs W (w.heap.size + 1) 28 #[.int .u8 0, .int .u8 0, .int .u8 0, .int .u8 0]) := by
    rw [← hW]
    have := rowIs_new (w.alloc (.cells #[.int .u8 0, .int .u8 0, .int .u8 0, .int .u8 0] 28)) 28 #[.int .u8 0, .int .u8 0, .int .u8 0, .int .u8 0]
    rwa [World.size_alloc] at this
  have hbW : Below w.heap.size w W := by rw [← hW]; exact ((Below.refl _ _).alloc (Nat.le_refl _) _).alloc (by simp) _
  clear hW
  go_wp2_with fail
  go_loopw [5, 6, 7, 8] (fun s5 s6 _ _ wr => ∃ (i p : Nat) (vals : List UInt8), i ≤ 4 ∧ s5 = .int .i64 p ∧ s6 = .int .i64 i ∧ p ≤ s.size ∧ Hid (Oct.IpInv s.data.toList i p vals) ∧ Hid (RowIs wr w.heap.size 28 #[.int .u8 0, .int .u8 0, .int .u8 0, .int .u8 0]) ∧ Hid (RowIs wr (w.heap.size + 1) 28 (bytesV 4 (vals.map (·.toNat)))) ∧ Below w.heap.size w wr) (fun _ s6 _ _ _ => 4 - (intOf s6).toNat)
  case atStart => exact ⟨0, 0, [], Nat.zero_le _, rfl, rfl, Nat.zero_le _, Lib.hid (Oct.inv_start _), HR2, HR4, hbW⟩
  case round =>
    clear HR2 HR4 hbW
    rename_i wr
    obtain ⟨i, p, vals, hi, rfl, rfl, hp, HI, HR2, HR4, hbr⟩ := hrel
    by_cases hlt : i < 4
    · have d10 : decide ((i : Int) < 4) = true := decide_eq_true (by omega)
      go_wp2_with fail
      go_loopw [5, 7] (fun s5 s7 wq => ∃ (j n q : Nat), j ≤ 3 ∧ q ≤ s.size ∧ s5 = .int .i64 q ∧ s7 = .int .i64 n ∧ n < 1000 ∧ Hid (q = p + j) ∧ Hid (n = Oct.numOf ((s.data.toList.drop p).take j) ∧ n < 10 ^ j) ∧ Hid (∀ k, k < j → ∃ d, (s.data.toList.drop p)[k]? = some d ∧ Oct.isDig d = true) ∧ Hid (wr = wq)) (fun s5 _ _ => s.size - (intOf s5).toNat)
      case atStart => exact ⟨0, 0, p, Nat.zero_le _, hp, rfl, rfl, by omega, Lib.hid rfl, Lib.hid ⟨rfl, by decide⟩, Lib.hid (fun k h => absurd h (by omega)), Lib.hid rfl⟩
      case round =>
        rename World => wq
        obtain ⟨j, n, q, hj, hq, rfl, rfl, hn, HQ, HNUM, HDIG, HWQ⟩ := hrel
        have hwq := HWQ.out
        subst hwq
        clear HWQ
        have HRJ : Hid ((s.data.toList.drop p)[j]? = s.data.toList[q]?) := by show _ = _; rw [List.getElem?_drop, HQ.out]
        obtain ⟨more, hmore⟩ : ∃ more : Bool, more = (match (s.data.toList.drop p)[j]? with | some d => Oct.isDig d && decide (j < 3) | none => false) := ⟨_, rfl⟩
        have HMORE := Lib.hid hmore
        clear hmore
        go_upto_region 7 with fail
        go_cut [35] (fun v wz => v = .bool more ∧ wr = wz)
        case first =>
          by_cases hqs : q < s.size
          · have hg := getElem_list s q hqs
            rw [← HRJ.out] at hg
            have hm := HMORE.out
            rw [hg] at hm
            have hb := s[q].toNat_lt
            have HM := Lib.hid hm
            clear hm hg
            by_cases h1 : 48 ≤ s[q].toNat
            · by_cases h2 : s[q].toNat ≤ 57
              · have hdg : Oct.isDig s[q] = true := decide_eq_true ⟨h1, h2⟩
                have HM2 : Hid (more = decide (j < 3)) := by show _ = _; rw [HM.out]; show (Oct.isDig s[q] && decide (j < 3)) = _; rw [hdg]; rfl
                by_cases h3 : j < 3
                · have d3 : decide ((q : Int) < (p : Int) + 3) = true := decide_eq_true (by have := HQ.out; omega)
                  go_wp2_with fail
                  go_meet
                  exact ⟨by rw [HM2.out, decide_eq_true h3], rfl⟩
                · have d3 : decide ((q : Int) < (p : Int) + 3) = false := decide_eq_false (by have := HQ.out; omega)
                  go_wp2_with fail
                  go_meet
                  exact ⟨by rw [HM2.out, decide_eq_false h3], rfl⟩
              · have HM2 : Hid (more = false) := by show _ = _; rw [HM.out]; show (Oct.isDig s[q] && decide (j < 3)) = _; rw [show Oct.isDig s[q] = false from decide_eq_false (fun h => h2 h.2)]; rfl
                go_wp2_with fail
                go_meet
                exact ⟨by rw [HM2.out], rfl⟩
            · have HM2 : Hid (more = false) := by show _ = _; rw [HM.out]; show (Oct.isDig s[q] && decide (j < 3)) = _; rw [show Oct.isDig s[q] = false from decide_eq_false (fun h => h1 h.1)]; rfl
              go_wp2_with fail
              go_meet
              exact ⟨by rw [HM2.out], rfl⟩
          · have HM2 : Hid (more = false) := by
              show _ = _
              rw [HMORE.out, HRJ.out, List.getElem?_eq_none (by have := HSL.out; omega)]
            go_wp2_with fail
            go_meet
            exact ⟨by rw [HM2.out], rfl⟩
        case rest =>
          obtain ⟨rfl, rfl⟩ := hcut
          cases more with
          | true =>
            have hm := HMORE.out
            have hqs : q < s.size := by
              rcases Nat.lt_or_ge q s.size with h | h
              · exact h
              · rw [HRJ.out, List.getElem?_eq_none (by have := HSL.out; omega)] at hm
                cases hm
            have hg := getElem_list s q hqs
            rw [HRJ.out, hg] at hm
            have hm : true = (Oct.isDig s[q] && decide (j < 3)) := hm
            have hm2 : Oct.isDig s[q] = true ∧ decide (j < 3) = true := by
              cases h1 : Oct.isDig s[q] <;> rw [h1] at hm
              · cases hm
              · exact ⟨rfl, by rw [hm]; rfl⟩
            have hj3 : j < 3 := of_decide_eq_true hm2.2
            obtain ⟨hd1, hd2⟩ : 48 ≤ s[q].toNat ∧ s[q].toNat ≤ 57 := of_decide_eq_true hm2.1
            have HG2 : Hid ((s.data.toList.drop p)[j]? = some s[q]) := by show _ = _; rw [HRJ.out, hg]
            have HDS := Lib.hid hm2.1
            clear hm hm2 hg HMORE
            have hb := s[q].toNat_lt
            have HN2 : Hid (10 * n + (s[q].toNat - 48) = Oct.numOf ((s.data.toList.drop p).take (j + 1)) ∧ 10 * n + (s[q].toNat - 48) < 10 ^ (j + 1)) := by
              refine ⟨?_, by have := HNUM.out.2; rw [Nat.pow_succ]; omega⟩
              rw [List.take_add_one, HG2.out, Option.toList_some, Oct.numOf_snoc, ← HNUM.out.1]
            have HN3 : Hid (10 * n + (s[q].toNat - 48) < 1000) := by
              show _ < _
              exact Nat.lt_of_lt_of_le HN2.out.2 (Nat.le_trans (Nat.pow_le_pow_right (by decide) (show j + 1 ≤ 3 by omega)) (by decide))
            have HDIG2 : Hid (∀ k, k < j + 1 → ∃ d, (s.data.toList.drop p)[k]? = some d ∧ Oct.isDig d = true) := fun k hk => by
              rcases Nat.lt_or_ge k j with h | h
              · exact HDIG.out k h
              · obtain rfl : k = j := by omega
                exact ⟨s[q], HG2.out, HDS.out⟩
            clear HNUM
            have HJ3 := Lib.hid hj3
            clear hj3
            go_wp2_with fail
            refine ⟨⟨j + 1, 10 * n + (s[q].toNat - 48), q + 1, by have := HJ3.out; omega, by omega, by go_num, by go_num, HN3.out, Lib.hid (by have := HQ.out; omega), HN2, HDIG2, (by first | exact Lib.hid rfl | exact Lib.hid trivial)⟩, by simp [intOf]; omega⟩
          | false =>
            have HSTOP : Hid (j = 3 ∨ (s.data.toList.drop p)[j]? = none ∨ ∃ d, (s.data.toList.drop p)[j]? = some d ∧ Oct.isDig d = false) := by
              have hm := HMORE.out
              cases hg : (s.data.toList.drop p)[j]? with
              | none => exact .inr (.inl rfl)
              | some d =>
                rw [hg] at hm
                have hm : false = (Oct.isDig d && decide (j < 3)) := hm
                cases h1 : Oct.isDig d with
                | false => exact .inr (.inr ⟨d, rfl, h1⟩)
                | true =>
                  rw [h1] at hm
                  have : decide (j < 3) = false := by rw [hm]; rfl
                  exact .inl (by have := of_decide_eq_false this; omega)
            have HDG : Hid (Oct.digs 3 (s.data.toList.drop p) = j) := Oct.digs_at 3 _ j HDIG.out hj HSTOP.out
            clear HMORE HSTOP HDIG
            have hbz := hbr
            by_cases hj0 : j = 0
            · have d1 : ((q : Int) == (p : Int)) = true := by rw [beq_iff_eq]; have := HQ.out; omega
              have HNO : Hid (∀ a b c d : UInt8, s.data.toList ≠ Oct.ipText a b c d) := Oct.none_front HI.out hlt (fun n r h => by have := h.1; rw [HDG.out] at this; omega)
              go_upto_region 10 with fail
              refine wp_region_quiet_below (by kernel_rfl) (by kernel_rfl) ?_
              repeat (quiet_step (fail))
              refine wpQuiet_nil ?_
              intro _ hw'
              obtain ⟨⟨dq, osq⟩, hw''⟩ := hw'
              subst hw''
              have b3 := below_regrown wr dq osq
              generalize grow (redrawn wr dq) osq = W3 at *
              have HR2 := Lib.hid (HR2.out.kept b3)
              have hbr3 := hbr.trans (b3.mono hbr.size)
              clear b3 hbr
              go_wp2_with ((with_reducible refine at_store 28 (.tmp 2) (.tmp 62) ?_); refine wpList_store_own rfl 28 (.tmp 2) (.tmp 62) rfl w.heap.size _ rfl rfl 28 _ HR2.out infoA4 rfl (by kernel_rfl) w.heap.size (Nat.le_refl _) ?_; intro w2 r2 o2 hs2 hb2)
              refine bodyPost_ret (results_row_tmp1 Tryd.results17 _ _ w.heap.size _ _ _ rfl r2 Tryd.underlying28 rfl infoA4) rfl ?_
              exact ⟨.inr ⟨HNO.out, rfl⟩, hbr3.trans hb2⟩
            · have d1 : ((q : Int) == (p : Int)) = false := by rw [beq_eq_false_iff_ne]; have := HQ.out; omega
              by_cases h255 : 255 < n
              · have d2 : decide (255 < (n : Int)) = true := decide_eq_true (by omega)
                have HNO : Hid (∀ a b c d : UInt8, s.data.toList ≠ Oct.ipText a b c d) := Oct.none_front HI.out hlt (fun m r h => by
                  have h1 := h.2.1
                  have h2 := h.2.2.1
                  rw [HDG.out, ← HNUM.out.1] at h1
                  omega)
                go_upto_region 10 with fail
                refine wp_region_quiet_below (by kernel_rfl) (by kernel_rfl) ?_
                repeat (quiet_step (fail))
                refine wpQuiet_nil ?_
                intro _ hw'
                obtain ⟨⟨dq, osq⟩, hw''⟩ := hw'
                subst hw''
                have b3 := below_regrown wr dq osq
                generalize grow (redrawn wr dq) osq = W3 at *
                have HR2 := Lib.hid (HR2.out.kept b3)
                have hbr3 := hbr.trans (b3.mono hbr.size)
                clear b3 hbr
                go_wp2_with ((with_reducible refine at_store 28 (.tmp 2) (.tmp 62) ?_); refine wpList_store_own rfl 28 (.tmp 2) (.tmp 62) rfl w.heap.size _ rfl rfl 28 _ HR2.out infoA4 rfl (by kernel_rfl) w.heap.size (Nat.le_refl _) ?_; intro w2 r2 o2 hs2 hb2)
                refine bodyPost_ret (results_row_tmp1 Tryd.results17 _ _ w.heap.size _ _ _ rfl r2 Tryd.underlying28 rfl infoA4) rfl ?_
                exact ⟨.inr ⟨HNO.out, rfl⟩, hbr3.trans hb2⟩
              · have d2 : decide (255 < (n : Int)) = false := decide_eq_false (by omega)
                have HD : Hid (∀ dd os, Calls Tryd.prog 31 #[.int .i64 (n : Int)] (grow (redrawn wr dd) os) fun e w'' => e = .returned (.string ⟨(Oct.dec8 n).toArray⟩) ∧ ∃ p : Regrown, w'' = grow (redrawn wr p.d) p.os) := fun dd os => Calls.regrown_of (refDec_any n hn _)
                have hcut : ∀ w, (Instr.slice 9 (.string s) (some (.int .i64 (p : Int))) (some (.int .i64 (q : Int))) none).run Tryd.prog w = .ok (.string (s.extract p q)) w := fun w => by
                  have h := run_slice_string (P := Tryd.prog) (w := w) 9 s .i64 .i64 (p : Int) (q : Int) Tryd.underlying9 (by omega) (by have := HQ.out; omega) (by omega)
                  simpa using h
                have HXT : Hid ((s.extract p q).data.toList = (s.data.toList.drop p).take j) := by
                  show _ = _
                  rw [Oct.ext_toList, HQ.out]
                  congr 1
                  omega
                obtain ⟨same, hsame⟩ : ∃ same : Bool, same = decide (Oct.dec8 n = (s.data.toList.drop p).take j) := ⟨_, rfl⟩
                have HSAME := Lib.hid hsame
                obtain ⟨x, hx⟩ : ∃ x : ByteArray, x = ⟨(Oct.dec8 n).toArray⟩ := ⟨_, rfl⟩
                obtain ⟨y, hy⟩ : ∃ y : ByteArray, y = s.extract p q := ⟨_, rfl⟩
                have hxy : (x.toList == y.toList) = same := by
                  rw [hsame, Lib.toList_data, Lib.toList_data, hx, hy, HXT.out, Bool.eq_iff_iff, beq_iff_eq, decide_eq_true_iff]
                rw [← hx] at HD
                rw [← hy] at hcut
                clear hx hy hsame HXT
                go_upto_region 10 with fail
                refine wp_region_quiet_below (by kernel_rfl) (by kernel_rfl) ?_
                repeat (quiet_step (first | (with_reducible exact HD.out _ _)))
                refine wpQuiet_nil ?_
                intro _ hw'
                obtain ⟨⟨dq, osq⟩, hw''⟩ := hw'
                subst hw''
                have b3 := below_regrown wr dq osq
                generalize grow (redrawn wr dq) osq = W3 at *
                have HR2 := Lib.hid (HR2.out.kept b3)
                have HR4 := Lib.hid (HR4.out.kept b3)
                have hbr3 := hbr.trans (b3.mono hbr.size)
                clear b3 hbr hbz HD hcut d1
                cases same with
                | false =>
                  have HNO : Hid (∀ a b c d : UInt8, s.data.toList ≠ Oct.ipText a b c d) := Oct.none_front HI.out hlt (fun m r h => by
                    have h1 := h.2.1
                    have h2 := h.2.2.2.1
                    rw [HDG.out, ← HNUM.out.1] at h1
                    rw [HDG.out, h1] at h2
                    have := HSAME.out
                    rw [decide_eq_true h2] at this
                    cases this)
                  go_wp2_with ((with_reducible refine at_store 28 (.tmp 2) (.tmp 62) ?_); refine wpList_store_own rfl 28 (.tmp 2) (.tmp 62) rfl w.heap.size _ rfl rfl 28 _ HR2.out infoA4 rfl (by kernel_rfl) w.heap.size (Nat.le_refl _) ?_; intro w2 r2 o2 hs2 hb2)
                  refine bodyPost_ret (results_row_tmp1 Tryd.results17 _ _ w.heap.size _ _ _ rfl r2 Tryd.underlying28 rfl infoA4) rfl ?_
                  exact ⟨.inr ⟨HNO.out, rfl⟩, hbr3.trans hb2⟩
                | true =>
                  have HFR : Hid (Oct.Front (s.data.toList.drop p) n (s.data.toList.drop q)) := by
                    have h2 := of_decide_eq_true HSAME.out.symm
                    refine ⟨by rw [HDG.out]; omega, by rw [HDG.out]; exact HNUM.out.1, by omega, by rw [HDG.out]; exact h2, ?_⟩
                    rw [HDG.out, List.drop_drop, HQ.out]
                  have hvl : vals.length = i := HI.out.len
                  have HVL := Lib.hid hvl
                  have hml : (vals.map (·.toNat)).length = i := by rw [List.length_map]; exact hvl
                  have cA : W3.cell? ⟨w.heap.size + 1, i, none⟩ = some (.int .u8 0) := by
                    rw [HR4.out.cell]
                    have := bytesV_at 4 (vals.map (·.toNat)) (by omega)
                    rwa [hml] at this
                  have fA : W3.frozen? ⟨w.heap.size + 1, i, none⟩ = false := HR4.out.free i
                  have HR5 : Hid (RowIs (W3.setCell ⟨w.heap.size + 1, i, none⟩ (.int .u8 (n : Int))) (w.heap.size + 1) 28 (bytesV 4 ((vals ++ [UInt8.ofNat n]).map (·.toNat)))) := by
                    have := HR4.out.setOne (vals.map (·.toNat)).length (.int .u8 (n : Int))
                    rw [bytesV_put, hml] at this
                    rw [List.map_append, List.map_cons, List.map_nil, Oct.ofNat_toNat (by omega)]
                    exact this
                  have HR2N := Lib.hid (HR2.out.setOther (show w.heap.size ≠ w.heap.size + 1 by omega) i (.int .u8 (n : Int)))
                  have hbN := hbr3.setCell (p := ⟨w.heap.size + 1, i, none⟩) (show w.heap.size ≤ w.heap.size + 1 by omega) (.int .u8 (n : Int))
                  clear hvl hml HR2
                  by_cases hi3 : i < 3
                  · have d3 : decide ((i : Int) < 3) = true := decide_eq_true (by omega)
                    by_cases hqs : q < s.size
                    · have hge : decide (s.size ≤ q) = false := decide_eq_false (by omega)
                      have hg := getElem_list s q hqs
                      have HDR : Hid (s.data.toList.drop q = s[q] :: s.data.toList.drop (q + 1)) := by
                        show _ = _
                        rw [List.drop_eq_getElem?_toList_append, hg]
                        rfl
                      clear hg
                      by_cases h46 : s[q].toNat = 46
                      · have d6 : ((s[q].toNat : Int) != 46) = false := by rw [h46]; rfl
                        have HINV : Hid (Oct.IpInv s.data.toList (i + 1) (q + 1) (vals ++ [UInt8.ofNat n])) := by
                          have h := HFR.out
                          rw [HDR.out, show s[q] = 46 from UInt8.toNat_inj.1 h46] at h
                          have h2 := Oct.inv_dot HI.out hi3 h
                          rw [HDG.out, ← HQ.out] at h2
                          exact h2
                        clear h46
                        go_wp2_with fail
                        exact ⟨⟨i + 1, q + 1, vals ++ [UInt8.ofNat n], by omega, by go_num, by go_num, by omega, HINV, HR2N, HR5, hbN⟩, by simp [intOf]; omega⟩
                      · have d6 : ((s[q].toNat : Int) != 46) = true := by rw [bne_iff_ne]; omega
                        have HNO : Hid (∀ a b c d : UInt8, s.data.toList ≠ Oct.ipText a b c d) := Oct.none_dot HI.out hi3 HFR.out (fun r' h => by
                          rw [HDR.out] at h
                          exact h46 (by rw [(List.cons.inj h).1]; rfl))
                        clear h46
                        go_wp2_with ((with_reducible refine at_store 28 (.tmp 2) (.tmp 79) ?_); refine wpList_store_own rfl 28 (.tmp 2) (.tmp 79) rfl w.heap.size _ rfl rfl 28 _ HR2N.out infoA4 rfl (by kernel_rfl) w.heap.size (Nat.le_refl _) ?_; intro w2 r2 o2 hs2 hb2)
                        refine bodyPost_ret (results_row_tmp1 Tryd.results17 _ _ w.heap.size _ _ _ rfl r2 Tryd.underlying28 rfl infoA4) rfl ?_
                        exact ⟨.inr ⟨HNO.out, rfl⟩, hbN.trans hb2⟩
                    · have hge : decide (s.size ≤ q) = true := decide_eq_true (by omega)
                      have HNO : Hid (∀ a b c d : UInt8, s.data.toList ≠ Oct.ipText a b c d) := Oct.none_dot HI.out hi3 HFR.out (fun r' h => by
                        rw [List.drop_eq_nil_of_le (by have := HSL.out; omega)] at h
                        cases h)
                      go_wp2_with ((with_reducible refine at_store 28 (.tmp 2) (.tmp 79) ?_); refine wpList_store_own rfl 28 (.tmp 2) (.tmp 79) rfl w.heap.size _ rfl rfl 28 _ HR2N.out infoA4 rfl (by kernel_rfl) w.heap.size (Nat.le_refl _) ?_; intro w2 r2 o2 hs2 hb2)
                      refine bodyPost_ret (results_row_tmp1 Tryd.results17 _ _ w.heap.size _ _ _ rfl r2 Tryd.underlying28 rfl infoA4) rfl ?_
                      exact ⟨.inr ⟨HNO.out, rfl⟩, hbN.trans hb2⟩
                  · obtain rfl : i = 3 := by omega
                    have HINV : Hid (Oct.IpInv s.data.toList 4 q (vals ++ [UInt8.ofNat n])) := by
                      have h2 := Oct.inv_last HI.out HFR.out
                      rw [HDG.out, ← HQ.out] at h2
                      exact h2
                    go_wp2_with fail
                    exact ⟨⟨4, q, vals ++ [UInt8.ofNat n], by omega, by go_num, by go_num, by omega, HINV, HR2N, HR5, hbN⟩, by simp [intOf]⟩
    · obtain rfl : i = 4 := by omega
      by_cases hpe : p = s.size
      · have d1 : ((p : Int) == (s.size : Int)) = true := by rw [hpe]; exact beq_self_eq_true _
        obtain ⟨a, b, c, d, hv, hs⟩ := Oct.some_end HI.out (List.drop_eq_nil_of_le (by have := HSL.out; omega))
        have HS := Lib.hid hs
        rw [hv] at HR4
        have HR4 : Hid (RowIs wr (w.heap.size + 1) 28 #[.int .u8 (a.toNat : Int), .int .u8 (b.toNat : Int), .int .u8 (c.toNat : Int), .int .u8 (d.toNat : Int)]) := HR4
        clear hs hv HI hpe
        go_wp2_with (first | ((with_reducible refine at_load 28 (.tmp 4) ?_); refine wpList_load_own rfl 28 (.tmp 4) rfl (w.heap.size + 1) rfl 28 _ _ HR4.out Tryd.underlying28 rfl infoA4 ?_) | ((with_reducible refine at_store 28 (.tmp 2) (.tmp 87) ?_); refine wpList_store_own rfl 28 (.tmp 2) (.tmp 87) rfl w.heap.size _ rfl rfl 28 _ HR2.out infoA4 rfl (by kernel_rfl) w.heap.size (Nat.le_refl _) ?_; intro w2 r2 o2 hs2 hb2))
        refine bodyPost_ret (results_row_tmp1 Tryd.results17 _ _ w.heap.size _ _ _ rfl r2 Tryd.underlying28 rfl infoA4) rfl ?_
        exact ⟨.inl ⟨a, b, c, d, HS.out, rfl⟩, hbr.trans hb2⟩
      · have d1 : ((p : Int) == (s.size : Int)) = false := by rw [beq_eq_false_iff_ne]; omega
        have HNO : Hid (∀ a b c d : UInt8, s.data.toList ≠ Oct.ipText a b c d) := Oct.none_end HI.out (fun h => by
          have := congrArg List.length h
          rw [List.length_drop, HSL.out, List.length_nil] at this
          omega)
        go_wp2_with ((with_reducible refine at_store 28 (.tmp 2) (.tmp 86) ?_); refine wpList_store_own rfl 28 (.tmp 2) (.tmp 86) rfl w.heap.size _ rfl rfl 28 _ HR2.out infoA4 rfl (by kernel_rfl) w.heap.size (Nat.le_refl _) ?_; intro w2 r2 o2 hs2 hb2)
        refine bodyPost_ret (results_row_tmp1 Tryd.results17 _ _ w.heap.size _ _ _ rfl r2 Tryd.underlying28 rfl infoA4) rfl ?_
        exact ⟨.inr ⟨HNO.out, rfl⟩, hbr.trans hb2⟩
end Go.Proofs.YtknnadnjikfibaaDoor
