/- causeyref07.Sum16; oct.Group. By an AI agent. -/
import Derived.Test.YtknnadnjikfibaaDoorRefMt
import Derived.Test.YtknnadnjikfibaaDoorSum16
namespace Go.Proofs.YtknnadnjikfibaaDoor
open Go.RowKit Go.Sort

namespace Oct
theorem norm_fold (q : Nat) : norm (q % 65536 + q / 65536) = norm q := by
  unfold norm
  split <;> split <;> omega
theorem norm_low (q : Nat) (h : q ≤ 65535) : norm q = q := by
  unfold norm
  split <;> omega
end Oct

set_option maxRecDepth 20000 in
set_option maxHeartbeats 8000000 in
theorem refSum16_any (s : ByteArray) (w : World) (hs : s.size ≤ 100000) : Calls Tryd.prog 21 #[.string s] w fun e w' => e = .returned (.int .i64 (Oct.sum16 s.data.toList)) ∧ Below w.heap.size w w' := by
  rcases Nat.mod_two_eq_zero_or_one s.size with hp | hp
  · obtain ⟨u, hu⟩ : ∃ u : ByteArray, u = s := ⟨_, rfl⟩
    rw [← hu] at hp hs ⊢
    clear hu
    have d1 : ((u.size : Int) % 2 == 1) = false := by rw [beq_eq_false_iff_ne]; omega
    go_enter Tryd.func21, Tryd.ntmps21
    go_wp2_with fail
    go_loopw [3, 4] (fun s3 s4 wr => ∃ j m n1 : Nat, n1 ≤ u.size ∧ s4 = .int .i64 (n1 : Int) ∧ s3 = .int .i64 m ∧ m ≤ 65535 * j ∧ Hid (n1 = 2 * j) ∧ Hid (m = Oct.wsum 0 (u.data.toList.take n1)) ∧ Below w.heap.size w wr) (fun _ s4 _ => u.size - (intOf s4).toNat)
    case atStart => exact ⟨0, 0, 0, Nat.zero_le _, rfl, rfl, Nat.zero_le _, Lib.hid rfl, Lib.hid rfl, Below.refl _ _⟩
    case round =>
      rename_i wr
      obtain ⟨j, m, n1, hj, rfl, rfl, hmj, HN1, HM, hbr⟩ := hrel
      by_cases hlt : n1 < u.size
      · obtain ⟨n2, hn2⟩ : ∃ n2, n2 = n1 + 1 := ⟨_, rfl⟩
        have hn2s : n2 < u.size := by have := HN1.out; omega
        have HWS : Hid (Oct.wsum 0 (u.data.toList.take (n1 + 2)) = m + 256 * u[n1].toNat + u[n2].toNat) := by
          show _ = _
          have e0 : n1 % 2 = 0 := by have := HN1.out; omega
          have h2 := Oct.wsum_take u n2 hn2s
          have h1 := Oct.wsum_take u n1 hlt
          have v1 : Oct.val n1 u[n1].toNat = 256 * u[n1].toNat := by unfold Oct.val; rw [if_pos e0]
          have v2 : Oct.val n2 u[n2].toNat = u[n2].toNat := by unfold Oct.val; rw [if_neg (by omega)]
          rw [v1, ← HM.out] at h1
          rw [v2] at h2
          generalize u[n2].toNat = y2 at h2 ⊢
          rw [hn2, h1] at h2
          exact h2
        have hj100 : j ≤ 60000 := by have := HN1.out; omega
        have hw2 : IntKind.i64.wrap ((n1 : Int) + 1) = (n2 : Int) := by rw [IntKind.wrap_i64]; omega
        have HN2 := Lib.hid hn2
        clear hn2
        have b1 := u[n1].toNat_lt
        have b2 := u[n2].toNat_lt
        go_upto_region 7 with fail
        have hi1 : ∀ w, (Instr.index 9 (.string u) (.int .i64 (n1 : Int))).run Tryd.prog w = .ok (.int .u8 (u[n1].toNat : Int)) w := fun w => by
          have h := run_index_string (P := Tryd.prog) (w := w) 9 u .i64 (n1 : Int) Tryd.underlying9
          rw [h]
          simp [hlt]
        have hi2 : ∀ w, (Instr.index 9 (.string u) (.int .i64 (n2 : Int))).run Tryd.prog w = .ok (.int .u8 (u[n2].toNat : Int)) w := fun w => by
          have h := run_index_string (P := Tryd.prog) (w := w) 9 u .i64 (n2 : Int) Tryd.underlying9
          rw [h]
          simp [hn2s]
        generalize u[n1].toNat = x at *
        generalize u[n2].toNat = y at *
        have w1 : IntKind.i64.wrap (x : Int) = (x : Int) := by rw [IntKind.wrap_i64]; omega
        have w2 : IntKind.i64.wrap (y : Int) = (y : Int) := by rw [IntKind.wrap_i64]; omega
        have w3 : IntKind.i64.wrap (256 * (x : Int)) = 256 * (x : Int) := by rw [IntKind.wrap_i64]; omega
        have w4 : IntKind.i64.wrap ((m : Int) + 256 * (x : Int)) = (m : Int) + 256 * (x : Int) := by rw [IntKind.wrap_i64]; omega
        have w5 : IntKind.i64.wrap ((m : Int) + 256 * (x : Int) + (y : Int)) = (m : Int) + 256 * (x : Int) + (y : Int) := by rw [IntKind.wrap_i64]; omega
        refine wp_region_quiet_below (by kernel_rfl) (by kernel_rfl) ?_
        repeat (quiet_step (fail))
        refine wpQuiet_nil ?_
        intro _ hw'
        obtain ⟨⟨dq, osq⟩, hw''⟩ := hw'
        subst hw''
        have b3 := below_regrown wr dq osq
        generalize grow (redrawn wr dq) osq = W3 at *
        have hbr3 := hbr.trans (b3.mono hbr.size)
        clear b3 hbr hi1 hi2 w1 w2 w3 w4 w5 hw2
        go_wp2_with fail
        exact ⟨⟨j + 1, m + 256 * x + y, n1 + 2, by have := HN2.out; omega, by go_num, by go_num, by omega, Lib.hid (by have := HN1.out; omega), Lib.hid HWS.out.symm, hbr3⟩, by simp [intOf]; omega⟩
      · have hmw : m = Oct.wsum 0 u.data.toList := by
          have := HM.out
          rwa [List.take_of_length_le (by simp; omega)] at this
        have hm9 : m ≤ 4000000000 := by have := HN1.out; omega
        have HN : Hid (Oct.norm m = Oct.norm (Oct.wsum 0 u.data.toList)) := by show _ = _; rw [hmw]
        clear hmw HM hmj
        go_wp2_with fail
        go_loopw [3] (fun s3 wq => ∃ q : Nat, s3 = .int .i64 q ∧ q ≤ 4000000000 ∧ Hid (Oct.norm q = Oct.norm (Oct.wsum 0 u.data.toList)) ∧ Below w.heap.size w wq) (fun s3 _ => (intOf s3).toNat)
        case atStart => exact ⟨m, rfl, hm9, HN, hbr⟩
        case round =>
          clear HN hm9 hbr
          rename_i wq
          obtain ⟨q, rfl, hq9, HN, hbq⟩ := hrel
          by_cases h64 : 65535 < q
          · have HN2 : Hid (Oct.norm (q % 65536 + q / 65536) = Oct.norm (Oct.wsum 0 u.data.toList)) := by show _ = _; rw [← HN.out]; exact Oct.norm_fold q
            go_wp2_with fail
            exact ⟨⟨q % 65536 + q / 65536, by go_num, by omega, HN2, hbq⟩, by simp [intOf]; omega⟩
          · go_wp2_with fail
            go_ret
            refine ⟨ret_int ?_, hbq⟩
            have h1 := HN.out
            rw [Oct.norm_low q (by omega)] at h1
            have h2 : (Oct.norm (Oct.wsum 0 u.data.toList) : Int) = q := by rw [← h1]
            unfold Oct.sum16
            rw [h2]
  · have y1 : ¬ 9223372036854775807 < s.size + 1 := by omega
    have d1 : ((s.size : Int) % 2 == 1) = true := by rw [beq_iff_eq]; omega
    obtain ⟨u, hu⟩ : ∃ u : ByteArray, u = s ++ ⟨#[0]⟩ := ⟨_, rfl⟩
    have hus : u.size = s.size + 1 := by rw [hu, ByteArray.size_append]; rfl
    have hul : u.data.toList = s.data.toList ++ [0] := by rw [hu]; simp [ByteArray.data_append]
    have HUL := Lib.hid hul
    clear hul
    go_enter Tryd.func21, Tryd.ntmps21
    go_upto_region 3 with fail
    rw [← hu]
    clear hu y1 d1
    have hp2 : u.size % 2 = 0 := by omega
    have hs2 : u.size ≤ 100001 := by omega
    clear hus hp hs
    go_wp2_with fail
    go_loopw [3, 4] (fun s3 s4 wr => ∃ j m n1 : Nat, n1 ≤ u.size ∧ s4 = .int .i64 (n1 : Int) ∧ s3 = .int .i64 m ∧ m ≤ 65535 * j ∧ Hid (n1 = 2 * j) ∧ Hid (m = Oct.wsum 0 (u.data.toList.take n1)) ∧ Below w.heap.size w wr) (fun _ s4 _ => u.size - (intOf s4).toNat)
    case atStart => exact ⟨0, 0, 0, Nat.zero_le _, rfl, rfl, Nat.zero_le _, Lib.hid rfl, Lib.hid rfl, Below.refl _ _⟩
    case round =>
      rename_i wr
      obtain ⟨j, m, n1, hj, rfl, rfl, hmj, HN1, HM, hbr⟩ := hrel
      by_cases hlt : n1 < u.size
      · obtain ⟨n2, hn2⟩ : ∃ n2, n2 = n1 + 1 := ⟨_, rfl⟩
        have hn2s : n2 < u.size := by have := HN1.out; omega
        have HWS : Hid (Oct.wsum 0 (u.data.toList.take (n1 + 2)) = m + 256 * u[n1].toNat + u[n2].toNat) := by
          show _ = _
          have e0 : n1 % 2 = 0 := by have := HN1.out; omega
          have h2 := Oct.wsum_take u n2 hn2s
          have h1 := Oct.wsum_take u n1 hlt
          have v1 : Oct.val n1 u[n1].toNat = 256 * u[n1].toNat := by unfold Oct.val; rw [if_pos e0]
          have v2 : Oct.val n2 u[n2].toNat = u[n2].toNat := by unfold Oct.val; rw [if_neg (by omega)]
          rw [v1, ← HM.out] at h1
          rw [v2] at h2
          generalize u[n2].toNat = y2 at h2 ⊢
          rw [hn2, h1] at h2
          exact h2
        have hj100 : j ≤ 60000 := by have := HN1.out; omega
        have hw2 : IntKind.i64.wrap ((n1 : Int) + 1) = (n2 : Int) := by rw [IntKind.wrap_i64]; omega
        have HN2 := Lib.hid hn2
        clear hn2
        have b1 := u[n1].toNat_lt
        have b2 := u[n2].toNat_lt
        go_upto_region 7 with fail
        have hi1 : ∀ w, (Instr.index 9 (.string u) (.int .i64 (n1 : Int))).run Tryd.prog w = .ok (.int .u8 (u[n1].toNat : Int)) w := fun w => by
          have h := run_index_string (P := Tryd.prog) (w := w) 9 u .i64 (n1 : Int) Tryd.underlying9
          rw [h]
          simp [hlt]
        have hi2 : ∀ w, (Instr.index 9 (.string u) (.int .i64 (n2 : Int))).run Tryd.prog w = .ok (.int .u8 (u[n2].toNat : Int)) w := fun w => by
          have h := run_index_string (P := Tryd.prog) (w := w) 9 u .i64 (n2 : Int) Tryd.underlying9
          rw [h]
          simp [hn2s]
        generalize u[n1].toNat = x at *
        generalize u[n2].toNat = y at *
        have w1 : IntKind.i64.wrap (x : Int) = (x : Int) := by rw [IntKind.wrap_i64]; omega
        have w2 : IntKind.i64.wrap (y : Int) = (y : Int) := by rw [IntKind.wrap_i64]; omega
        have w3 : IntKind.i64.wrap (256 * (x : Int)) = 256 * (x : Int) := by rw [IntKind.wrap_i64]; omega
        have w4 : IntKind.i64.wrap ((m : Int) + 256 * (x : Int)) = (m : Int) + 256 * (x : Int) := by rw [IntKind.wrap_i64]; omega
        have w5 : IntKind.i64.wrap ((m : Int) + 256 * (x : Int) + (y : Int)) = (m : Int) + 256 * (x : Int) + (y : Int) := by rw [IntKind.wrap_i64]; omega
        refine wp_region_quiet_below (by kernel_rfl) (by kernel_rfl) ?_
        repeat (quiet_step (fail))
        refine wpQuiet_nil ?_
        intro _ hw'
        obtain ⟨⟨dq, osq⟩, hw''⟩ := hw'
        subst hw''
        have b3 := below_regrown wr dq osq
        generalize grow (redrawn wr dq) osq = W3 at *
        have hbr3 := hbr.trans (b3.mono hbr.size)
        clear b3 hbr hi1 hi2 w1 w2 w3 w4 w5 hw2
        go_wp2_with fail
        exact ⟨⟨j + 1, m + 256 * x + y, n1 + 2, by have := HN2.out; omega, by go_num, by go_num, by omega, Lib.hid (by have := HN1.out; omega), Lib.hid HWS.out.symm, hbr3⟩, by simp [intOf]; omega⟩
      · have hmw : m = Oct.wsum 0 u.data.toList := by
          have := HM.out
          rwa [List.take_of_length_le (by simp; omega)] at this
        have hm9 : m ≤ 4000000000 := by have := HN1.out; omega
        have HN : Hid (Oct.norm m = Oct.norm (Oct.wsum 0 u.data.toList)) := by show _ = _; rw [hmw]
        clear hmw HM hmj
        go_wp2_with fail
        go_loopw [3] (fun s3 wq => ∃ q : Nat, s3 = .int .i64 q ∧ q ≤ 4000000000 ∧ Hid (Oct.norm q = Oct.norm (Oct.wsum 0 u.data.toList)) ∧ Below w.heap.size w wq) (fun s3 _ => (intOf s3).toNat)
        case atStart => exact ⟨m, rfl, hm9, HN, hbr⟩
        case round =>
          clear HN hm9 hbr
          rename_i wq
          obtain ⟨q, rfl, hq9, HN, hbq⟩ := hrel
          by_cases h64 : 65535 < q
          · have HN2 : Hid (Oct.norm (q % 65536 + q / 65536) = Oct.norm (Oct.wsum 0 u.data.toList)) := by show _ = _; rw [← HN.out]; exact Oct.norm_fold q
            go_wp2_with fail
            exact ⟨⟨q % 65536 + q / 65536, by go_num, by omega, HN2, hbq⟩, by simp [intOf]; omega⟩
          · go_wp2_with fail
            go_ret
            refine ⟨ret_int ?_, hbq⟩
            have h1 := HN.out
            rw [Oct.norm_low q (by omega)] at h1
            have h2 : (Oct.norm (Oct.wsum 0 u.data.toList) : Int) = q := by rw [← h1]
            have h3 := Oct.wsum_pad s.data.toList 0
            rw [← HUL.out] at h3
            unfold Oct.sum16
            rw [← h3, h2]

set_option maxRecDepth 20000 in
theorem Oct.odd8 : ∀ n : Nat, n < 256 → (bits BinOp.and IntKind.u8 (n : Int) 1 == 1) = decide (n % 2 = 1) := by decide
theorem group_any (a b c d e f : UInt8) (w : World) : Calls Tryd.prog 22 #[.agg #[.int .u8 (a.toNat : Int), .int .u8 (b.toNat : Int), .int .u8 (c.toNat : Int), .int .u8 (d.toNat : Int), .int .u8 (e.toNat : Int), .int .u8 (f.toNat : Int)]] w fun e' w' => e' = .returned (.bool (decide (a.toNat % 2 = 1))) ∧ Below w.heap.size w w' := by
  go_enter Tryd.func22, Tryd.ntmps22
  go_wp2_with fail
  go_ret
  refine ⟨?_, (Below.refl _ _).alloc (Nat.le_refl _) _⟩
  have h := Oct.odd8 a.toNat a.toNat_lt
  show Ending.returned (.bool (bits BinOp.and IntKind.u8 (a.toNat : Int) 1 == 1)) = _
  rw [h]
end Go.Proofs.YtknnadnjikfibaaDoor
