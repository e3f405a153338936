/- The walk of TunPlays. By an AI agent. -/
import Derived.Test.YtmipdbmmhoacpaaTunRefCut
namespace Go.Proofs.Ytmipdbmmhoacpaa
open Go.RowKit Go.Sort Grow

theorem idle_any (w : World) : Calls Try.prog 16 #[] w fun e w' => e = .returned (.string ⟨#[0]⟩) ∧ w = w' := by
  go_enter Try.func16, Try.ntmps16
  go_wp2_with fail
  go_ret
  exact ⟨rfl, rfl⟩

set_option maxRecDepth 20000 in
set_option maxHeartbeats 4000000 in
theorem tunPlays_main (k : Int) (n : Nat) (b s : ByteArray) (q : Nat) (w : World) (hb2 : b.size ≤ 2000) (hs2 : s.size ≤ 2000) (hn : n < 18446744073709551616) (hq : q < 4294967296) :
    Calls Try.prog 4 #[Tun.gram k n b, .string s, .int .u32 q] w fun e w' => e = .returned (.bool true) ∧ Below w.heap.size w w' := by
  obtain ⟨t, PC⟩ := Tun.print_both k n b hn hb2
  obtain ⟨k', n', b', e', QP, QR⟩ := Tun.parse_both s hs2
  have QP := Lib.hid QP
  have QR := Lib.hid QR
  have HC := Lib.hid fun h1 h2 w => cut_any q s w hq h1 h2
  have HR := Lib.hid fun h1 h2 w => refCut_any q s w hq h1 h2
  clear hn hq
  obtain ⟨e0, ok, PP, PR, hok⟩ : ∃ (e0 : Int) (ok : Bool), Tun.PrintIs k n b t e0 ∧ Tun.RefPrintIs k n b t ok ∧ (e0 = 0 ∧ ok = true ∨ e0 = 3 ∧ ok = false) := by
    rcases PC with ⟨h1, h2⟩ | ⟨h1, h2⟩
    · exact ⟨0, true, h1, h2, .inl ⟨rfl, rfl⟩⟩
    · exact ⟨3, false, h1, h2, .inr ⟨rfl, rfl⟩⟩
  have HOK := Lib.hid hok
  clear PC hok
  skip
  · skip
    have PP := Lib.hid PP
    have PR := Lib.hid PR
    go_enter Try.func4, Try.ntmps4
    go_wp2_with fail
    refine (awake_any _).mono ?_
    rintro e w1 ⟨rfl, hb⟩
    have r1 : Hid (RowIs w1 w.heap.size 24 #[.int .i64 k, .int .u64 n, .string b]) := (rowIs_new w _ _).kept hb
    have hbW : Below w.heap.size w w1 := ((Below.refl _ _).alloc (Nat.le_refl _) _).trans (hb.mono (by simp))
    clear hb
    have d0 : w1.cell? ⟨w.heap.size, 0, none⟩ = some (.int .i64 k) := r1.out.cell 0
    have d1 : w1.cell? ⟨w.heap.size, 1, none⟩ = some (.int .u64 n) := r1.out.cell 1
    have d2 : w1.cell? ⟨w.heap.size, 2, none⟩ = some (.string b) := r1.out.cell 2
    go_wp2_with fail
    refine (PP.out _).mono ?_
    rintro e w2 ⟨rfl, hb⟩
    have r2 : Hid (RowIs w2 w.heap.size 24 #[.int .i64 k, .int .u64 n, .string b]) := r1.out.kept hb
    have hbW := hbW.trans (hb.mono hbW.size)
    clear hb
    clear d0 d1 d2
    go_wp2_with ((with_reducible refine at_load 24 (.tmp 3) ?_); refine wpList_load_own rfl 24 (.tmp 3) rfl _ rfl _ _ _ r2.out Try.underlying24 rfl info_rgram ?_)
    refine (PR.out _).mono ?_
    rintro e w3 ⟨rfl, hb⟩
    have r3 : Hid (RowIs w3 w.heap.size 24 #[.int .i64 k, .int .u64 n, .string b]) := r2.out.kept hb
    have hbW := hbW.trans (hb.mono hbW.size)
    clear hb
    go_upto_region 5 with fail
    go_cut [65] (fun v wx => v = .bool false ∧ w3 = wx)
    case first =>
      rcases HOK.out with ⟨rfl, rfl⟩ | ⟨rfl, rfl⟩
      all_goals
        go_wp2_with fail
        go_meet
        exact ⟨rfl, rfl⟩
    case rest =>
    obtain ⟨rfl, rfl⟩ := hcut
    go_wp2_with fail
    refine (QP.out _).mono ?_
    rintro e w4 ⟨rfl, hb⟩
    have r4 : Hid (RowIs w4 w.heap.size 24 #[.int .i64 k, .int .u64 n, .string b]) := r3.out.kept hb
    have hbW := hbW.trans (hb.mono hbW.size)
    clear hb
    go_wp2_with ((with_reducible refine at_store 29 (.tmp 11) (.tmp 69) ?_); refine wpList_store_own rfl 29 (.tmp 11) (.tmp 69) rfl w4.heap.size _ rfl rfl _ _ (rowIs_new _ _ _) info_gram rfl (by kernel_rfl) w4.heap.size (Nat.le_refl _) ?_)
    intro w5 p5 _ _ hb
    have hb := (show Below w4.heap.size w4 w5 from ((Below.refl _ _).alloc (Nat.le_refl _) _).trans hb)
    have p5 := Lib.hid p5
    have r5 : Hid (RowIs w5 w.heap.size 24 #[.int .i64 k, .int .u64 n, .string b]) := r4.out.kept hb
    have hbW := hbW.trans (hb.mono hbW.size)
    clear hb
    go_wp2_with fail
    refine (QR.out _).mono ?_
    rintro e w6 ⟨rfl, hb⟩
    have p6 : Hid (RowIs w6 w4.heap.size 29 #[.int .i64 k', .int .u64 n', .string b']) := p5.out.kept hb
    have r6 : Hid (RowIs w6 w.heap.size 24 #[.int .i64 k, .int .u64 n, .string b]) := r5.out.kept hb
    have hbW := hbW.trans (hb.mono hbW.size)
    clear hb
    go_wp2_with ((with_reducible refine at_store 24 (.tmp 13) (.tmp 74) ?_); refine wpList_store_own rfl 24 (.tmp 13) (.tmp 74) rfl w6.heap.size _ rfl rfl _ _ (rowIs_new _ _ _) info_rgram rfl (by kernel_rfl) w6.heap.size (Nat.le_refl _) ?_)
    intro w7 q7 _ _ hb
    have hb := (show Below w6.heap.size w6 w7 from ((Below.refl _ _).alloc (Nat.le_refl _) _).trans hb)
    have p7 : Hid (RowIs w7 w4.heap.size 29 #[.int .i64 k', .int .u64 n', .string b']) := p6.out.kept hb
    have q7 := Lib.hid q7
    have r7 : Hid (RowIs w7 w.heap.size 24 #[.int .i64 k, .int .u64 n, .string b]) := r6.out.kept hb
    have hbW := hbW.trans (hb.mono hbW.size)
    clear hb
    have f0 : w7.cell? ⟨w4.heap.size, 0, none⟩ = some (.int .i64 k') := p7.out.cell 0
    have f1 : w7.cell? ⟨w4.heap.size, 1, none⟩ = some (.int .u64 n') := p7.out.cell 1
    have f2 : w7.cell? ⟨w4.heap.size, 2, none⟩ = some (.string b') := p7.out.cell 2
    have g0 : w7.cell? ⟨w6.heap.size, 0, none⟩ = some (.int .i64 k') := q7.out.cell 0
    have g1 : w7.cell? ⟨w6.heap.size, 1, none⟩ = some (.int .u64 n') := q7.out.cell 1
    have g2 : w7.cell? ⟨w6.heap.size, 2, none⟩ = some (.string b') := q7.out.cell 2
    have hcase : s.size < 1 ∨ 1 ≤ s.size ∧ 1536 < s.size ∨ 1 ≤ s.size ∧ s.size ≤ 1536 := by omega
    rcases hcase with hc | ⟨hc1, hc⟩ | ⟨hc1, hc⟩
    · go_wp2_with fail
      go_ret
      exact ⟨rfl, hbW⟩
    · go_wp2_with fail
      go_ret
      exact ⟨rfl, hbW⟩
    · have HC := Lib.hid (HC.out hc1 hc)
      have HR := Lib.hid (HR.out hc1 hc)
      go_wp2_with fail
      refine (HC.out _).mono ?_
      rintro e w8 ⟨ao, cap, rfl, hA, hb⟩
      have hbW := hbW.trans (hb.mono hbW.size)
      have hA := Lib.hid hA
      clear hb f0 f1 f2 g0 g1 g2
      go_upto_region 14 with fail
      go_cut [17] (fun v wx => ∃ bo cap', v = .slice bo (Tun.count s.size) cap' ∧ Hid (Strs.At wx bo (Tun.pieces q s)) ∧ Hid (Below w8.heap.size w8 wx))
      case first =>
        go_wp2_with fail
        refine (HR.out _).mono ?_
        rintro e w9 ⟨bo, cap', rfl, hB, hb⟩
        have hB := Lib.hid hB
        have hb := Lib.hid hb
        go_wp2_with fail
        go_meet
        exact ⟨bo, cap', rfl, hB, hb⟩
      case rest =>
      obtain ⟨bo, cap', rfl, hB, hb⟩ := hcut
      generalize wc = w9 at *
      have hb := hb.out
      have hB := hB.out
      have hbW := hbW.trans (hb.mono hbW.size)
      have hA : Hid (Strs.At w9 ao (Tun.pieces q s)) := hA.out.later hb
      have hlen := Tun.pieces_length q s
      have hc3 : Tun.count s.size ≤ 3 := by unfold Tun.count; omega
      have hpos : 0 < (Tun.pieces q s).length := by rw [hlen]; unfold Tun.count; omega
      obtain ⟨g1, o1, rfl, hg1, hc1'⟩ := hA.out.some_of hpos
      obtain ⟨g2, o2, rfl, hg2, hc2'⟩ := hB.some_of hpos
      generalize Tun.pieces q s = ps at *
      generalize Tun.count s.size = c at *
      have C1 := Lib.hid hc1'
      have C2 := Lib.hid hc2'
      have HL := Lib.hid hlen
      clear hb hB hA hc1' hc2' hpos hlen
      go_wp2_with fail
      go_loopw [18] (fun i wr => ∃ j : Nat, j ≤ c ∧ i = .int .i64 j ∧ Below w9.heap.size w9 wr) (fun i _ => c - (intOf i).toNat)
      case atStart => exact ⟨0, Nat.zero_le _, rfl, Below.refl _ _⟩
      case round =>
        rename_i wr
        obtain ⟨j, hj, rfl, hbR⟩ := hrel
        by_cases hjc : j < c
        · have x1 := cell_of_below hbR (C1.out j (by rw [HL.out]; exact hjc))
          have x2 := cell_of_below hbR (C2.out j (by rw [HL.out]; exact hjc))
          generalize ps[j]'(by rw [HL.out]; exact hjc) = p at x1 x2
          go_upto_region 18 with fail
          go_quiet (fail)
          go_wp2_with fail
          exact ⟨⟨j + 1, by omega, by go_num, below_drewN hbR _⟩, by simp [intOf]; omega⟩
        · obtain rfl : j = c := by omega
          have hbW := hbW.trans (hbR.mono hbW.size)
          go_wp2_with fail
          refine (idle_any _).mono ?_
          rintro e w10 ⟨rfl, rfl⟩
          go_wp2_with fail
          go_ret
          exact ⟨rfl, hbW⟩

set_option maxHeartbeats 1000000 in
theorem tunPlays_walk (k : Int) (n : Int) (b s : ByteArray) (q : Int) (hq : (Lit.int .u32 q).wf = true) (w : World) (hk : -9223372036854775808 ≤ k ∧ k ≤ 9223372036854775807) (hn : 0 ≤ n ∧ n ≤ 18446744073709551615) :
    Calls Try.prog 4 #[.agg #[.int .i64 k, .int .u64 n, .string b], .string s, .int .u32 q] w fun e w' => e = .returned (.bool true) ∧ Below w.heap.size w w' := by
  simp only [Lit.wf, Bool.and_eq_true, decide_eq_true_eq] at hq
  have hq : 0 ≤ q ∧ q ≤ 4294967295 := hq
  obtain ⟨n, rfl⟩ := Int.eq_ofNat_of_zero_le hn.1
  obtain ⟨q, rfl⟩ := Int.eq_ofNat_of_zero_le hq.1
  by_cases h : 2000 < b.size ∨ b.size ≤ 2000 ∧ 2000 < s.size
  · clear hn hk hq
    rcases h with h | ⟨h1, h⟩
    all_goals
      go_enter Try.func4, Try.ntmps4
      go_wp2_with fail
      refine (awake_any _).mono ?_
      rintro e w1 ⟨rfl, hb⟩
      have hbW : Below w.heap.size w w1 := ((Below.refl _ _).alloc (Nat.le_refl _) _).trans (hb.mono (by simp))
      have d2 : w1.cell? ⟨w.heap.size, 2, none⟩ = some (.string b) := ((rowIs_new w _ _).kept hb).cell 2
      clear hb
      go_wp2_with fail
      refine (awake_any _).mono ?_
      rintro e w2 ⟨rfl, hb⟩
      have hbW := hbW.trans (hb.mono hbW.size)
      go_wp2_with fail
      go_ret
      exact ⟨rfl, hbW⟩
  · exact tunPlays_main k n b s q w (by omega) (by omega) (by omega) (by omega)
end Go.Proofs.Ytmipdbmmhoacpaa
