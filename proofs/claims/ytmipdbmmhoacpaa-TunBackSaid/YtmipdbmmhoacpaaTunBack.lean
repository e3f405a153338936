/- The walk of TunBack. By an AI agent. -/
import Derived.Test.YtmipdbmmhoacpaaTunLaw
import Derived.Test.YtmipdbmmhoacpaaTunAwake
namespace Go.Proofs.Ytmipdbmmhoacpaa
open Go.RowKit Go.Sort Grow

set_option maxRecDepth 20000 in
set_option maxHeartbeats 4000000 in
theorem tunBack_main (k : Int) (n : Nat) (b s : ByteArray) (w : World) (hb2 : b.size ≤ 2000) (hs2 : s.size ≤ 2000) (hn : n < 18446744073709551616) :
    Calls Try.prog 3 #[Tun.gram k n b, .string s] w fun e w' => e = .returned (.bool true) ∧ Below w.heap.size w w' := by
  have PC := Tun.print_cases k n b hn hb2
  have QC := Tun.parse_cases s hs2
  rcases PC with ⟨t, PP, PT⟩ | PP <;> rcases QC with ⟨k', n', b', QP, QT⟩ | ⟨e', he, QP⟩
  · have PP := Lib.hid PP
    have QP := Lib.hid QP
    have PT := Lib.hid PT
    have QT := Lib.hid QT
    go_enter Try.func3, Try.ntmps3
    go_wp2_with fail
    refine (awake_any _).mono ?_
    rintro e w1 ⟨rfl, hb⟩
    have r1 : Hid (RowIs w1 w.heap.size 24 #[.int .i64 k, .int .u64 n, .string b]) := (rowIs_new w _ _).kept hb
    have hbW : Below w.heap.size w w1 := ((Below.refl _ _).alloc (Nat.le_refl _) _).trans (hb.mono (by simp))
    have hsz1 : w.heap.size < w1.heap.size := r1.out.lt
    have d0 : w1.cell? ⟨w.heap.size, 0, none⟩ = some (.int .i64 k) := r1.out.cell 0
    have d1 : w1.cell? ⟨w.heap.size, 1, none⟩ = some (.int .u64 n) := r1.out.cell 1
    have d2 : w1.cell? ⟨w.heap.size, 2, none⟩ = some (.string b) := r1.out.cell 2
    clear hb
    go_wp2_with fail
    refine (PP.out _).mono ?_
    rintro e w2 ⟨rfl, hb⟩
    have r2 : Hid (RowIs w2 w.heap.size 24 #[.int .i64 k, .int .u64 n, .string b]) := r1.out.kept hb
    have hbW := hbW.trans (hb.mono hbW.size)
    clear hb d0 d1 d2
    go_wp2_with fail
    refine (PT.out _).mono ?_
    rintro e w3 ⟨rfl, hb⟩
    have r3 : Hid (RowIs w3 w.heap.size 24 #[.int .i64 k, .int .u64 n, .string b]) := r2.out.kept hb
    have hbW := hbW.trans (hb.mono hbW.size)
    clear hb
    go_wp2_with ((with_reducible refine at_store 29 (.tmp 7) (.tmp 43) ?_); refine wpList_store_own rfl 29 (.tmp 7) (.tmp 43) rfl w3.heap.size _ rfl rfl _ _ (rowIs_new _ _ _) info_gram rfl (by kernel_rfl) w3.heap.size (Nat.le_refl _) ?_)
    intro w4 q4 _ _ hb
    have hb := (show Below w3.heap.size w3 w4 from ((Below.refl _ _).alloc (Nat.le_refl _) _).trans hb)
    have r4 : Hid (RowIs w4 w.heap.size 24 #[.int .i64 k, .int .u64 n, .string b]) := r3.out.kept hb
    have q4 := Lib.hid q4
    have hbW := hbW.trans (hb.mono hbW.size)
    clear hb
    have d0 : w4.cell? ⟨w.heap.size, 0, none⟩ = some (.int .i64 k) := r4.out.cell 0
    have d1 : w4.cell? ⟨w.heap.size, 1, none⟩ = some (.int .u64 n) := r4.out.cell 1
    have d2 : w4.cell? ⟨w.heap.size, 2, none⟩ = some (.string b) := r4.out.cell 2
    have f0 : w4.cell? ⟨w3.heap.size, 0, none⟩ = some (.int .i64 k) := q4.out.cell 0
    have f1 : w4.cell? ⟨w3.heap.size, 1, none⟩ = some (.int .u64 n) := q4.out.cell 1
    have f2 : w4.cell? ⟨w3.heap.size, 2, none⟩ = some (.string b) := q4.out.cell 2
    go_wp2_with fail
    refine (QP.out _).mono ?_
    rintro e w5 ⟨rfl, hb⟩
    have hbW := hbW.trans (hb.mono hbW.size)
    clear hb d0 d1 d2 f0 f1 f2
    go_wp2_with ((with_reducible refine at_store 29 (.tmp 9) (.tmp 73) ?_); refine wpList_store_own rfl 29 (.tmp 9) (.tmp 73) rfl w5.heap.size _ rfl rfl _ _ (rowIs_new _ _ _) info_gram rfl (by kernel_rfl) w5.heap.size (Nat.le_refl _) ?_)
    intro w6 q6 _ _ hb
    have hb := (show Below w5.heap.size w5 w6 from ((Below.refl _ _).alloc (Nat.le_refl _) _).trans hb)
    have q6 := Lib.hid q6
    have hbW := hbW.trans (hb.mono hbW.size)
    clear hb
    go_wp2_with (((with_reducible refine at_load 29 (.tmp 9) ?_); refine wpList_load_own rfl 29 (.tmp 9) rfl _ rfl _ _ _ q6.out Try.underlying29 rfl info_gram ?_))
    refine (QT.out _).mono ?_
    rintro e w7 ⟨rfl, hb⟩
    have hbW := hbW.trans (hb.mono hbW.size)
    clear hb
    go_wp2_with fail
    go_ret
    exact ⟨rfl, hbW⟩
  · have PP := Lib.hid PP
    have QP := Lib.hid QP
    have PT := Lib.hid PT
    rcases he with rfl | rfl
    all_goals
      go_enter Try.func3, Try.ntmps3
      go_wp2_with fail
      refine (awake_any _).mono ?_
      rintro e w1 ⟨rfl, hb⟩
      have r1 : Hid (RowIs w1 w.heap.size 24 #[.int .i64 k, .int .u64 n, .string b]) := (rowIs_new w _ _).kept hb
      have hbW : Below w.heap.size w w1 := ((Below.refl _ _).alloc (Nat.le_refl _) _).trans (hb.mono (by simp))
      have hsz1 : w.heap.size < w1.heap.size := r1.out.lt
      have d0 : w1.cell? ⟨w.heap.size, 0, none⟩ = some (.int .i64 k) := r1.out.cell 0
      have d1 : w1.cell? ⟨w.heap.size, 1, none⟩ = some (.int .u64 n) := r1.out.cell 1
      have d2 : w1.cell? ⟨w.heap.size, 2, none⟩ = some (.string b) := r1.out.cell 2
      clear hb
      go_wp2_with fail
      refine (PP.out _).mono ?_
      rintro e w2 ⟨rfl, hb⟩
      have r2 : Hid (RowIs w2 w.heap.size 24 #[.int .i64 k, .int .u64 n, .string b]) := r1.out.kept hb
      have hbW := hbW.trans (hb.mono hbW.size)
      clear hb d0 d1 d2
      go_wp2_with fail
      refine (PT.out _).mono ?_
      rintro e w3 ⟨rfl, hb⟩
      have r3 : Hid (RowIs w3 w.heap.size 24 #[.int .i64 k, .int .u64 n, .string b]) := r2.out.kept hb
      have hbW := hbW.trans (hb.mono hbW.size)
      clear hb
      go_wp2_with ((with_reducible refine at_store 29 (.tmp 7) (.tmp 43) ?_); refine wpList_store_own rfl 29 (.tmp 7) (.tmp 43) rfl w3.heap.size _ rfl rfl _ _ (rowIs_new _ _ _) info_gram rfl (by kernel_rfl) w3.heap.size (Nat.le_refl _) ?_)
      intro w4 q4 _ _ hb
      have hb := (show Below w3.heap.size w3 w4 from ((Below.refl _ _).alloc (Nat.le_refl _) _).trans hb)
      have r4 : Hid (RowIs w4 w.heap.size 24 #[.int .i64 k, .int .u64 n, .string b]) := r3.out.kept hb
      have q4 := Lib.hid q4
      have hbW := hbW.trans (hb.mono hbW.size)
      clear hb
      have d0 : w4.cell? ⟨w.heap.size, 0, none⟩ = some (.int .i64 k) := r4.out.cell 0
      have d1 : w4.cell? ⟨w.heap.size, 1, none⟩ = some (.int .u64 n) := r4.out.cell 1
      have d2 : w4.cell? ⟨w.heap.size, 2, none⟩ = some (.string b) := r4.out.cell 2
      have f0 : w4.cell? ⟨w3.heap.size, 0, none⟩ = some (.int .i64 k) := q4.out.cell 0
      have f1 : w4.cell? ⟨w3.heap.size, 1, none⟩ = some (.int .u64 n) := q4.out.cell 1
      have f2 : w4.cell? ⟨w3.heap.size, 2, none⟩ = some (.string b) := q4.out.cell 2
      go_wp2_with fail
      refine (QP.out _).mono ?_
      rintro e w5 ⟨rfl, hb⟩
      have hbW := hbW.trans (hb.mono hbW.size)
      clear hb d0 d1 d2 f0 f1 f2
      go_wp2_with ((with_reducible refine at_store 29 (.tmp 9) (.tmp 73) ?_); refine wpList_store_own rfl 29 (.tmp 9) (.tmp 73) rfl w5.heap.size _ rfl rfl _ _ (rowIs_new _ _ _) info_gram rfl (by kernel_rfl) w5.heap.size (Nat.le_refl _) ?_)
      intro w6 q6 _ _ hb
      have hb := (show Below w5.heap.size w5 w6 from ((Below.refl _ _).alloc (Nat.le_refl _) _).trans hb)
      have q6 := Lib.hid q6
      have hbW := hbW.trans (hb.mono hbW.size)
      clear hb
      go_wp2_with (((with_reducible refine at_load 29 (.tmp 9) ?_); refine wpList_load_own rfl 29 (.tmp 9) rfl _ rfl _ _ _ q6.out Try.underlying29 rfl info_gram ?_))
      go_ret
      exact ⟨rfl, hbW⟩
  · have PP := Lib.hid PP
    have QP := Lib.hid QP
    have QT := Lib.hid QT
    go_enter Try.func3, Try.ntmps3
    go_wp2_with fail
    refine (awake_any _).mono ?_
    rintro e w1 ⟨rfl, hb⟩
    have r1 : Hid (RowIs w1 w.heap.size 24 #[.int .i64 k, .int .u64 n, .string b]) := (rowIs_new w _ _).kept hb
    have hbW : Below w.heap.size w w1 := ((Below.refl _ _).alloc (Nat.le_refl _) _).trans (hb.mono (by simp))
    have hsz1 : w.heap.size < w1.heap.size := r1.out.lt
    have d0 : w1.cell? ⟨w.heap.size, 0, none⟩ = some (.int .i64 k) := r1.out.cell 0
    have d1 : w1.cell? ⟨w.heap.size, 1, none⟩ = some (.int .u64 n) := r1.out.cell 1
    have d2 : w1.cell? ⟨w.heap.size, 2, none⟩ = some (.string b) := r1.out.cell 2
    clear hb
    go_wp2_with fail
    refine (PP.out _).mono ?_
    rintro e w2 ⟨rfl, hb⟩
    have r2 : Hid (RowIs w2 w.heap.size 24 #[.int .i64 k, .int .u64 n, .string b]) := r1.out.kept hb
    have hbW := hbW.trans (hb.mono hbW.size)
    clear hb d0 d1 d2
    go_wp2_with fail
    refine (QP.out _).mono ?_
    rintro e w5 ⟨rfl, hb⟩
    have hbW := hbW.trans (hb.mono hbW.size)
    clear hb
    go_wp2_with ((with_reducible refine at_store 29 (.tmp 9) (.tmp 73) ?_); refine wpList_store_own rfl 29 (.tmp 9) (.tmp 73) rfl w5.heap.size _ rfl rfl _ _ (rowIs_new _ _ _) info_gram rfl (by kernel_rfl) w5.heap.size (Nat.le_refl _) ?_)
    intro w6 q6 _ _ hb
    have hb := (show Below w5.heap.size w5 w6 from ((Below.refl _ _).alloc (Nat.le_refl _) _).trans hb)
    have q6 := Lib.hid q6
    have hbW := hbW.trans (hb.mono hbW.size)
    clear hb
    go_wp2_with (((with_reducible refine at_load 29 (.tmp 9) ?_); refine wpList_load_own rfl 29 (.tmp 9) rfl _ rfl _ _ _ q6.out Try.underlying29 rfl info_gram ?_))
    refine (QT.out _).mono ?_
    rintro e w7 ⟨rfl, hb⟩
    have hbW := hbW.trans (hb.mono hbW.size)
    clear hb
    go_wp2_with fail
    go_ret
    exact ⟨rfl, hbW⟩
  · have PP := Lib.hid PP
    have QP := Lib.hid QP
    rcases he with rfl | rfl
    all_goals
      go_enter Try.func3, Try.ntmps3
      go_wp2_with fail
      refine (awake_any _).mono ?_
      rintro e w1 ⟨rfl, hb⟩
      have r1 : Hid (RowIs w1 w.heap.size 24 #[.int .i64 k, .int .u64 n, .string b]) := (rowIs_new w _ _).kept hb
      have hbW : Below w.heap.size w w1 := ((Below.refl _ _).alloc (Nat.le_refl _) _).trans (hb.mono (by simp))
      have hsz1 : w.heap.size < w1.heap.size := r1.out.lt
      have d0 : w1.cell? ⟨w.heap.size, 0, none⟩ = some (.int .i64 k) := r1.out.cell 0
      have d1 : w1.cell? ⟨w.heap.size, 1, none⟩ = some (.int .u64 n) := r1.out.cell 1
      have d2 : w1.cell? ⟨w.heap.size, 2, none⟩ = some (.string b) := r1.out.cell 2
      clear hb
      go_wp2_with fail
      refine (PP.out _).mono ?_
      rintro e w2 ⟨rfl, hb⟩
      have r2 : Hid (RowIs w2 w.heap.size 24 #[.int .i64 k, .int .u64 n, .string b]) := r1.out.kept hb
      have hbW := hbW.trans (hb.mono hbW.size)
      clear hb d0 d1 d2
      go_wp2_with fail
      refine (QP.out _).mono ?_
      rintro e w5 ⟨rfl, hb⟩
      have hbW := hbW.trans (hb.mono hbW.size)
      clear hb
      go_wp2_with ((with_reducible refine at_store 29 (.tmp 9) (.tmp 73) ?_); refine wpList_store_own rfl 29 (.tmp 9) (.tmp 73) rfl w5.heap.size _ rfl rfl _ _ (rowIs_new _ _ _) info_gram rfl (by kernel_rfl) w5.heap.size (Nat.le_refl _) ?_)
      intro w6 q6 _ _ hb
      have hb := (show Below w5.heap.size w5 w6 from ((Below.refl _ _).alloc (Nat.le_refl _) _).trans hb)
      have q6 := Lib.hid q6
      have hbW := hbW.trans (hb.mono hbW.size)
      clear hb
      go_wp2_with (((with_reducible refine at_load 29 (.tmp 9) ?_); refine wpList_load_own rfl 29 (.tmp 9) rfl _ rfl _ _ _ q6.out Try.underlying29 rfl info_gram ?_))
      go_ret
      exact ⟨rfl, hbW⟩

set_option maxHeartbeats 1000000 in
theorem tunBack_walk (k : Int) (n : Int) (b s : ByteArray) (w : World) (hk : -9223372036854775808 ≤ k ∧ k ≤ 9223372036854775807) (hn : 0 ≤ n ∧ n ≤ 18446744073709551615) :
    Calls Try.prog 3 #[.agg #[.int .i64 k, .int .u64 n, .string b], .string s] w fun e w' => e = .returned (.bool true) ∧ Below w.heap.size w w' := by
  obtain ⟨n, rfl⟩ := Int.eq_ofNat_of_zero_le hn.1
  by_cases h : 2000 < b.size ∨ b.size ≤ 2000 ∧ 2000 < s.size
  · clear hn hk
    rcases h with h | ⟨h1, h⟩
    all_goals
      go_enter Try.func3, Try.ntmps3
      go_wp2_with fail
      refine (awake_any _).mono ?_
      rintro e w1 ⟨rfl, hb⟩
      have hbW : Below w.heap.size w w1 := ((Below.refl _ _).alloc (Nat.le_refl _) _).trans (hb.mono (by simp))
      have d2 : w1.cell? ⟨w.heap.size, 2, none⟩ = some (.string b) := ((rowIs_new w _ _).kept hb).cell 2
      clear hb
      go_wp2_with fail
      refine (awake_any _).mono ?_
      rintro e w2 ⟨rfl, hb⟩
      have hbW := hbW.trans (hb.mono hbW.size)
      go_wp2_with fail
      go_ret
      exact ⟨rfl, hbW⟩
  · exact tunBack_main k n b s w (by omega) (by omega) (by omega)
end Go.Proofs.Ytmipdbmmhoacpaa
