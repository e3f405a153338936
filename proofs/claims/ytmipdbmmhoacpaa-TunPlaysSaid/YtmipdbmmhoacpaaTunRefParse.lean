/- causeyref12.Parse: by definition. By an AI agent. -/
import Derived.Test.YtmipdbmmhoacpaaTunRefPrint
namespace Go.Proofs.Ytmipdbmmhoacpaa
open Go.RowKit Go.Sort Grow

theorem info_rgram : (Try.prog.info? 24).map (·.size) = some 3 := by kernel_rfl

set_option maxHeartbeats 1000000 in
theorem refParse_empty (s : ByteArray) (w : World) (h0 : s.size = 0) :
    Calls Try.prog 13 #[.string s] w fun e w' => e = .returned (.tuple #[.agg #[.int .i64 0, .int .u64 0, .string ⟨#[]⟩], .int .i64 2]) ∧ Below w.heap.size w w' := by
  skip
  · skip
    go_enter Try.func13, Try.ntmps13
    go_upto_region 1 with fail
    generalize hW : w.alloc _ = W
    have HR : Hid (RowIs W w.heap.size 24 #[.int .i64 0, .int .u64 0, .string ⟨#[]⟩]) := by show RowIs W w.heap.size 24 #[.int .i64 0, .int .u64 0, .string ⟨#[]⟩]; rw [← hW]; exact rowIs_new w _ _
    have hbW : Below w.heap.size w W := by rw [← hW]; exact (Below.refl _ _).alloc (Nat.le_refl _) _
    clear hW
    go_wp2_with ((with_reducible refine at_store 24 (.tmp 2) (.tmp 10) ?_); refine wpList_store_own rfl 24 (.tmp 2) (.tmp 10) rfl w.heap.size _ rfl rfl _ _ HR.out info_rgram rfl (by kernel_rfl) w.heap.size (Nat.le_refl _) ?_)
    intro w1 r1 _ _ hb1
    have R1 := Lib.hid r1
    clear r1
    go_wp2_with fail
    refine bodyPost_ret (results_row_tmp1 Try.results13 _ _ w.heap.size _ _ _ rfl R1.out Try.underlying24 rfl info_rgram) rfl ?_
    exact ⟨rfl, hbW.trans hb1⟩

set_option maxHeartbeats 1000000 in
theorem refParse_kind (s : ByteArray) (w : World) (h0 : 0 < s.size) (hk : s[0].toNat < 1 ∨ 1 ≤ s[0].toNat ∧ 3 < s[0].toNat) :
    Calls Try.prog 13 #[.string s] w fun e w' => e = .returned (.tuple #[.agg #[.int .i64 0, .int .u64 0, .string ⟨#[]⟩], .int .i64 3]) ∧ Below w.heap.size w w' := by
  have hb := (s[0]'(by omega)).toNat_lt
  rcases hk with hk | ⟨hk1, hk2⟩
  all_goals
    go_enter Try.func13, Try.ntmps13
    go_upto_region 1 with fail
    generalize hW : w.alloc _ = W
    have HR : Hid (RowIs W w.heap.size 24 #[.int .i64 0, .int .u64 0, .string ⟨#[]⟩]) := by show RowIs W w.heap.size 24 #[.int .i64 0, .int .u64 0, .string ⟨#[]⟩]; rw [← hW]; exact rowIs_new w _ _
    have hbW : Below w.heap.size w W := by rw [← hW]; exact (Below.refl _ _).alloc (Nat.le_refl _) _
    clear hW
    go_wp2_with ((with_reducible refine at_store 24 (.tmp 2) (.tmp 20) ?_); refine wpList_store_own rfl 24 (.tmp 2) (.tmp 20) rfl w.heap.size _ rfl rfl _ _ HR.out info_rgram rfl (by kernel_rfl) w.heap.size (Nat.le_refl _) ?_)
    intro w1 r1 _ _ hb1
    have R1 := Lib.hid r1
    clear r1
    go_wp2_with fail
    refine bodyPost_ret (results_row_tmp1 Try.results13 _ _ w.heap.size _ _ _ rfl R1.out Try.underlying24 rfl info_rgram) rfl ?_
    exact ⟨rfl, hbW.trans hb1⟩

set_option maxHeartbeats 1000000 in
theorem refParse_short3 (s : ByteArray) (m : Nat) (w : World) (hs : s.size = m + 1) (hk : s[0].toNat = 3) (hm : m < 24) :
    Calls Try.prog 13 #[.string s] w fun e w' => e = .returned (.tuple #[.agg #[.int .i64 0, .int .u64 0, .string ⟨#[]⟩], .int .i64 2]) ∧ Below w.heap.size w w' := by
  have hb := (s[0]'(by omega)).toNat_lt
  skip
  · skip
    go_enter Try.func13, Try.ntmps13
    go_upto_region 1 with fail
    generalize hW : w.alloc _ = W
    have HR : Hid (RowIs W w.heap.size 24 #[.int .i64 0, .int .u64 0, .string ⟨#[]⟩]) := by show RowIs W w.heap.size 24 #[.int .i64 0, .int .u64 0, .string ⟨#[]⟩]; rw [← hW]; exact rowIs_new w _ _
    have hbW : Below w.heap.size w W := by rw [← hW]; exact (Below.refl _ _).alloc (Nat.le_refl _) _
    clear hW
    go_wp2_with ((with_reducible refine at_store 24 (.tmp 2) (.tmp 26) ?_); refine wpList_store_own rfl 24 (.tmp 2) (.tmp 26) rfl w.heap.size _ rfl rfl _ _ HR.out info_rgram rfl (by kernel_rfl) w.heap.size (Nat.le_refl _) ?_)
    intro w1 r1 _ _ hb1
    have R1 := Lib.hid r1
    clear r1
    go_wp2_with fail
    refine bodyPost_ret (results_row_tmp1 Try.results13 _ _ w.heap.size _ _ _ rfl R1.out Try.underlying24 rfl info_rgram) rfl ?_
    exact ⟨rfl, hbW.trans hb1⟩

set_option maxHeartbeats 1000000 in
theorem refParse_short (s : ByteArray) (m : Nat) (w : World) (hs : s.size = m + 1) (hk : s[0].toNat = 1 ∨ s[0].toNat = 2) (hm : m < 48) :
    Calls Try.prog 13 #[.string s] w fun e w' => e = .returned (.tuple #[.agg #[.int .i64 0, .int .u64 0, .string ⟨#[]⟩], .int .i64 2]) ∧ Below w.heap.size w w' := by
  have hb := (s[0]'(by omega)).toNat_lt
  rcases hk with hk | hk
  all_goals
    go_enter Try.func13, Try.ntmps13
    go_upto_region 1 with fail
    generalize hW : w.alloc _ = W
    have HR : Hid (RowIs W w.heap.size 24 #[.int .i64 0, .int .u64 0, .string ⟨#[]⟩]) := by show RowIs W w.heap.size 24 #[.int .i64 0, .int .u64 0, .string ⟨#[]⟩]; rw [← hW]; exact rowIs_new w _ _
    have hbW : Below w.heap.size w W := by rw [← hW]; exact (Below.refl _ _).alloc (Nat.le_refl _) _
    clear hW
    go_wp2_with ((with_reducible refine at_store 24 (.tmp 2) (.tmp 45) ?_); refine wpList_store_own rfl 24 (.tmp 2) (.tmp 45) rfl w.heap.size _ rfl rfl _ _ HR.out info_rgram rfl (by kernel_rfl) w.heap.size (Nat.le_refl _) ?_)
    intro w1 r1 _ _ hb1
    have R1 := Lib.hid r1
    clear r1
    go_wp2_with fail
    refine bodyPost_ret (results_row_tmp1 Try.results13 _ _ w.heap.size _ _ _ rfl R1.out Try.underlying24 rfl info_rgram) rfl ?_
    exact ⟨rfl, hbW.trans hb1⟩

set_option maxHeartbeats 1000000 in
theorem refParse_long (s : ByteArray) (m : Nat) (w : World) (hs : s.size = m + 1) (h48 : 48 < m) (hk : s[0].toNat = 1 ∨ s[0].toNat = 2) :
    Calls Try.prog 13 #[.string s] w fun e w' => e = .returned (.tuple #[.agg #[.int .i64 0, .int .u64 0, .string ⟨#[]⟩], .int .i64 3]) ∧ Below w.heap.size w w' := by
  have hb := (s[0]'(by omega)).toNat_lt
  rcases hk with hk | hk
  all_goals
    go_enter Try.func13, Try.ntmps13
    go_upto_region 1 with fail
    generalize hW : w.alloc _ = W
    have HR : Hid (RowIs W w.heap.size 24 #[.int .i64 0, .int .u64 0, .string ⟨#[]⟩]) := by show RowIs W w.heap.size 24 #[.int .i64 0, .int .u64 0, .string ⟨#[]⟩]; rw [← hW]; exact rowIs_new w _ _
    have hbW : Below w.heap.size w W := by rw [← hW]; exact (Below.refl _ _).alloc (Nat.le_refl _) _
    clear hW
    go_wp2_with ((with_reducible refine at_store 24 (.tmp 2) (.tmp 49) ?_); refine wpList_store_own rfl 24 (.tmp 2) (.tmp 49) rfl w.heap.size _ rfl rfl _ _ HR.out info_rgram rfl (by kernel_rfl) w.heap.size (Nat.le_refl _) ?_)
    intro w1 r1 _ _ hb1
    have R1 := Lib.hid r1
    clear r1
    go_wp2_with fail
    refine bodyPost_ret (results_row_tmp1 Try.results13 _ _ w.heap.size _ _ _ rfl R1.out Try.underlying24 rfl info_rgram) rfl ?_
    exact ⟨rfl, hbW.trans hb1⟩

set_option maxHeartbeats 1000000 in
theorem refParse_greet (s : ByteArray) (k : Nat) (w : World) (hs : s.size = 49) (hk : s[0].toNat = k) (hk2 : k = 1 ∨ k = 2) :
    Calls Try.prog 13 #[.string s] w fun e w' => e = .returned (.tuple #[.agg #[.int .i64 k, .int .u64 0, .string (s.extract 1 49)], .int .i64 0]) ∧ Below w.heap.size w w' := by
  have hb := (s[0]'(by omega)).toNat_lt
  rcases hk2 with rfl | rfl
  all_goals
    go_enter Try.func13, Try.ntmps13
    go_upto_region 1 with fail
    generalize hW : w.alloc _ = W
    have HR : Hid (RowIs W w.heap.size 24 #[.int .i64 0, .int .u64 0, .string ⟨#[]⟩]) := by show RowIs W w.heap.size 24 #[.int .i64 0, .int .u64 0, .string ⟨#[]⟩]; rw [← hW]; exact rowIs_new w _ _
    have hbW : Below w.heap.size w W := by rw [← hW]; exact (Below.refl _ _).alloc (Nat.le_refl _) _
    clear hW
    go_wp2_with ((with_reducible refine at_store 24 (.tmp 2) (.tmp 53) ?_); refine wpList_store_own rfl 24 (.tmp 2) (.tmp 53) rfl w.heap.size _ rfl rfl _ _ HR.out info_rgram rfl (by kernel_rfl) w.heap.size (Nat.le_refl _) ?_)
    intro w1 r1 _ _ hb1
    have R1 := Lib.hid r1
    clear r1
    go_wp2_with fail
    refine bodyPost_ret (results_row_tmp1 Try.results13 _ _ w.heap.size _ _ _ rfl R1.out Try.underlying24 rfl info_rgram) rfl ?_
    exact ⟨rfl, hbW.trans hb1⟩

theorem Tun.num_step (s : ByteArray) (k : Nat) (h : k + 1 < s.size) : Oct.num ((s.data.toList.drop 1).take (k + 1)) = 256 * Oct.num ((s.data.toList.drop 1).take k) + s[k + 1].toNat := by
  have hl : k < (s.data.toList.drop 1).length := by simp; omega
  rw [List.take_succ_eq_append_getElem hl, Oct.num_snoc]
  congr 1
  simp
  rfl

set_option maxRecDepth 100000 in
set_option maxHeartbeats 1000000 in
theorem refParse_sealed (s : ByteArray) (m : Nat) (w : World) (hs : s.size = m + 1) (h24 : 24 ≤ m) (hk : s[0].toNat = 3) :
    Calls Try.prog 13 #[.string s] w fun e w' => e = .returned (.tuple #[.agg #[.int .i64 3, .int .u64 (Oct.num ((s.data.toList.drop 1).take 8)), .string (s.extract 9 (m + 1))], .int .i64 0]) ∧ Below w.heap.size w w' := by
  have hb := (s[0]'(by omega)).toNat_lt
  have h9 : (((m : Int) + 1) == 0) = false := beq_eq_false_iff_ne.2 (by omega)
  generalize hN : Oct.num ((s.data.toList.drop 1).take 8) = N
  have HN := Lib.hid hN
  clear hN
  go_enter Try.func13, Try.ntmps13
  go_upto_region 1 with fail
  generalize hW : w.alloc _ = W
  have HR : Hid (RowIs W w.heap.size 24 #[.int .i64 0, .int .u64 0, .string ⟨#[]⟩]) := by show RowIs W w.heap.size 24 #[.int .i64 0, .int .u64 0, .string ⟨#[]⟩]; rw [← hW]; exact rowIs_new w _ _
  have hbW : Below w.heap.size w W := by rw [← hW]; exact (Below.refl _ _).alloc (Nat.le_refl _) _
  clear hW
  go_wp2_with fail
  go_loop [5, 6] (fun v i => ∃ j q : Nat, j ≤ 8 ∧ Hid (q < 256 ^ j) ∧ Hid (q = Oct.num ((s.data.toList.drop 1).take j)) ∧ i = .int .i64 ((j : Int) + 1) ∧ v = .int .u64 q) (fun _ i => 9 - (intOf i).toNat)
  case atStart => exact ⟨0, 0, Nat.zero_le _, by show (0 : Nat) < 256 ^ 0; decide, rfl, by simp, rfl⟩
  case round =>
    obtain ⟨j, q, hj, hq, hqe, rfl, rfl⟩ := hrel
    by_cases hlt : j < 8
    · have hb1 := s[j + 1].toNat_lt
      have HT := Lib.hid (Tun.num_step s j (by omega))
      have hq7 : q < 72057594037927936 := by
        have h2 : 256 ^ j ≤ 256 ^ 7 := Nat.pow_le_pow_right (by decide) (by omega)
        have h3 : 256 ^ 7 = 72057594037927936 := by decide
        have := hq.out
        omega
      go_wp2_with fail
      refine ⟨⟨j + 1, 256 * q + s[j + 1].toNat, by omega, ?_, ?_, by go_num, by go_num⟩, by simp [intOf]; omega⟩
      · show _ < _
        have := hq.out
        rw [Nat.pow_succ]
        omega
      · show _ = _
        rw [HT.out, hqe.out]
    · obtain rfl : j = 8 := by omega
      obtain rfl : q = N := hqe.out.trans HN.out
      clear hqe hq HN
      go_wp2_with ((with_reducible refine at_store 24 (.tmp 2) (.tmp 41) ?_); refine wpList_store_own rfl 24 (.tmp 2) (.tmp 41) rfl w.heap.size _ rfl rfl _ _ HR.out info_rgram rfl (by kernel_rfl) w.heap.size (Nat.le_refl _) ?_)
      intro w1 r1 _ _ hb1
      have R1 := Lib.hid r1
      clear r1
      go_wp2_with fail
      refine bodyPost_ret (results_row_tmp1 Try.results13 _ _ w.heap.size _ _ _ rfl R1.out Try.underlying24 rfl info_rgram) rfl ?_
      exact ⟨rfl, hbW.trans hb1⟩

def Tun.RefParseIs (s : ByteArray) (k : Int) (n : Nat) (b : ByteArray) (e : Int) : Prop := ∀ w, Calls Try.prog 13 #[.string s] w fun x w' => x = .returned (.tuple #[Tun.gram k n b, .int .i64 e]) ∧ Below w.heap.size w w'

theorem Tun.parse_both (s : ByteArray) (hs : s.size ≤ 2000) : ∃ (k : Int) (n : Nat) (b : ByteArray) (e : Int), Tun.ParseIs s k n b e ∧ Tun.RefParseIs s k n b e := by
  rcases Nat.eq_zero_or_pos s.size with h0 | h0
  · obtain rfl : s = ⟨#[]⟩ := ByteArray.ext (Array.size_eq_zero_iff.1 h0)
    exact ⟨0, 0, ⟨#[]⟩, 2, fun w => parse_empty w, fun w => refParse_empty _ w rfl⟩
  obtain ⟨m, hm⟩ : ∃ m, s.size = m + 1 := ⟨s.size - 1, by omega⟩
  by_cases hk : s[0].toNat < 1 ∨ 1 ≤ s[0].toNat ∧ 3 < s[0].toNat
  · exact ⟨0, 0, ⟨#[]⟩, 3, fun w => parse_kind s w h0 hk, fun w => refParse_kind s w h0 hk⟩
  by_cases h3 : s[0].toNat = 3
  · by_cases h24 : m < 24
    · exact ⟨0, 0, ⟨#[]⟩, 2, fun w => parse_short s m w hm (.inl ⟨h3, h24⟩), fun w => refParse_short3 s m w hm h3 h24⟩
    · have hp := fun w => parse_sealed s m w hm (by omega) (by omega) h3
      have hq := fun w => refParse_sealed s m w hm (by omega) h3
      have e1 : ((s.extract 1 (m + 1)).extract 0 8).data.toList = (s.data.toList.drop 1).take 8 := by
        rw [Oct.ext_toList, Oct.ext_toList, List.drop_zero, List.take_of_length_le (show (List.drop 1 s.data.toList).length ≤ m + 1 - 1 by simp; omega)]
      have e2 : (s.extract 1 (m + 1)).extract 8 m = s.extract 9 (m + 1) := by
        apply bytes_eq
        rw [Oct.ext_toList, Oct.ext_toList, Oct.ext_toList, List.take_of_length_le (show (List.drop 1 s.data.toList).length ≤ m + 1 - 1 by simp; omega), List.drop_drop, show m + 1 - 9 = m - 8 by omega]
      rw [e1, e2] at hp
      exact ⟨_, _, _, _, hp, hq⟩
  · have hk2 : s[0].toNat = 1 ∨ s[0].toNat = 2 := by omega
    by_cases h48 : m < 48
    · exact ⟨0, 0, ⟨#[]⟩, 2, fun w => parse_short s m w hm (by omega), fun w => refParse_short s m w hm hk2 h48⟩
    · by_cases h49 : m = 48
      · subst h49
        exact ⟨_, 0, _, 0, fun w => parse_greet s s[0].toNat w hm rfl hk2, fun w => refParse_greet s s[0].toNat w hm rfl hk2⟩
      · exact ⟨0, 0, ⟨#[]⟩, 3, fun w => parse_long s m w hm (by omega) (by omega) hk2, fun w => refParse_long s m w hm (by omega) hk2⟩
end Go.Proofs.Ytmipdbmmhoacpaa
