/- The walk of BpduOnly. By an AI agent. -/
import Derived.Test.YtkbnkacmmjabkaaBpduNo
import Derived.Test.YtkbnkacmmjabkaaArrays
namespace Go.Proofs.Ytkbnkacmmjabkaa
open Go.RowKit Go.Sort Grow

theorem eq_zero_ids : ∀ w, (Op.equalIn 9999 23 (.agg #[.int .u8 0, .int .u8 0, .int .u8 0, .int .u8 0, .int .u8 0, .int .u8 0, .int .u8 0, .int .u8 0]) (.agg #[.int .u8 0, .int .u8 0, .int .u8 0, .int .u8 0, .int .u8 0, .int .u8 0, .int .u8 0, .int .u8 0])).run Try.prog w = .ok true w := by
  have h := run_equalIn_id 9997 (fun _ => 0) (fun _ => 0)
  rw [show eqB [0, 0, 0, 0, 0, 0, 0, 0] [0, 0, 0, 0, 0, 0, 0, 0] = true from eqB_true.2 rfl] at h
  exact h

theorem str_ne {s : ByteArray} {l : List UInt8} (h : (s.extract 0 7).data.toList ≠ l) : ((s.extract 0 7).toList == l) = false := by
  rw [Lib.toList_data]
  simpa using h

/-- what a word of 38 bytes is parsed as, and what is printed of that -/
theorem parse_split (s : ByteArray) (x : Nat → UInt8) (rest : List UInt8) (hs : s.data.toList = x 0 :: x 1 :: x 2 :: x 3 :: x 4 :: x 5 :: x 6 :: x 7 :: x 8 :: x 9 :: x 10 :: x 11 :: x 12 :: x 13 :: x 14 :: x 15 :: x 16 :: x 17 :: x 18 :: x 19 :: x 20 :: x 21 :: x 22 :: x 23 :: x 24 :: x 25 :: x 26 :: x 27 :: x 28 :: x 29 :: x 30 :: x 31 :: x 32 :: x 33 :: x 34 :: x 35 :: x 36 :: x 37 :: rest) (h7 : [x 0, x 1, x 2, x 3, x 4, x 5, x 6] = [66, 66, 3, 0, 0, 0, 0]) (w : World) :
    Calls Try.prog 10 #[.string s] w fun e w' => e = .returned (if Bpdu.bad (x 7) (Oct.num [x 30, x 31]) (Oct.num [x 32, x 33]) = true then .tuple #[.agg #[.int .u8 0, .int .u8 0, .int .u8 0, .int .u8 0, .int .u8 0, .int .u8 0, .int .u8 0, .int .u8 0, .int .u8 0, .int .u8 0, .int .u8 0, .int .u8 0, .int .u8 0, .int .u8 0, .int .u8 0, .int .u8 0, .int .i64 0, .int .i64 0, .int .i64 0, .int .i64 0, .int .i64 0, .int .i64 0, .bool false, .bool false], .bool false, .int .i64 3]
      else .tuple #[.agg #[.int .u8 ((x 8).toNat : Int), .int .u8 ((x 9).toNat : Int), .int .u8 ((x 10).toNat : Int), .int .u8 ((x 11).toNat : Int), .int .u8 ((x 12).toNat : Int), .int .u8 ((x 13).toNat : Int), .int .u8 ((x 14).toNat : Int), .int .u8 ((x 15).toNat : Int), .int .u8 ((x 20).toNat : Int), .int .u8 ((x 21).toNat : Int), .int .u8 ((x 22).toNat : Int), .int .u8 ((x 23).toNat : Int), .int .u8 ((x 24).toNat : Int), .int .u8 ((x 25).toNat : Int), .int .u8 ((x 26).toNat : Int), .int .u8 ((x 27).toNat : Int), .int .i64 (Oct.num [x 16, x 17, x 18, x 19] : Nat), .int .i64 (Oct.num [x 28, x 29] : Nat), .int .i64 (Oct.num [x 30, x 31] : Nat), .int .i64 (Oct.num [x 32, x 33] : Nat), .int .i64 (Oct.num [x 34, x 35] : Nat), .int .i64 (Oct.num [x 36, x 37] : Nat), .bool (decide (0 < bits BinOp.and IntKind.u8 ((x 7).toNat : Int) 1)), .bool (decide (0 < bits BinOp.and IntKind.u8 ((x 7).toNat : Int) 128))], .bool false, .int .i64 0]) ∧ Below w.heap.size w w' := by
  have hsz : s.size = 38 + rest.length := by
    have : s.data.toList.length = s.size := by simp
    rw [← this, hs]
    simp
    omega
  have hx := Bpdu.ext_list s _ hs
  exact parse_word s (fun i => x (8 + i)) (fun i => x (20 + i)) _ _ _ _ _ _ (x 7) (by omega)
    (by rw [Lib.toList_data, hx]; exact h7) (by rw [hx]; rfl) (by rw [hx]; rfl)
    (by
      have h7 : s.data.toList[7]? = some (x 7) := by rw [hs]; rfl
      rw [List.getElem?_eq_getElem (by simp; omega)] at h7
      exact Option.some.inj h7)
    (by rw [hs]; rfl) (by rw [hs]; rfl) (by rw [hs]; rfl) (by rw [hs]; rfl) (by rw [hs]; rfl) (by rw [hs]; rfl) w

set_option maxRecDepth 20000 in
set_option maxHeartbeats 8000000 in
theorem bpduOnly_walk (s : ByteArray) (w : World) :
    Calls Try.prog 5 #[.string s] w fun e w' => e = .returned (.bool true) ∧ Below w.heap.size w w' := by
  have mz := eq_zero_ids
  by_cases hm : 1000 < s.size
  · go_enter Try.func5, Try.ntmps5
    go_wp2_with fail
    refine (awake_any _).mono ?_
    rintro e w1 ⟨rfl, hb⟩
    go_wp2_with fail
    refine (awake_any _).mono ?_
    rintro e w2 ⟨rfl, hb2⟩
    go_wp2_with fail
    go_ret
    exact ⟨rfl, hb.trans (hb2.mono hb.size)⟩
  by_cases h7 : s.size < 7
  · skip
    go_enter Try.func5, Try.ntmps5
    go_wp2_with fail
    refine (awake_any _).mono ?_
    rintro e w1 ⟨rfl, hb⟩
    go_wp2_with fail
    refine (parse_short7 s h7 w1).mono ?_
    rintro e w2 ⟨rfl, hb2⟩
    have hb := hb.trans (hb2.mono hb.size)
    clear hb2
    go_wp2_with ((with_reducible refine at_store 30 (.tmp 3) (.tmp 19) ?_); refine wpList_store_own rfl 30 (.tmp 3) (.tmp 19) rfl w2.heap.size _ rfl rfl _ _ (rowIs_new _ _ _) info_word rfl (by kernel_rfl) w2.heap.size (Nat.le_refl _) ?_)
    intro w3 r3 _ _ hb3
    have hb3 := (show Below w2.heap.size w2 w3 from ((Below.refl _ _).alloc (Nat.le_refl _) _).trans hb3)
    have hb := hb.trans (hb3.mono hb.size)
    have R3 := Lib.hid r3
    clear hb3 r3
    go_wp2_with (((with_reducible refine at_load 30 (.tmp 3) ?_); refine wpList_load_own rfl 30 (.tmp 3) rfl _ rfl _ _ _ R3.out Try.underlying30 rfl info_word ?_))
    go_ret
    exact ⟨rfl, hb⟩
  have h7b : 7 ≤ s.size := by omega
  have ex := Bpdu.ext_list s _ rfl 0 7
  by_cases hn : (s.data.toList.drop 0).take (7 - 0) = [66, 66, 3, 0, 0, 0, 128]
  · have hn := Lib.hid (show (s.extract 0 7).toList = [66, 66, 3, 0, 0, 0, 128] by rw [Lib.toList_data, ex]; exact hn)
    clear ex
    go_enter Try.func5, Try.ntmps5
    go_wp2_with fail
    refine (awake_any _).mono ?_
    rintro e w1 ⟨rfl, hb⟩
    go_wp2_with fail
    refine (parse_notice s h7b hn.out w1).mono ?_
    rintro e w2 ⟨rfl, hb2⟩
    have hb := hb.trans (hb2.mono hb.size)
    clear hb2
    go_wp2_with ((with_reducible refine at_store 30 (.tmp 3) (.tmp 19) ?_); refine wpList_store_own rfl 30 (.tmp 3) (.tmp 19) rfl w2.heap.size _ rfl rfl _ _ (rowIs_new _ _ _) info_word rfl (by kernel_rfl) w2.heap.size (Nat.le_refl _) ?_)
    intro w3 r3 _ _ hb3
    have hb3 := (show Below w2.heap.size w2 w3 from ((Below.refl _ _).alloc (Nat.le_refl _) _).trans hb3)
    have hb := hb.trans (hb3.mono hb.size)
    have R3 := Lib.hid r3
    clear hb3 r3
    go_wp2_with (((with_reducible refine at_load 30 (.tmp 3) ?_); refine wpList_load_own rfl 30 (.tmp 3) rfl _ rfl _ _ _ R3.out Try.underlying30 rfl info_word ?_))
    go_ret
    exact ⟨rfl, hb⟩
  have q1 := Lib.hid (str_ne (by rw [ex]; exact hn))
  by_cases hn2 : (s.data.toList.drop 0).take (7 - 0) = [66, 66, 3, 0, 0, 0, 0]
  rotate_left
  · have q2 := Lib.hid (str_ne (by rw [ex]; exact hn2))
    clear ex hn hn2
    go_enter Try.func5, Try.ntmps5
    go_wp2_with fail
    refine (awake_any _).mono ?_
    rintro e w1 ⟨rfl, hb⟩
    go_wp2_with fail
    refine (parse_other s h7b q1.out q2.out w1).mono ?_
    rintro e w2 ⟨rfl, hb2⟩
    have hb := hb.trans (hb2.mono hb.size)
    clear hb2
    go_wp2_with ((with_reducible refine at_store 30 (.tmp 3) (.tmp 19) ?_); refine wpList_store_own rfl 30 (.tmp 3) (.tmp 19) rfl w2.heap.size _ rfl rfl _ _ (rowIs_new _ _ _) info_word rfl (by kernel_rfl) w2.heap.size (Nat.le_refl _) ?_)
    intro w3 r3 _ _ hb3
    have hb3 := (show Below w2.heap.size w2 w3 from ((Below.refl _ _).alloc (Nat.le_refl _) _).trans hb3)
    have hb := hb.trans (hb3.mono hb.size)
    have R3 := Lib.hid r3
    clear hb3 r3
    go_wp2_with (((with_reducible refine at_load 30 (.tmp 3) ?_); refine wpList_load_own rfl 30 (.tmp 3) rfl _ rfl _ _ _ R3.out Try.underlying30 rfl info_word ?_))
    go_ret
    exact ⟨rfl, hb⟩
  by_cases h38 : s.size < 38
  · have hn2 := Lib.hid (show (s.extract 0 7).toList = [66, 66, 3, 0, 0, 0, 0] by rw [Lib.toList_data, ex]; exact hn2)
    clear ex hn
    go_enter Try.func5, Try.ntmps5
    go_wp2_with fail
    refine (awake_any _).mono ?_
    rintro e w1 ⟨rfl, hb⟩
    go_wp2_with fail
    refine (parse_short38 s h7b h38 hn2.out w1).mono ?_
    rintro e w2 ⟨rfl, hb2⟩
    have hb := hb.trans (hb2.mono hb.size)
    clear hb2
    go_wp2_with ((with_reducible refine at_store 30 (.tmp 3) (.tmp 19) ?_); refine wpList_store_own rfl 30 (.tmp 3) (.tmp 19) rfl w2.heap.size _ rfl rfl _ _ (rowIs_new _ _ _) info_word rfl (by kernel_rfl) w2.heap.size (Nat.le_refl _) ?_)
    intro w3 r3 _ _ hb3
    have hb3 := (show Below w2.heap.size w2 w3 from ((Below.refl _ _).alloc (Nat.le_refl _) _).trans hb3)
    have hb := hb.trans (hb3.mono hb.size)
    have R3 := Lib.hid r3
    clear hb3 r3
    go_wp2_with (((with_reducible refine at_load 30 (.tmp 3) ?_); refine wpList_load_own rfl 30 (.tmp 3) rfl _ rfl _ _ _ R3.out Try.underlying30 rfl info_word ?_))
    go_ret
    exact ⟨rfl, hb⟩
  obtain ⟨x, rest, hs⟩ := Bpdu.split38 s.data.toList (by simp; omega)
  rw [hs] at hn2
  have hp := fun w => parse_split s x rest hs hn2 w
  have hx := Bpdu.ext_list s _ hs 0 38
  cases hbad : Bpdu.bad (x 7) (Oct.num [x 30, x 31]) (Oct.num [x 32, x 33])
  rotate_left
  · rw [hbad] at hp
    simp only [if_true] at hp
    have hp := Lib.hid hp
    clear hbad hx hs ex hn hn2
    go_enter Try.func5, Try.ntmps5
    go_wp2_with fail
    refine (awake_any _).mono ?_
    rintro e w1 ⟨rfl, hb⟩
    go_wp2_with fail
    refine (hp.out w1).mono ?_
    rintro e w2 ⟨rfl, hb2⟩
    have hb := hb.trans (hb2.mono hb.size)
    clear hb2
    go_wp2_with ((with_reducible refine at_store 30 (.tmp 3) (.tmp 19) ?_); refine wpList_store_own rfl 30 (.tmp 3) (.tmp 19) rfl w2.heap.size _ rfl rfl _ _ (rowIs_new _ _ _) info_word rfl (by kernel_rfl) w2.heap.size (Nat.le_refl _) ?_)
    intro w3 r3 _ _ hb3
    have hb3 := (show Below w2.heap.size w2 w3 from ((Below.refl _ _).alloc (Nat.le_refl _) _).trans hb3)
    have hb := hb.trans (hb3.mono hb.size)
    have R3 := Lib.hid r3
    clear hb3 r3
    go_wp2_with (((with_reducible refine at_load 30 (.tmp 3) ?_); refine wpList_load_own rfl 30 (.tmp 3) rfl _ rfl _ _ _ R3.out Try.underlying30 rfl info_word ?_))
    go_ret
    exact ⟨rfl, hb⟩
  rw [hbad] at hp
  simp only [Bool.false_eq_true, if_false] at hp
  have hfl : Bpdu.fl (decide (0 < bits BinOp.and IntKind.u8 ((x 7).toNat : Int) 1)) (decide (0 < bits BinOp.and IntKind.u8 ((x 7).toNat : Int) 128)) = x 7 := by
    refine Bpdu.fl_of (x 7) ?_
    unfold Bpdu.bad at hbad
    simp only [Bool.or_eq_false_iff] at hbad
    exact hbad.1
  have hag : Oct.num [x 30, x 31] < Oct.num [x 32, x 33] := by
    unfold Bpdu.bad at hbad
    simp only [Bool.or_eq_false_iff, decide_eq_false_iff_not] at hbad
    omega
  have hg : Bpdu.right (Oct.num [x 16, x 17, x 18, x 19] : Nat) (Oct.num [x 28, x 29] : Nat) (Oct.num [x 30, x 31] : Nat) (Oct.num [x 32, x 33] : Nat) (Oct.num [x 34, x 35] : Nat) (Oct.num [x 36, x 37] : Nat) = true := by
    have e1 := Bpdu.num_four_le (x 16) (x 17) (x 18) (x 19)
    have e2 := Bpdu.num_two_le (x 28) (x 29)
    have e3 := Bpdu.num_two_le (x 30) (x 31)
    have e4 := Bpdu.num_two_le (x 32) (x 33)
    have e5 := Bpdu.num_two_le (x 34) (x 35)
    have e6 := Bpdu.num_two_le (x 36) (x 37)
    simp only [Bpdu.right, Bpdu.inB, List.all_cons, List.all_nil, Bool.and_true, Bool.and_eq_true, decide_eq_true_eq]
    omega
  generalize hch : decide (0 < bits BinOp.and IntKind.u8 ((x 7).toNat : Int) 1) = ch at hp hfl
  generalize hak : decide (0 < bits BinOp.and IntKind.u8 ((x 7).toNat : Int) 128) = ak at hp hfl
  have hpr := fun w => print_good (fun i => x (8 + i)) (fun i => x (20 + i)) _ _ _ _ _ _ ch ak w hg
  have ht : Bpdu.text (fun i => x (8 + i)) (fun i => x (20 + i)) (Oct.num [x 16, x 17, x 18, x 19] : Nat) (Oct.num [x 28, x 29] : Nat) (Oct.num [x 30, x 31] : Nat) (Oct.num [x 32, x 33] : Nat) (Oct.num [x 34, x 35] : Nat) (Oct.num [x 36, x 37] : Nat) ch ak = (s.extract 0 38).data.toList := by
    unfold Bpdu.text
    rw [hx, hfl, Bpdu.four_num, Bpdu.two_num, Bpdu.two_num, Bpdu.two_num, Bpdu.two_num, Bpdu.two_num, ← (show [x 0, x 1, x 2, x 3, x 4, x 5, x 6] = [66, 66, 3, 0, 0, 0, 0] from hn2)]
    rfl
  have HT := Lib.hid ht
  have HP := Lib.hid hp
  have HPR := Lib.hid hpr
  clear hp hpr ht hx hfl hag hg hch hak hs hn hn2 ex hbad mz q1
  by_cases h0 : (0 : Nat) < 1
  · skip
    go_enter Try.func5, Try.ntmps5
    go_wp2_with fail
    refine (awake_any _).mono ?_
    rintro e w1 ⟨rfl, hb⟩
    go_wp2_with fail
    refine (HP.out w1).mono ?_
    rintro e w2 ⟨rfl, hb2⟩
    have hb := hb.trans (hb2.mono hb.size)
    clear hb2
    go_wp2_with ((with_reducible refine at_store 30 (.tmp 3) (.tmp 19) ?_); refine wpList_store_own rfl 30 (.tmp 3) (.tmp 19) rfl w2.heap.size _ rfl rfl _ _ (rowIs_new _ _ _) info_word rfl (by kernel_rfl) w2.heap.size (Nat.le_refl _) ?_)
    intro w3 r3 _ _ hb3
    have hb3 := (show Below w2.heap.size w2 w3 from ((Below.refl _ _).alloc (Nat.le_refl _) _).trans hb3)
    have hb := hb.trans (hb3.mono hb.size)
    have R3 := Lib.hid r3
    clear hb3 r3
    go_wp2_with (((with_reducible refine at_load 30 (.tmp 3) ?_); refine wpList_load_own rfl 30 (.tmp 3) rfl _ rfl _ _ _ R3.out Try.underlying30 rfl info_word ?_))
    refine (HPR.out _).mono ?_
    rintro e w4 ⟨rfl, hb4⟩
    have hb := hb.trans (hb4.mono hb.size)
    have HS := Lib.hid (show (⟨(Bpdu.text (fun i => x (8 + i)) (fun i => x (20 + i)) (Oct.num [x 16, x 17, x 18, x 19] : Nat) (Oct.num [x 28, x 29] : Nat) (Oct.num [x 30, x 31] : Nat) (Oct.num [x 32, x 33] : Nat) (Oct.num [x 34, x 35] : Nat) (Oct.num [x 36, x 37] : Nat) ch ak).toArray⟩ : ByteArray) = s.extract 0 38 from ByteArray.ext (by rw [HT.out]))
    rw [HS.out]
    go_wp2_with fail
    go_ret
    exact ⟨rfl, hb⟩
  · omega
end Go.Proofs.Ytkbnkacmmjabkaa
