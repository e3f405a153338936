/- The walk of BpduOrder. By an AI agent. -/
import Derived.Test.YtkbnkacmmjabkaaBpduAwake
import Derived.Test.YtkbnkacmmjabkaaLess
import Derived.Test.YtkbnkacmmjabkaaArrays
namespace Go.Proofs.Ytkbnkacmmjabkaa
open Go.RowKit Go.Sort

theorem info_id : (Try.prog.info? 23).map (·.size) = some 8 := by kernel_rfl

set_option maxHeartbeats 2000000 in
theorem bpduOrder_walk (a b c : Nat → UInt8) (w : World) : Calls Try.prog 3 #[.agg #[.int .u8 ((a 0).toNat : Int), .int .u8 ((a 1).toNat : Int), .int .u8 ((a 2).toNat : Int), .int .u8 ((a 3).toNat : Int), .int .u8 ((a 4).toNat : Int), .int .u8 ((a 5).toNat : Int), .int .u8 ((a 6).toNat : Int), .int .u8 ((a 7).toNat : Int)], .agg #[.int .u8 ((b 0).toNat : Int), .int .u8 ((b 1).toNat : Int), .int .u8 ((b 2).toNat : Int), .int .u8 ((b 3).toNat : Int), .int .u8 ((b 4).toNat : Int), .int .u8 ((b 5).toNat : Int), .int .u8 ((b 6).toNat : Int), .int .u8 ((b 7).toNat : Int)], .agg #[.int .u8 ((c 0).toNat : Int), .int .u8 ((c 1).toNat : Int), .int .u8 ((c 2).toNat : Int), .int .u8 ((c 3).toNat : Int), .int .u8 ((c 4).toNat : Int), .int .u8 ((c 5).toNat : Int), .int .u8 ((c 6).toNat : Int), .int .u8 ((c 7).toNat : Int)]] w fun e w' => e = .returned (.bool true) ∧ Below w.heap.size w w' := by
  have lAA := Ord.lt_irrefl [a 0, a 1, a 2, a 3, a 4, a 5, a 6, a 7]
  have e1 := run_equalIn_id 9998 a b
  have HT := Lib.hid (Ord.lt_trans [a 0, a 1, a 2, a 3, a 4, a 5, a 6, a 7] [b 0, b 1, b 2, b 3, b 4, b 5, b 6, b 7] [c 0, c 1, c 2, c 3, c 4, c 5, c 6, c 7])
  have HN := Lib.hid (Ord.lt_ne [a 0, a 1, a 2, a 3, a 4, a 5, a 6, a 7] [b 0, b 1, b 2, b 3, b 4, b 5, b 6, b 7])
  have HS := Lib.hid (Ord.lt_asymm [a 0, a 1, a 2, a 3, a 4, a 5, a 6, a 7] [b 0, b 1, b 2, b 3, b 4, b 5, b 6, b 7])
  go_enter Try.func3, Try.ntmps3
  go_wp2_with fail
  generalize hW : ((w.alloc _).alloc _).alloc _ = W
  have r3 : RowIs W w.heap.size 23 #[.int .u8 ((a 0).toNat : Int), .int .u8 ((a 1).toNat : Int), .int .u8 ((a 2).toNat : Int), .int .u8 ((a 3).toNat : Int), .int .u8 ((a 4).toNat : Int), .int .u8 ((a 5).toNat : Int), .int .u8 ((a 6).toNat : Int), .int .u8 ((a 7).toNat : Int)] := by rw [← hW]; exact ((rowIs_new w _ _).alloc _).alloc _
  have r4 : RowIs W (w.heap.size + 1) 23 #[.int .u8 ((b 0).toNat : Int), .int .u8 ((b 1).toNat : Int), .int .u8 ((b 2).toNat : Int), .int .u8 ((b 3).toNat : Int), .int .u8 ((b 4).toNat : Int), .int .u8 ((b 5).toNat : Int), .int .u8 ((b 6).toNat : Int), .int .u8 ((b 7).toNat : Int)] := by
    have := (rowIs_new (w.alloc (.cells #[.int .u8 ((a 0).toNat : Int), .int .u8 ((a 1).toNat : Int), .int .u8 ((a 2).toNat : Int), .int .u8 ((a 3).toNat : Int), .int .u8 ((a 4).toNat : Int), .int .u8 ((a 5).toNat : Int), .int .u8 ((a 6).toNat : Int), .int .u8 ((a 7).toNat : Int)] 23)) 23 #[.int .u8 ((b 0).toNat : Int), .int .u8 ((b 1).toNat : Int), .int .u8 ((b 2).toNat : Int), .int .u8 ((b 3).toNat : Int), .int .u8 ((b 4).toNat : Int), .int .u8 ((b 5).toNat : Int), .int .u8 ((b 6).toNat : Int), .int .u8 ((b 7).toNat : Int)]).alloc (.cells #[.int .u8 ((c 0).toNat : Int), .int .u8 ((c 1).toNat : Int), .int .u8 ((c 2).toNat : Int), .int .u8 ((c 3).toNat : Int), .int .u8 ((c 4).toNat : Int), .int .u8 ((c 5).toNat : Int), .int .u8 ((c 6).toNat : Int), .int .u8 ((c 7).toNat : Int)] 23)
    rw [← hW]; simpa using this
  have r5 : RowIs W (w.heap.size + 1 + 1) 23 #[.int .u8 ((c 0).toNat : Int), .int .u8 ((c 1).toNat : Int), .int .u8 ((c 2).toNat : Int), .int .u8 ((c 3).toNat : Int), .int .u8 ((c 4).toNat : Int), .int .u8 ((c 5).toNat : Int), .int .u8 ((c 6).toNat : Int), .int .u8 ((c 7).toNat : Int)] := by
    have := (rowIs_new ((w.alloc (.cells #[.int .u8 ((a 0).toNat : Int), .int .u8 ((a 1).toNat : Int), .int .u8 ((a 2).toNat : Int), .int .u8 ((a 3).toNat : Int), .int .u8 ((a 4).toNat : Int), .int .u8 ((a 5).toNat : Int), .int .u8 ((a 6).toNat : Int), .int .u8 ((a 7).toNat : Int)] 23)).alloc (.cells #[.int .u8 ((b 0).toNat : Int), .int .u8 ((b 1).toNat : Int), .int .u8 ((b 2).toNat : Int), .int .u8 ((b 3).toNat : Int), .int .u8 ((b 4).toNat : Int), .int .u8 ((b 5).toNat : Int), .int .u8 ((b 6).toNat : Int), .int .u8 ((b 7).toNat : Int)] 23)) 23 #[.int .u8 ((c 0).toNat : Int), .int .u8 ((c 1).toNat : Int), .int .u8 ((c 2).toNat : Int), .int .u8 ((c 3).toNat : Int), .int .u8 ((c 4).toNat : Int), .int .u8 ((c 5).toNat : Int), .int .u8 ((c 6).toNat : Int), .int .u8 ((c 7).toNat : Int)])
    rw [← hW]; simpa using this
  have hbel : Below w.heap.size w W := by rw [← hW]; exact (((Below.refl _ _).alloc (Nat.le_refl _) _).alloc (by simp) _).alloc (by simp; omega) _
  clear hW
  have R3 := Lib.hid r3
  have R4 := Lib.hid r4
  have R5 := Lib.hid r5
  clear r3 r4 r5
  refine (awake_any _).mono ?_
  rintro e' w1 ⟨rfl, hb1⟩
  have hbel := hbel.trans (hb1.mono hbel.size)
  have R3 := Lib.hid (R3.out.kept hb1)
  have R4 := Lib.hid (R4.out.kept hb1)
  have R5 := Lib.hid (R5.out.kept hb1)
  clear hb1
  cases hab : Ord.lt [a 0, a 1, a 2, a 3, a 4, a 5, a 6, a 7] [b 0, b 1, b 2, b 3, b 4, b 5, b 6, b 7]
  · cases hba : Ord.lt [b 0, b 1, b 2, b 3, b 4, b 5, b 6, b 7] [a 0, a 1, a 2, a 3, a 4, a 5, a 6, a 7]
    · have he : eqB [a 0, a 1, a 2, a 3, a 4, a 5, a 6, a 7] [b 0, b 1, b 2, b 3, b 4, b 5, b 6, b 7] = true := eqB_true.2 (HN.out hab hba)
      go_wp2_with (first
        | ((with_reducible refine at_load 23 (.tmp 3) ?_); refine wpList_load_own rfl 23 (.tmp 3) rfl _ rfl _ _ _ R3.out Try.underlying23 rfl info_id ?_)
        | ((with_reducible refine at_load 23 (.tmp 4) ?_); refine wpList_load_own rfl 23 (.tmp 4) rfl _ rfl _ _ _ R4.out Try.underlying23 rfl info_id ?_)
        | ((with_reducible refine at_load 23 (.tmp 5) ?_); refine wpList_load_own rfl 23 (.tmp 5) rfl _ rfl _ _ _ R5.out Try.underlying23 rfl info_id ?_)
        | (go_at_call 9; refine (less_any _ _ _).mono ?_; rintro e' w1 ⟨rfl, hb1⟩; have hbel := hbel.trans (hb1.mono hbel.size); have R3 := Lib.hid (R3.out.kept hb1); have R4 := Lib.hid (R4.out.kept hb1); have R5 := Lib.hid (R5.out.kept hb1); clear hb1))
      go_ret
      exact ⟨rfl, hbel⟩
    · go_wp2_with (first
        | ((with_reducible refine at_load 23 (.tmp 3) ?_); refine wpList_load_own rfl 23 (.tmp 3) rfl _ rfl _ _ _ R3.out Try.underlying23 rfl info_id ?_)
        | ((with_reducible refine at_load 23 (.tmp 4) ?_); refine wpList_load_own rfl 23 (.tmp 4) rfl _ rfl _ _ _ R4.out Try.underlying23 rfl info_id ?_)
        | ((with_reducible refine at_load 23 (.tmp 5) ?_); refine wpList_load_own rfl 23 (.tmp 5) rfl _ rfl _ _ _ R5.out Try.underlying23 rfl info_id ?_)
        | (go_at_call 9; refine (less_any _ _ _).mono ?_; rintro e' w1 ⟨rfl, hb1⟩; have hbel := hbel.trans (hb1.mono hbel.size); have R3 := Lib.hid (R3.out.kept hb1); have R4 := Lib.hid (R4.out.kept hb1); have R5 := Lib.hid (R5.out.kept hb1); clear hb1))
      go_ret
      exact ⟨rfl, hbel⟩
  · have hba := HS.out hab
    cases hbc : Ord.lt [b 0, b 1, b 2, b 3, b 4, b 5, b 6, b 7] [c 0, c 1, c 2, c 3, c 4, c 5, c 6, c 7]
    · go_wp2_with (first
        | ((with_reducible refine at_load 23 (.tmp 3) ?_); refine wpList_load_own rfl 23 (.tmp 3) rfl _ rfl _ _ _ R3.out Try.underlying23 rfl info_id ?_)
        | ((with_reducible refine at_load 23 (.tmp 4) ?_); refine wpList_load_own rfl 23 (.tmp 4) rfl _ rfl _ _ _ R4.out Try.underlying23 rfl info_id ?_)
        | ((with_reducible refine at_load 23 (.tmp 5) ?_); refine wpList_load_own rfl 23 (.tmp 5) rfl _ rfl _ _ _ R5.out Try.underlying23 rfl info_id ?_)
        | (go_at_call 9; refine (less_any _ _ _).mono ?_; rintro e' w1 ⟨rfl, hb1⟩; have hbel := hbel.trans (hb1.mono hbel.size); have R3 := Lib.hid (R3.out.kept hb1); have R4 := Lib.hid (R4.out.kept hb1); have R5 := Lib.hid (R5.out.kept hb1); clear hb1))
      go_ret
      exact ⟨rfl, hbel⟩
    · have hac := HT.out hab hbc
      go_wp2_with (first
        | ((with_reducible refine at_load 23 (.tmp 3) ?_); refine wpList_load_own rfl 23 (.tmp 3) rfl _ rfl _ _ _ R3.out Try.underlying23 rfl info_id ?_)
        | ((with_reducible refine at_load 23 (.tmp 4) ?_); refine wpList_load_own rfl 23 (.tmp 4) rfl _ rfl _ _ _ R4.out Try.underlying23 rfl info_id ?_)
        | ((with_reducible refine at_load 23 (.tmp 5) ?_); refine wpList_load_own rfl 23 (.tmp 5) rfl _ rfl _ _ _ R5.out Try.underlying23 rfl info_id ?_)
        | (go_at_call 9; refine (less_any _ _ _).mono ?_; rintro e' w1 ⟨rfl, hb1⟩; have hbel := hbel.trans (hb1.mono hbel.size); have R3 := Lib.hid (R3.out.kept hb1); have R4 := Lib.hid (R4.out.kept hb1); have R5 := Lib.hid (R5.out.kept hb1); clear hb1))
      go_ret
      exact ⟨rfl, hbel⟩
end Go.Proofs.Ytkbnkacmmjabkaa
