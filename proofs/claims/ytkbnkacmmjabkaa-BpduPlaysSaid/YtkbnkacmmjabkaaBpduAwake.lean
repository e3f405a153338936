/- bpdu.Notice; Parse at a text that is too short, and at a notice; the law's awake. By an AI agent. -/
import Derived.Test.YtkbnkacmmjabkaaNumber
import Derived.Test.YtkbnkacmmjabkaaRow
import Derived.Lib.QuietBelow
import Derived.BigQuiet
import Derived.Lib.Strings
namespace Go.Proofs.Ytkbnkacmmjabkaa
open Go.RowKit Go.Sort

theorem notice_any (w : World) : Calls Try.prog 11 #[] w fun e w' => e = .returned (.string ⟨#[66, 66, 3, 0, 0, 0, 128]⟩) ∧ w = w' := by
  go_enter Try.func11, Try.ntmps11
  go_wp2
  go_ret
  exact ⟨rfl, rfl⟩

theorem info_word : (Try.prog.info? 30).map (·.size) = some 24 := by kernel_rfl

set_option maxHeartbeats 1000000 in
theorem parse_notice (s : ByteArray) (h7 : 7 ≤ s.size) (hn : (s.extract 0 7).toList = [66, 66, 3, 0, 0, 0, 128]) (w : World) :
    Calls Try.prog 10 #[.string s] w fun e w' => e = .returned (.tuple #[.agg #[.int .u8 0, .int .u8 0, .int .u8 0, .int .u8 0, .int .u8 0, .int .u8 0, .int .u8 0, .int .u8 0, .int .u8 0, .int .u8 0, .int .u8 0, .int .u8 0, .int .u8 0, .int .u8 0, .int .u8 0, .int .u8 0, .int .i64 0, .int .i64 0, .int .i64 0, .int .i64 0, .int .i64 0, .int .i64 0, .bool false, .bool false], .bool true, .int .i64 0]) ∧ Below w.heap.size w w' := by
  go_enter Try.func10, Try.ntmps10
  go_wp2_with fail
  go_quiet ((go_at_call 11; exact Calls.quiet_of_same ((notice_any _).mono fun e w' ⟨he, hw⟩ => ⟨he, hw.symm⟩)))
  generalize hW : World.drewN _ _ = W
  have hR : RowIs W w.heap.size 30 #[.int .u8 0, .int .u8 0, .int .u8 0, .int .u8 0, .int .u8 0, .int .u8 0, .int .u8 0, .int .u8 0, .int .u8 0, .int .u8 0, .int .u8 0, .int .u8 0, .int .u8 0, .int .u8 0, .int .u8 0, .int .u8 0, .int .i64 0, .int .i64 0, .int .i64 0, .int .i64 0, .int .i64 0, .int .i64 0, .bool false, .bool false] := by rw [← hW]; exact (rowIs_new w _ _).drewN _
  have hbW : Below w.heap.size w W := by rw [← hW]; exact below_drewN ((Below.refl _ _).alloc (Nat.le_refl _) _) _
  clear hW
  have HR := Lib.hid hR
  clear hR
  go_wp2_with ((with_reducible refine at_store 30 (.tmp 2) (.tmp 20) ?_); refine wpList_store_own rfl 30 (.tmp 2) (.tmp 20) rfl w.heap.size _ rfl rfl _ _ HR.out info_word rfl (by kernel_rfl) w.heap.size (Nat.le_refl _) ?_)
  intro w1 hR1 _ _ hb1
  have HR1 := Lib.hid hR1
  clear hR1
  go_wp2_with fail
  refine bodyPost_ret (results_row_tmp2 Try.results10 _ _ w.heap.size _ _ _ rfl HR1.out Try.underlying30 rfl info_word) rfl ?_
  exact ⟨rfl, hbW.trans hb1⟩

theorem awake_any (w : World) : Calls Try.prog 8 #[] w fun e w' => e = .returned (.bool true) ∧ Below w.heap.size w w' := by
  have hp := fun w => parse_notice ⟨#[66, 66, 3, 0, 0, 0, 128]⟩ (by decide) (by rw [Lib.toList_data, Lib.extract_data]; rfl) w
  have HP := Lib.hid hp
  clear hp
  go_enter Try.func8, Try.ntmps8
  go_wp2_with fail
  refine (notice_any _).mono ?_
  rintro e' w1 ⟨rfl, rfl⟩
  go_wp2_with fail
  refine (HP.out _).mono ?_
  rintro e' w1 ⟨rfl, hb1⟩
  go_wp2_with ((with_reducible refine at_store 30 (.tmp 1) (.tmp 7) ?_); refine wpList_store_own rfl 30 (.tmp 1) (.tmp 7) rfl w1.heap.size _ rfl rfl _ _ (rowIs_new _ _ _) info_word rfl (by kernel_rfl) w1.heap.size (Nat.le_refl _) ?_)
  intro w2 _ _ _ hb2
  go_wp2_with fail
  refine (notice_any _).mono ?_
  rintro e' w3 ⟨rfl, rfl⟩
  go_wp2_with fail
  go_ret
  exact ⟨rfl, hb1.trans ((((Below.refl _ w1).alloc (Nat.le_refl _) _).trans hb2).mono hb1.size)⟩
end Go.Proofs.Ytkbnkacmmjabkaa
