/- cmp.Less on strings; bpdu.Less. By an AI agent. -/
import Derived.Test.YtcmokhpnooldgaaBytes
import Derived.Test.YtcmokhpnooldgaaIdText
import Derived.Test.YtcmokhpnooldgaaOrder
import Derived.Lib.QuietBelow
import Derived.BigQuiet
import Derived.Lib.Strings
namespace Go.Proofs.Ytcmokhpnooldgaa
open Go.RowKit Go.Sort

theorem isNaN_any (x : ByteArray) (w : World) : Calls Try.prog 55 #[.string x] w fun e w' => e = .returned (.bool false) ∧ w = w' := by
  go_enter Try.func55, Try.ntmps55
  go_wp2_with fail
  go_ret
  exact ⟨by simp, rfl⟩

theorem cmpLess_any (x y : ByteArray) (w : World) : Calls Try.prog 40 #[.string x, .string y] w fun e w' => e = .returned (.bool (Ord.lt x.toList y.toList)) ∧ w = w' := by
  go_enter Try.func40, Try.ntmps40
  go_wp2_with (go_at_call 55; refine (isNaN_any _ _).mono ?_; rintro e w' ⟨rfl, rfl⟩)
  go_ret
  exact ⟨rfl, rfl⟩

set_option maxRecDepth 20000 in
theorem less_any (a b : Nat → UInt8) (w : World) : Calls Try.prog 22 #[.agg #[.int .u8 ((a 0).toNat : Int), .int .u8 ((a 1).toNat : Int), .int .u8 ((a 2).toNat : Int), .int .u8 ((a 3).toNat : Int), .int .u8 ((a 4).toNat : Int), .int .u8 ((a 5).toNat : Int), .int .u8 ((a 6).toNat : Int), .int .u8 ((a 7).toNat : Int)], .agg #[.int .u8 ((b 0).toNat : Int), .int .u8 ((b 1).toNat : Int), .int .u8 ((b 2).toNat : Int), .int .u8 ((b 3).toNat : Int), .int .u8 ((b 4).toNat : Int), .int .u8 ((b 5).toNat : Int), .int .u8 ((b 6).toNat : Int), .int .u8 ((b 7).toNat : Int)]] w
    fun e w' => e = .returned (.bool (Ord.lt [a 0, a 1, a 2, a 3, a 4, a 5, a 6, a 7] [b 0, b 1, b 2, b 3, b 4, b 5, b 6, b 7])) ∧ Below w.heap.size w w' := by
  go_enter Try.func22, Try.ntmps22
  go_wp2_with fail
  generalize hW : (w.alloc _).alloc _ = W
  have hbW : Below w.heap.size w W := by rw [← hW]; exact ((Below.refl _ _).alloc (Nat.le_refl _) _).alloc (by simp) _
  have cA : ∀ i, i < 8 → W.cell? ⟨w.heap.size, i, none⟩ = some (.int .u8 ((a i).toNat : Int)) := by
    intro i hi
    subst hW
    rcases (show i = 0 ∨ i = 1 ∨ i = 2 ∨ i = 3 ∨ i = 4 ∨ i = 5 ∨ i = 6 ∨ i = 7 from by omega) with rfl | rfl | rfl | rfl | rfl | rfl | rfl | rfl <;> go_simp
  have cB : ∀ i, i < 8 → W.cell? ⟨w.heap.size + 1, i, none⟩ = some (.int .u8 ((b i).toNat : Int)) := by
    intro i hi
    subst hW
    rcases (show i = 0 ∨ i = 1 ∨ i = 2 ∨ i = 3 ∨ i = 4 ∨ i = 5 ∨ i = 6 ∨ i = 7 from by omega) with rfl | rfl | rfl | rfl | rfl | rfl | rfl | rfl <;> go_simp
  have sA := fun dd os => run_id_string a (grow (redrawn W dd) os) w.heap.size (fun i hi => cell_regrown (cA i hi) dd os)
  have sB := fun dd os => run_id_string b (grow (redrawn W dd) os) (w.heap.size + 1) (fun i hi => cell_regrown (cB i hi) dd os)
  have cL : ∀ dd os, Calls Try.prog 40 #[.string ⟨#[a 0, a 1, a 2, a 3, a 4, a 5, a 6, a 7]⟩, .string ⟨#[b 0, b 1, b 2, b 3, b 4, b 5, b 6, b 7]⟩] (grow (redrawn W dd) os) fun e'' w'' => e'' = .returned (.bool (Ord.lt [a 0, a 1, a 2, a 3, a 4, a 5, a 6, a 7] [b 0, b 1, b 2, b 3, b 4, b 5, b 6, b 7])) ∧ ∃ p : Regrown, w'' = grow (redrawn W p.d) p.os := fun dd os =>
    Calls.regrown_of ((cmpLess_any _ _ _).mono fun e w' ⟨he, hw⟩ => by
      subst hw
      rw [he, toList_mk [a 0, a 1, a 2, a 3, a 4, a 5, a 6, a 7], toList_mk [b 0, b 1, b 2, b 3, b 4, b 5, b 6, b 7]]
      exact ⟨rfl, Below.refl _ _⟩)
  clear hW cA cB
  refine wp_region_quiet_below (by kernel_rfl) (by kernel_rfl) ?_
  repeat (quiet_step (exact cL _ _))
  refine wpQuiet_nil ?_
  intro _ hw'
  obtain ⟨⟨dq, osq⟩, hw''⟩ := hw'
  subst hw''
  go_wp2_with fail
  go_ret
  exact ⟨rfl, hbW.trans ((below_regrown W dq osq).mono hbW.size)⟩
end Go.Proofs.Ytcmokhpnooldgaa
