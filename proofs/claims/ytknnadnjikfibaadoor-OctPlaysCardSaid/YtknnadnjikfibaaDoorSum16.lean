/- oct.Sum16 answers sum16 of its bytes. By an AI agent. -/
import Derived.Test.YtknnadnjikfibaaDoorChecked
import Derived.WalkKit
import Derived.WalkLawsBesides
import Derived.Lib.Hide
import Derived.Test.YtknnadnjikfibaaDoorOctLaw
import Derived.Test.YtknnadnjikfibaaDoorBits
namespace Go.Proofs.YtknnadnjikfibaaDoor
open Go.RowKit

theorem ret_int {k : IntKind} {a b : Int} (h : a = b) : Ending.returned (.int k a) = .returned (.int k b) := by rw [h]

namespace Oct
theorem take_snoc (s : ByteArray) (k : Nat) (h : k < s.size) : s.data.toList.take (k + 1) = s.data.toList.take k ++ [s[k]] := by
  rw [List.take_succ_eq_append_getElem (by simpa using h)]; rfl

theorem wsum_take (s : ByteArray) (k : Nat) (h : k < s.size) : wsum 0 (s.data.toList.take (k + 1)) = wsum 0 (s.data.toList.take k) + val k s[k].toNat := by
  rw [take_snoc s k h, wsum_append]
  have hl : (s.data.toList.take k).length = k := by simp; omega
  rw [hl]; simp [wsum]

theorem fold_wrap (m v : Int) (h0 : 0 ≤ m) (h1 : m ≤ 65535) (h2 : 0 ≤ v) (h3 : v ≤ 65280) :
    wrap64 (bits BinOp.and IntKind.i64 (m + v) 65535 + (m + v) / 65536) = (m + v) % 65536 + (m + v) / 65536 := by
  rw [Bits.i64_and65535, Bits.wrap64_id _ (by omega) (by omega)]

theorem step_nat (m v : Nat) (s : Nat) (hm : m = norm s) (hv : v ≤ 65280) : ((m : Int) + (v : Nat)) % 65536 + ((m : Int) + v) / 65536 = (norm (s + v) : Nat) := by
  have := norm_step s v hv
  rw [← this, hm]
  omega
end Oct

theorem sum16_any (s : ByteArray) (w : World) (hs : s.size ≤ 100000) :
    Calls Tryd.prog 20 #[.string s] w fun e w' => e = .returned (.int .i64 (Oct.sum16 s.data.toList)) ∧ w = w' := by
  go_enter Tryd.func20, Tryd.ntmps20
  go_wp2
  go_loop [3, 7] (fun n i => ∃ k m : Nat, k ≤ s.size ∧ m ≤ 65535 ∧ i = .int .i64 k ∧ n = .int .i64 m ∧ Hid (m = Oct.norm (Oct.wsum 0 (s.data.toList.take k)))) (fun _ i => s.size - (intOf i).toNat)
  case atStart => exact ⟨0, 0, Nat.zero_le _, by omega, rfl, rfl, rfl⟩
  case round =>
    obtain ⟨k, m, hk, hm, rfl, rfl, hrel⟩ := hrel
    by_cases hlt : k < s.size
    · have hb := s[k].toNat_lt
      have HW : Hid (Oct.wsum 0 (s.data.toList.take (k + 1)) = Oct.wsum 0 (s.data.toList.take k) + Oct.val k s[k].toNat) := Oct.wsum_take s k hlt
      rcases Nat.mod_two_eq_zero_or_one k with hp | hp
      · obtain ⟨j, hj⟩ : ∃ j, k = 2 * j := ⟨k / 2, by omega⟩
        subst hj
        have HV : Hid (Oct.val (2 * j) s[2 * j].toNat = 256 * s[2 * j].toNat) := by show Oct.val _ _ = _; unfold Oct.val; rw [if_pos hp]
        go_wp2
        refine ⟨⟨2 * j + 1, Oct.norm (Oct.wsum 0 (s.data.toList.take (2 * j)) + 256 * s[2 * j].toNat), by omega, Oct.norm_le _, by go_num, ?_, ?_⟩, by simp [intOf]; omega⟩
        · congr 1
          rw [Oct.fold_wrap _ _ (by omega) (by omega) (by omega) (by omega), ← Oct.step_nat m (256 * s[2 * j].toNat : Nat) _ hrel (by omega)]
          omega
        · show _ = _
          rw [HW.out, HV.out]
      · obtain ⟨j, hj⟩ : ∃ j, k = 2 * j + 1 := ⟨k / 2, by omega⟩
        subst hj
        have HV : Hid (Oct.val (2 * j + 1) s[2 * j + 1].toNat = s[2 * j + 1].toNat) := by show Oct.val _ _ = _; unfold Oct.val; rw [if_neg (by omega)]
        go_wp2
        refine ⟨⟨2 * j + 2, Oct.norm (Oct.wsum 0 (s.data.toList.take (2 * j + 1)) + s[2 * j + 1].toNat), by omega, Oct.norm_le _, by go_num, ?_, ?_⟩, by simp [intOf]; omega⟩
        · congr 1
          rw [Oct.fold_wrap _ _ (by omega) (by omega) (by omega) (by omega), ← Oct.step_nat m (s[2 * j + 1].toNat : Nat) _ hrel (by omega)]
        · show _ = _
          rw [HW.out, HV.out]
    · go_wp2
      go_ret
      refine ⟨ret_int ?_, rfl⟩
      unfold Oct.sum16
      have := hrel.out
      rw [List.take_of_length_le (by simp; omega)] at this
      omega
end Go.Proofs.YtknnadnjikfibaaDoor
