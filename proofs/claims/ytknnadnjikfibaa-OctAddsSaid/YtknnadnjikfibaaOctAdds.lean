/- The walk of OctAdds. By an AI agent. -/
import Derived.Test.YtknnadnjikfibaaOctLaws
import Derived.Deep.DeepCutAuto
namespace Go.Proofs.Ytknnadnjikfibaa
open Go.RowKit

namespace Oct
/-- a text made even -/
def pad (s : ByteArray) : ByteArray := if s.size % 2 = 1 then s ++ ⟨#[0]⟩ else s
theorem pad_size (s : ByteArray) : (pad s).size ≤ s.size + 1 := by
  unfold pad
  split
  · rw [ByteArray.size_append]; exact Nat.le_refl _
  · omega
theorem pad_even (s : ByteArray) : (pad s).size % 2 = 0 := by
  unfold pad
  split
  · rw [ByteArray.size_append]
    show (s.size + 1) % 2 = 0
    omega
  · omega
theorem pad_yes (s : ByteArray) (h : s.size % 2 = 1) : pad s = s ++ ⟨#[0]⟩ := if_pos h
theorem pad_no (s : ByteArray) (h : s.size % 2 = 0) : pad s = s := if_neg (by omega)

theorem adds (s t : ByteArray) (hs : s.size % 2 = 0) (ht : t.size % 2 = 0) : sum16 (s ++ t).data.toList = 65535 - (if (65535 : Int) < (65535 - sum16 s.data.toList) + (65535 - sum16 t.data.toList) then (65535 - sum16 s.data.toList) + (65535 - sum16 t.data.toList) - 65535 else (65535 - sum16 s.data.toList) + (65535 - sum16 t.data.toList)) := by
  rw [append_toList]
  exact sum16_add _ _ (by rw [size_toList]; exact hs)
theorem comm (s t : ByteArray) (hs : s.size % 2 = 0) (ht : t.size % 2 = 0) : sum16 (t ++ s).data.toList = sum16 (s ++ t).data.toList := by
  rw [append_toList, append_toList]
  exact sum16_comm _ _ (by rw [size_toList]; exact hs) (by rw [size_toList]; exact ht)
end Oct

set_option maxHeartbeats 1000000 in
theorem octAdds_walk (s t : ByteArray) (w : World) : Calls Try.prog 3 #[.string s, .string t] w fun e w' => e = .returned (.bool true) ∧ Below w.heap.size w w' := by
  have hbel : Below w.heap.size w w := Below.refl _ _
  by_cases h1 : 1000 < s.size
  · go_enter Try.func3, Try.ntmps3
    go_wp2_with (go_at_call 6; refine (awake_any _).mono ?_; rintro e' w1 ⟨rfl, hb1⟩; have hbel := hbel.trans (hb1.mono hbel.size); clear hb1)
    go_ret
    exact ⟨rfl, hbel⟩
  by_cases h2 : 1000 < t.size
  · go_enter Try.func3, Try.ntmps3
    go_wp2_with (go_at_call 6; refine (awake_any _).mono ?_; rintro e' w1 ⟨rfl, hb1⟩; have hbel := hbel.trans (hb1.mono hbel.size); clear hb1)
    go_ret
    exact ⟨rfl, hbel⟩
  have hb1 := Oct.sum16_bd (Oct.pad s).data.toList
  have hb2 := Oct.sum16_bd (Oct.pad t).data.toList
  have HA := Lib.hid (Oct.adds _ _ (Oct.pad_even s) (Oct.pad_even t))
  have HC := Lib.hid (Oct.comm _ _ (Oct.pad_even s) (Oct.pad_even t))
  have hz1 := Oct.pad_size s
  have hz2 := Oct.pad_size t
  obtain ⟨n, hn⟩ : ∃ n, n = Oct.sum16 (Oct.pad s).data.toList := ⟨_, rfl⟩
  obtain ⟨m, hm⟩ : ∃ m, m = Oct.sum16 (Oct.pad t).data.toList := ⟨_, rfl⟩
  rw [← hn, ← hm] at HA
  rw [← hn] at hb1
  rw [← hm] at hb2
  have HN := Lib.hid hn
  have HM := Lib.hid hm
  clear hn hm
  go_enter Try.func3, Try.ntmps3
  go_wp2_with fail
  refine (awake_any _).mono ?_
  rintro e' w1 ⟨rfl, hb3⟩
  go_upto_if 22 with fail
  go_cut [0] (fun v wx => v = .string (Oct.pad s) ∧ w1 = wx)
  case first =>
    rcases Nat.mod_two_eq_zero_or_one s.size with hp | hp
    · have HP := Lib.hid (Oct.pad_no s hp)
      have q0 : ((s.size : Int) % 2 == 1) = false := by simp; omega
      clear hp
      go_wp2_with fail
      go_meet
      exact ⟨by rw [HP.out], rfl⟩
    · have HP := Lib.hid (Oct.pad_yes s hp)
      have q0 : ((s.size : Int) % 2 == 1) = true := by simp; omega
      clear hp
      go_wp2_with fail
      go_meet
      exact ⟨by rw [HP.out], rfl⟩
  case rest =>
    obtain ⟨rfl, rfl⟩ := hcut
    go_upto_if 28 with fail
    go_cut [1] (fun v wx => v = .string (Oct.pad t) ∧ w1 = wx)
    case first =>
      rcases Nat.mod_two_eq_zero_or_one t.size with hp | hp
      · have HP := Lib.hid (Oct.pad_no t hp)
        have q0 : ((t.size : Int) % 2 == 1) = false := by simp; omega
        clear hp
        go_wp2_with fail
        go_meet
        exact ⟨by rw [HP.out], rfl⟩
      · have HP := Lib.hid (Oct.pad_yes t hp)
        have q0 : ((t.size : Int) % 2 == 1) = true := by simp; omega
        clear hp
        go_wp2_with fail
        go_meet
        exact ⟨by rw [HP.out], rfl⟩
    case rest =>
      obtain ⟨rfl, rfl⟩ := hcut
      go_wp2_with fail
      refine (sum16_any _ _ (by omega)).mono ?_
      rintro e' w2 ⟨rfl, rfl⟩
      rw [← HN.out]
      go_wp2_with fail
      refine (sum16_any _ _ (by omega)).mono ?_
      rintro e' w2 ⟨rfl, rfl⟩
      rw [← HM.out]
      go_wp2_with fail
      all_goals
        refine (sum16_any _ _ (by rw [ByteArray.size_append]; omega)).mono ?_
        rintro e' w2 ⟨rfl, rfl⟩
        rw [HA.out]
        first
        | rw [if_pos (by assumption)]
        | rw [if_neg (by omega)]
        go_wp2_with fail
        refine (sum16_any _ _ (by rw [ByteArray.size_append]; omega)).mono ?_
        rintro e' w2 ⟨rfl, rfl⟩
        rw [HC.out]
        go_wp2_with fail
        refine (sum16_any _ _ (by rw [ByteArray.size_append]; omega)).mono ?_
        rintro e' w2 ⟨rfl, rfl⟩
        go_wp2_with fail
        go_ret
        exact ⟨rfl, hb3⟩
end Go.Proofs.Ytknnadnjikfibaa
