/- The walks of OctAdds, OctSums, OctTexts. By an AI agent. -/
import Derived.Test.YtknnadnjikfibaaOctTextsLaw
import Derived.Test.YtknnadnjikfibaaSum16
import Derived.Test.YtknnadnjikfibaaLaid
import Derived.Deep.RegionHeld3
namespace Go.Proofs.Ytknnadnjikfibaa
open Go.RowKit

theorem mac_awake (w : World) : Calls Try.prog 8 #[.agg #[.int .u8 0, .int .u8 1, .int .u8 2, .int .u8 3, .int .u8 4, .int .u8 255]] w
    fun e w' => e = .returned (.string ⟨#[48, 48, 58, 48, 49, 58, 48, 50, 58, 48, 51, 58, 48, 52, 58, 102, 102]⟩) ∧ Below w.heap.size w w' :=
  macText_any 0 1 2 3 4 255 w

theorem awake_any (w : World) : Calls Try.prog 6 #[] w fun e w' => e = .returned (.bool true) ∧ Below w.heap.size w w' := by
  go_enter Try.func6, Try.ntmps6
  go_wp2_with (go_at_call 8; refine (mac_awake _).mono ?_; rintro e' w1 ⟨rfl, hb1⟩)
  go_ret
  exact ⟨rfl, hb1⟩

namespace Oct
theorem append_toList (a b : ByteArray) : (a ++ b).data.toList = a.data.toList ++ b.data.toList := by simp [ByteArray.data_append]
theorem size_toList (a : ByteArray) : a.data.toList.length = a.size := by simp

theorem two_bytes (n : Int) (h0 : 0 ≤ n) (h1 : n ≤ 65535) : two n = [UInt8.ofNat (n.toNat / 256), UInt8.ofNat n.toNat] := by
  unfold two
  rw [if_pos ⟨h0, h1⟩]
  simp [be]

theorem own_sum (t : ByteArray) (h : t.size % 2 = 0) : sum16 (t ++ ⟨(two (sum16 t.data.toList)).toArray⟩).data.toList = 0 := by
  rw [append_toList]
  have hb := sum16_bd t.data.toList
  rw [two_bytes _ hb.1 hb.2]
  refine sum16_own _ (by rw [size_toList]; exact h) _ _ ?_
  rw [UInt8.toNat_ofNat', UInt8.toNat_ofNat']
  omega

theorem two_length (n : Int) : (two n).length ≤ 2 := by
  unfold two
  split
  · rw [be_length]; omega
  · simp

theorem two_size (n : Int) : (⟨(two n).toArray⟩ : ByteArray).size ≤ 2 := by
  have := two_length n
  simpa [ByteArray.size] using this
end Oct

set_option maxHeartbeats 1000000 in
theorem octSums_walk (s : ByteArray) (w : World) : Calls Try.prog 5 #[.string s] w fun e w' => e = .returned (.bool true) ∧ Below w.heap.size w w' := by
  have hbel : Below w.heap.size w w := Below.refl _ _
  by_cases h1 : 1000 < s.size
  · go_enter Try.func5, Try.ntmps5
    go_wp2_with (go_at_call 6; refine (awake_any _).mono ?_; rintro e' w1 ⟨rfl, hb1⟩; have hbel := hbel.trans (hb1.mono hbel.size); clear hb1)
    go_ret
    exact ⟨rfl, hbel⟩
  · rcases Nat.mod_two_eq_zero_or_one s.size with hp | hp
    · have HF := Lib.hid (Oct.own_sum s hp)
      have q0 : ((s.size : Int) % 2 == 1) = false := by simp; omega
      clear hp
      have hb := Oct.sum16_bd s.data.toList
      have h2 := Oct.two_size (Oct.sum16 s.data.toList)
      obtain ⟨n, hn⟩ : ∃ n, n = Oct.sum16 s.data.toList := ⟨_, rfl⟩
      obtain ⟨t2, ht2⟩ : ∃ t2 : ByteArray, t2 = ⟨(Oct.two n).toArray⟩ := ⟨_, rfl⟩
      rw [← hn] at HF hb h2
      rw [← ht2] at HF h2
      have HN := Lib.hid hn
      have HT := Lib.hid ht2
      clear hn ht2
      go_enter Try.func5, Try.ntmps5
      go_wp2_with fail
      refine (awake_any _).mono ?_
      rintro e' w1 ⟨rfl, hb1⟩
      go_wp2_with fail
      refine (sum16_any s _ (by omega)).mono ?_
      rintro e' w1 ⟨rfl, rfl⟩
      rw [← HN.out]
      go_wp2_with fail
      refine (two_any n _).mono ?_
      rintro e' w2 ⟨rfl, hb2⟩
      rw [← HT.out]
      go_wp2_with fail
      refine (sum16_any (s ++ t2) _ (by rw [ByteArray.size_append]; omega)).mono ?_
      rintro e' w3 ⟨rfl, rfl⟩
      rw [HF.out]
      go_wp2_with fail
      go_ret
      exact ⟨rfl, hb1.trans (hb2.mono hb1.size)⟩
    · obtain ⟨s2, hs2⟩ : ∃ s2 : ByteArray, s2 = s ++ ⟨#[0]⟩ := ⟨_, rfl⟩
      have hz2 : s2.size = s.size + 1 := by rw [hs2, ByteArray.size_append]; rfl
      have HF := Lib.hid (Oct.own_sum s2 (by omega))
      have hz3 : s2.size ≤ 1001 := by omega
      have q0 : ((s.size : Int) % 2 == 1) = true := by simp; omega
      clear hp hz2
      have hb := Oct.sum16_bd s2.data.toList
      have h2 := Oct.two_size (Oct.sum16 s2.data.toList)
      obtain ⟨n, hn⟩ : ∃ n, n = Oct.sum16 s2.data.toList := ⟨_, rfl⟩
      obtain ⟨t2, ht2⟩ : ∃ t2 : ByteArray, t2 = ⟨(Oct.two n).toArray⟩ := ⟨_, rfl⟩
      rw [← hn] at HF hb h2
      rw [← ht2] at HF h2
      have HN := Lib.hid hn
      have HT := Lib.hid ht2
      have HS2 := Lib.hid hs2
      clear hn ht2 hs2
      go_enter Try.func5, Try.ntmps5
      go_wp2_with fail
      refine (awake_any _).mono ?_
      rintro e' w1 ⟨rfl, hb1⟩
      go_wp2_with fail
      rw [← HS2.out]
      refine (sum16_any s2 _ (by omega)).mono ?_
      rintro e' w1 ⟨rfl, rfl⟩
      rw [← HN.out]
      go_wp2_with fail
      refine (two_any n _).mono ?_
      rintro e' w2 ⟨rfl, hb2⟩
      rw [← HT.out]
      go_wp2_with fail
      refine (sum16_any (s2 ++ t2) _ (by rw [ByteArray.size_append]; omega)).mono ?_
      rintro e' w3 ⟨rfl, rfl⟩
      rw [HF.out]
      go_wp2_with fail
      go_ret
      exact ⟨rfl, hb1.trans (hb2.mono hb1.size)⟩
end Go.Proofs.Ytknnadnjikfibaa
