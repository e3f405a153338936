/- The walks of OctAdds, OctSums, OctTexts. By an AI agent. -/
import Derived.Test.YtknnadnjikfibaaDoorOctTextsLaw
import Derived.Test.YtknnadnjikfibaaDoorSum16
import Derived.Test.YtknnadnjikfibaaDoorLaid
import Derived.Deep.RegionHeld3
namespace Go.Proofs.YtknnadnjikfibaaDoor
open Go.RowKit

theorem mac_awake (w : World) : Calls Tryd.prog 9 #[.agg #[.int .u8 0, .int .u8 1, .int .u8 2, .int .u8 3, .int .u8 4, .int .u8 255]] w
    fun e w' => e = .returned (.string ⟨#[48, 48, 58, 48, 49, 58, 48, 50, 58, 48, 51, 58, 48, 52, 58, 102, 102]⟩) ∧ Below w.heap.size w w' :=
  macText_any 0 1 2 3 4 255 w

theorem awake_any (w : World) : Calls Tryd.prog 6 #[] w fun e w' => e = .returned (.bool true) ∧ Below w.heap.size w w' := by
  go_enter Tryd.func6, Tryd.ntmps6
  go_wp2_with (go_at_call 9; refine (mac_awake _).mono ?_; rintro e' w1 ⟨rfl, hb1⟩)
  go_ret
  exact ⟨rfl, hb1⟩

namespace Oct
theorem append_toList (a b : ByteArray) : (a ++ b).data.toList = a.data.toList ++ b.data.toList := by simp [ByteArray.data_append]
theorem size_toList (a : ByteArray) : a.data.toList.length = a.size := by simp

theorem two_bytes (n : Int) (h0 : 0 ≤ n) (h1 : n ≤ 65535) : two n = [UInt8.ofNat (n.toNat / 256), UInt8.ofNat n.toNat] := by
  unfold two
  rw [if_pos ⟨h0, h1⟩]
  simp [be]

theorem own_sum (t : ByteArray) (h : t.size % 2 = 0) : sum16 (t ++ ⟨(two (sum16 t.data.toList)).toArray⟩).data.toList = 0 := by
  rw [append_toList]
  have hb := sum16_bd t.data.toList
  rw [two_bytes _ hb.1 hb.2]
  refine sum16_own _ (by rw [size_toList]; exact h) _ _ ?_
  rw [UInt8.toNat_ofNat', UInt8.toNat_ofNat']
  omega

theorem two_length (n : Int) : (two n).length ≤ 2 := by
  unfold two
  split
  · rw [be_length]; omega
  · simp

theorem two_size (n : Int) : (⟨(two n).toArray⟩ : ByteArray).size ≤ 2 := by
  have := two_length n
  simpa [ByteArray.size] using this
end Oct

end Go.Proofs.YtknnadnjikfibaaDoor
