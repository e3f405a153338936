/- bpdu.within, bpdu.flags, bpdu.Print. By an AI agent. -/
import Derived.Test.YtdhiaidbpjjljaaBpduAwake
import Derived.Test.YtdhiaidbpjjljaaLaid
import Derived.Test.YtdhiaidbpjjljaaGrowKit
import Derived.Test.YtdhiaidbpjjljaaLess
import Derived.Outline
namespace Go.Proofs.Ytdhiaidbpjjljaa
open Go.RowKit Go.Sort Grow

namespace Bpdu
/-- are numbers from 0 to a limit? -/
def inB (most : Int) (zs : List Int) : Bool := zs.all fun n => decide (0 ≤ n) && decide (n ≤ most)
def fl (ch ak : Bool) : UInt8 := (if ch then 1 else 0) + (if ak then 128 else 0)
/-- may a word be printed? -/
def right (co po ag ma he de : Int) : Bool := inB 4294967295 [co] && inB 65535 [po, ag, ma, he, de] && decide (ag < ma)
theorem inB_snoc (most : Int) (zs : List Int) (n : Int) : inB most (zs ++ [n]) = (inB most zs && (decide (0 ≤ n) && decide (n ≤ most))) := by simp [inB, List.all_append]
theorem inB_false {most : Int} {zs : List Int} {n : Int} (h : n ∈ zs) (h2 : n < 0 ∨ most < n) : inB most zs = false := by
  unfold inB
  rw [List.all_eq_false]
  exact ⟨n, h, by simp; omega⟩
end Bpdu

set_option maxRecDepth 20000 in
set_option maxHeartbeats 1000000 in
theorem within_any (most : Int) (zs : List Int) (b cap : Nat) (w : World) (hc : ∀ i, i < zs.length → w.cell? ⟨b, i, none⟩ = some (.int .i64 (zs.getD i 0))) (hz : zs.length ≤ 1000) :
    Calls Try.prog 49 #[.int .i64 most, .slice (some ⟨b, 0, none⟩) zs.length cap] w fun e w' => e = .returned (.bool (Bpdu.inB most zs)) ∧ w = w' := by
  have HC := Lib.hid hc
  clear hc
  go_enter Try.func49, Try.ntmps49
  go_wp2_with fail
  go_loop [9] (fun i => ∃ k : Nat, k ≤ zs.length ∧ i = .int .i64 k ∧ Hid (Bpdu.inB most (zs.take k) = true)) (fun i => zs.length - (intOf i).toNat)
  case atStart => exact ⟨0, Nat.zero_le _, rfl, rfl⟩
  case round =>
    obtain ⟨k, hk, rfl, hall⟩ := hrel
    by_cases hlt : k < zs.length
    · have hcell := HC.out k hlt
      have htk : zs.take (k + 1) = zs.take k ++ [zs.getD k 0] := by rw [List.take_succ_eq_append_getElem hlt, List.getD, List.getElem?_eq_getElem hlt]; rfl
      have hmem : zs.getD k 0 ∈ zs := by rw [List.getD, List.getElem?_eq_getElem hlt]; exact List.getElem_mem hlt
      generalize zs.getD k 0 = x at hcell htk hmem
      have HTK := Lib.hid htk
      have HM := Lib.hid hmem
      clear htk hmem
      by_cases h1 : x < 0
      · have HF := Lib.hid (Bpdu.inB_false (most := most) HM.out (Or.inl h1))
        go_wp2_with fail
        go_ret
        exact ⟨by rw [HF.out]; rfl, rfl⟩
      · by_cases h2 : most < x
        · have HF := Lib.hid (Bpdu.inB_false (most := most) HM.out (Or.inr h2))
          go_wp2_with fail
          go_ret
          exact ⟨by rw [HF.out]; rfl, rfl⟩
        · go_wp2_with fail
          refine ⟨⟨k + 1, by omega, by go_num, ?_⟩, by simp [intOf]; omega⟩
          show _ = _
          rw [HTK.out, Bpdu.inB_snoc, hall.out, decide_eq_true (by omega), decide_eq_true (by omega)]
          rfl
    · go_wp2_with fail
      go_ret
      have hl : zs.take k = zs := List.take_of_length_le (by omega)
      have h := hall.out
      rw [hl] at h
      exact ⟨by rw [h]; rfl, rfl⟩

set_option maxRecDepth 20000 in
theorem flags_any (r b : Nat → UInt8) (co po ag ma he de : Int) (ch ak : Bool) (w : World) :
    Calls Try.prog 50 #[.agg #[.int .u8 ((r 0).toNat : Int), .int .u8 ((r 1).toNat : Int), .int .u8 ((r 2).toNat : Int), .int .u8 ((r 3).toNat : Int), .int .u8 ((r 4).toNat : Int), .int .u8 ((r 5).toNat : Int), .int .u8 ((r 6).toNat : Int), .int .u8 ((r 7).toNat : Int), .int .u8 ((b 0).toNat : Int), .int .u8 ((b 1).toNat : Int), .int .u8 ((b 2).toNat : Int), .int .u8 ((b 3).toNat : Int), .int .u8 ((b 4).toNat : Int), .int .u8 ((b 5).toNat : Int), .int .u8 ((b 6).toNat : Int), .int .u8 ((b 7).toNat : Int), .int .i64 co, .int .i64 po, .int .i64 ag, .int .i64 ma, .int .i64 he, .int .i64 de, .bool ch, .bool ak]] w fun e w' => e = .returned (.int .u8 ((Bpdu.fl ch ak).toNat : Int)) ∧ Below w.heap.size w w' := by
  cases ch <;> cases ak
  all_goals
    go_enter Try.func50, Try.ntmps50
    go_wp2_with fail
    go_ret
    exact ⟨rfl, (Below.refl _ _).alloc (Nat.le_refl _) _⟩
end Go.Proofs.Ytdhiaidbpjjljaa
