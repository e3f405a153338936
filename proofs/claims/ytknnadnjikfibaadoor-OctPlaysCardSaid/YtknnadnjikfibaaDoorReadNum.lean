/- oct.number: a number from 0 to 255 as it is written. By an AI agent. -/
import Derived.Test.YtknnadnjikfibaaDoorOctTextsLaw
import Derived.Test.YtknnadnjikfibaaDoorReadMac
namespace Go.Proofs.YtknnadnjikfibaaDoor
open Go.RowKit

namespace Oct
def numP (l : List UInt8) : Option Nat := if numOf l < 256 ∧ dec8 (numOf l) = l then some (numOf l) else none
theorem numP_digits {l : List UInt8} {n : Nat} (h : numP l = some n) : (∀ d ∈ l, 48 ≤ d.toNat ∧ d.toNat ≤ 57) ∧ 1 ≤ l.length ∧ l.length ≤ 3 := by
  unfold numP at h
  by_cases hc : numOf l < 256 ∧ dec8 (numOf l) = l
  · have h1 := decF_digits 2 (numOf l)
    have h2 := decF_pos 2 (numOf l)
    have h3 := decF_length 2 (numOf l)
    have e : decF 2 (numOf l) = l := hc.2
    rw [e] at h1 h2 h3
    exact ⟨h1, h2, h3⟩
  · rw [if_neg hc] at h
    cases h
theorem numP_none_len {l : List UInt8} (h : l.length = 0 ∨ 3 < l.length) : numP l = none := by
  cases hn : numP l with
  | none => rfl
  | some n => have := numP_digits hn; omega
theorem numP_none_digit {l : List UInt8} {d : UInt8} (hd : d ∈ l) (h : d.toNat < 48 ∨ 57 < d.toNat) : numP l = none := by
  cases hn : numP l with
  | none => rfl
  | some n => have := (numP_digits hn).1 d hd; omega
theorem numOf_take (s : ByteArray) (k : Nat) (h : k < s.size) : numOf (s.data.toList.take (k + 1)) = 10 * numOf (s.data.toList.take k) + (s[k].toNat - 48) := by
  have hg : s.data.toList[k]? = some s[k] := by simp [ByteArray.getElem_eq_getElem_data, show k < s.data.size from h]
  rw [List.take_add_one, hg]
  exact numOf_snoc _ _
theorem numP_lt {l : List UInt8} {n : Nat} (h : numP l = some n) : n < 256 := by
  unfold numP at h
  by_cases hc : numOf l < 256 ∧ dec8 (numOf l) = l
  · rw [if_pos hc] at h
    have := Option.some.inj h
    omega
  · rw [if_neg hc] at h
    cases h
end Oct

def NumAns (s : ByteArray) (e : Ending) : Prop := ∃ (v : Int) (b : Bool), e = .returned (.tuple #[.int .u8 v, .bool b]) ∧ ((b = true ∧ ∃ n : Nat, v = n ∧ Oct.numP s.data.toList = some n) ∨ (b = false ∧ Oct.numP s.data.toList = none))

set_option maxRecDepth 20000 in
set_option maxHeartbeats 2000000 in
theorem readNumber_any (s : ByteArray) (w : World) : Calls Tryd.prog 25 #[.string s] w fun e w' => NumAns s e ∧ Below w.heap.size w w' := by
  have hsl : s.data.toList.length = s.size := by simp
  by_cases h0 : s.size = 0
  · obtain rfl : s = ⟨#[]⟩ := by
      apply ByteArray.ext
      apply Array.eq_empty_of_size_eq_zero
      exact h0
    go_enter Tryd.func25, Tryd.ntmps25
    go_wp2_with fail
    go_ret2
    exact ⟨⟨_, _, rfl, .inr ⟨rfl, Oct.numP_none_len (.inl rfl)⟩⟩, Below.refl _ _⟩
  have he : s.toList.isEmpty = false := by
    rw [Lib.toList_data]
    cases hl : s.data.toList with
    | nil => rw [hl] at hsl; simp at hsl; omega
    | cons a l => rfl
  by_cases h3 : 3 < s.size
  · have d1 : decide (3 < (s.size : Int)) = true := decide_eq_true (by omega)
    have hno := Oct.numP_none_len (l := s.data.toList) (.inr (by omega))
    go_enter Tryd.func25, Tryd.ntmps25
    go_wp2_with fail
    go_ret2
    exact ⟨⟨_, _, rfl, .inr ⟨rfl, hno⟩⟩, Below.refl _ _⟩
  have d1 : decide (3 < (s.size : Int)) = false := decide_eq_false (by omega)
  clear hsl
  go_enter Tryd.func25, Tryd.ntmps25
  go_wp2_with fail
  go_loop [4, 15] (fun n i => ∃ k m : Nat, k ≤ s.size ∧ i = .int .i64 k ∧ n = .int .i64 m ∧ m < 10 ^ k ∧ Hid (m = Oct.numOf (s.data.toList.take k))) (fun _ i => s.size - (intOf i).toNat)
  case atStart => exact ⟨0, 0, Nat.zero_le _, rfl, rfl, by decide, rfl⟩
  case round =>
    obtain ⟨k, m, hk, rfl, rfl, hmk, hm⟩ := hrel
    have hm999 : m < 1000 := Nat.lt_of_lt_of_le hmk (Nat.le_trans (Nat.pow_le_pow_right (by decide) (show k ≤ 3 by omega)) (by decide))
    by_cases hlt : k < s.size
    · have hb := s[k].toNat_lt
      have HT := Lib.hid (Oct.numOf_take s k hlt)
      have hmem : s[k] ∈ s.data.toList := by
        rw [ByteArray.getElem_eq_getElem_data]
        simp
      by_cases hd : s[k].toNat < 48
      · have hno := Oct.numP_none_digit hmem (.inl hd)
        clear hmk
        go_wp2_with fail
        go_ret2
        exact ⟨⟨_, _, rfl, .inr ⟨rfl, hno⟩⟩, Below.refl _ _⟩
      · by_cases hd2 : 57 < s[k].toNat
        · have hno := Oct.numP_none_digit hmem (.inr hd2)
          clear hmk
          go_wp2_with fail
          go_ret2
          exact ⟨⟨_, _, rfl, .inr ⟨rfl, hno⟩⟩, Below.refl _ _⟩
        · have hpow : 10 * m + (s[k].toNat - 48) < 10 ^ (k + 1) := by rw [Nat.pow_succ]; omega
          have HPOW := Lib.hid hpow
          clear hmk hpow hmem
          go_wp2_with fail
          refine ⟨⟨k + 1, 10 * m + (s[k].toNat - 48), by omega, by go_num, by go_num, HPOW.out, ?_⟩, by simp [intOf]; omega⟩
          show _ = _
          rw [HT.out, hm.out]
    · have hm2 := hm.out
      rw [List.take_of_length_le (by simp; omega)] at hm2
      have HM := Lib.hid hm2
      clear hm hm2 hmk
      by_cases h255 : m ≤ 255
      · have HD := Lib.hid (fun w => decimal_any 2 (by decide) m w (by omega) (by omega))
        have d2 : decide ((m : Int) ≤ 255) = true := decide_eq_true (by omega)
        go_wp2_with fail
        refine (HD.out _).mono ?_
        rintro e w2 ⟨rfl, hb2⟩
        go_wp2_with fail
        go_ret2
        refine ⟨⟨_, _, rfl, ?_⟩, hb2⟩
        have hs1 : (Oct.decF 2 m == s.toList) = decide (Oct.dec8 m = s.data.toList) := by
          rw [Lib.toList_data, Bool.eq_iff_iff, beq_iff_eq, decide_eq_true_iff]
          rfl
        rw [hs1]
        by_cases hq : Oct.dec8 m = s.data.toList
        · refine .inl ⟨decide_eq_true hq, m, rfl, ?_⟩
          unfold Oct.numP
          rw [← HM.out, if_pos ⟨by omega, hq⟩]
        · refine .inr ⟨decide_eq_false hq, ?_⟩
          unfold Oct.numP
          rw [← HM.out, if_neg (fun h => hq h.2)]
      · have d2 : decide ((m : Int) ≤ 255) = false := decide_eq_false (by omega)
        go_wp2_with fail
        go_ret2
        refine ⟨⟨_, _, rfl, .inr ⟨rfl, ?_⟩⟩, Below.refl _ _⟩
        unfold Oct.numP
        rw [if_neg]
        rintro ⟨h1, _⟩
        rw [← HM.out] at h1
        omega
end Go.Proofs.YtknnadnjikfibaaDoor
