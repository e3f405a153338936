/- The walk of TunTakes. By an AI agent. -/
import Derived.Test.YtmipdbmmhoacpaaTt4
import Derived.Test.YtmipdbmmhoacpaaOpenOnes
import Derived.Deep.DeepCutAuto
namespace Go.Proofs.Ytmipdbmmhoacpaa
open Go.RowKit Go.Sort Grow

theorem idle_text (w : World) : Calls Try.prog 16 #[] w fun e w' => e = .returned (.string ⟨#[0]⟩) ∧ w = w' := by
  go_enter Try.func16, Try.ntmps16
  go_wp2_with fail
  go_ret
  exact ⟨rfl, rfl⟩

set_option maxRecDepth 20000 in
set_option maxHeartbeats 2000000 in
theorem few_any (ao : Option Addr) (ss : List ByteArray) (cap : Nat) (w : World) (hA : Strs.At w ao ss) (hl : ss.length ≤ 9223372036854775807) (hz : ∀ s ∈ ss, s.size ≤ 9223372036854775807) :
    Calls Try.prog 19 #[.slice ao ss.length cap] w fun e w' => ∃ b, e = .returned (.bool b) ∧ (b = true → ss.length ≤ 60 ∧ ∀ s ∈ ss, s.size ≤ 2000) ∧ w = w' := by
  have HA := Lib.hid hA
  have HZ := Lib.hid hz
  clear hA hz
  generalize hN : ss.length = len at *
  have HN := Lib.hid hN
  clear hN
  go_enter Try.func19, Try.ntmps19
  go_wp2_with fail
  go_loopw [3] (fun i wr => ∃ k : Nat, k ≤ len ∧ k ≤ 61 ∧ i = .int .i64 k ∧ Hid (∀ j (h : j < ss.length), j < k → ss[j].size ≤ 2000) ∧ Hid (w = wr)) (fun i _ => len - (intOf i).toNat)
  case atStart => exact ⟨0, Nat.zero_le _, Nat.zero_le _, rfl, Lib.hid (fun j h h2 => absurd h2 (by omega)), Lib.hid rfl⟩
  case round =>
    rename_i wr
    obtain ⟨k, hk, hk61, rfl, HK, HW⟩ := hrel
    by_cases hlt : k < len
    · by_cases h60 : k ≤ 60
      · have hkl : k < ss.length := by rw [HN.out]; exact hlt
        obtain ⟨b, off, rfl, hb, hc⟩ := HA.out.some_of (by omega)
        obtain ⟨s, hsk⟩ : ∃ s, ∀ h : k < ss.length, ss[k] = s := ⟨ss[k], fun _ => rfl⟩
        have c0 : wr.cell? ⟨b, off + k, none⟩ = some (.string s) := by rw [← HW.out, ← hsk hkl]; exact hc k hkl
        have hzk : s.size ≤ 9223372036854775807 := by rw [← hsk hkl]; exact HZ.out ss[k] (List.getElem_mem hkl)
        have HSK := Lib.hid hsk
        clear hsk hc hkl
        by_cases hbig : s.size ≤ 2000
        · go_wp2_with fail
          refine ⟨⟨k + 1, by omega, by omega, by go_num, Lib.hid (fun j h h2 => ?_), HW⟩, by simp [intOf]; omega⟩
          by_cases hj : j < k
          · exact HK.out j h hj
          · obtain rfl : j = k := by omega
            rw [HSK.out h]
            exact hbig
        · go_wp2_with fail
          go_ret
          exact ⟨false, rfl, fun h => (by cases h), HW.out⟩
      · go_wp2_with fail
        go_ret
        exact ⟨_, rfl, fun h => absurd (of_decide_eq_true h) (by omega), HW.out⟩
    · obtain rfl : k = len := by omega
      go_wp2_with fail
      go_ret
      refine ⟨_, rfl, fun hd => ⟨?_, fun s hs => ?_⟩, HW.out⟩
      · have := of_decide_eq_true hd
        omega
      · obtain ⟨j, hj, rfl⟩ := List.mem_iff_getElem.1 hs
        exact HK.out j hj (by rw [← HN.out]; exact hj)

set_option maxRecDepth 20000 in
set_option maxHeartbeats 8000000 in
theorem tunTakes_walk (ao : Option Addr) (ss : List ByteArray) (cap : Nat) (w : World) (hl : ss.length ≤ 9223372036854775807) (hA : Strs.At w ao ss) (hz : ∀ s ∈ ss, s.size ≤ 9223372036854775807) :
    Calls Try.prog 8 #[.slice ao ss.length cap] w fun e w' => e = .returned (.bool true) ∧ Below w.heap.size w w' := by
  have HA := Lib.hid hA
  have HZ := Lib.hid hz
  have HLM := Lib.hid hl
  clear hA hz hl
  go_enter Try.func8, Try.ntmps8
  go_wp2_with fail
  refine (awake_any _).mono ?_
  rintro e w1 ⟨rfl, hb1⟩
  have HF := Lib.hid (few_any ao ss cap w1 (HA.out.later hb1) HLM.out HZ.out)
  go_wp2_with fail
  refine HF.out.mono ?_
  rintro e w2 ⟨b, rfl, hbt, rfl⟩
  clear HF
  cases b with
  | false =>
    go_wp2_with fail
    refine (awake_any _).mono ?_
    rintro e w2 ⟨rfl, hb2⟩
    go_wp2_with fail
    go_ret
    exact ⟨rfl, hb1.trans (hb2.mono hb1.size)⟩
  | true =>
    obtain ⟨h60, hz⟩ := hbt rfl
    have HZ := Lib.hid hz
    have HA := Lib.hid (HA.out.later hb1)
    clear hbt hz HLM
    go_upto_region 4 with fail
    have hJ0 := joinIs_new w1 w1.heap.size (Nat.le_refl _)
    have HJ0 : Hid (JIs w1.heap.size w1.heap.size (w1.alloc (.cells #[.slice none 0 0, .map none] 48)) []) := ⟨[], hJ0, rfl⟩
    have hb3 : Below w1.heap.size w1 (w1.alloc (.cells #[.slice none 0 0, .map none] 48)) := (Below.refl _ _).alloc (Nat.le_refl _) _
    clear hJ0
    generalize (w1.alloc (.cells #[.slice none 0 0, .map none] 48)) = w3 at *
    have hBw : w.heap.size ≤ w1.heap.size := hb1.size
    generalize hB : w1.heap.size = B at *
    go_wp2_with fail
    generalize hN : ss.length = len at *
    have HN := Lib.hid hN
    clear hN
    go_loopw [4, 5] (fun m i wr => ∃ (k : Nat) (La : List Ab) (M : List RT), k ≤ len ∧ i = .int .i64 k ∧ Hid (TAt wr m M) ∧ Hid (Pairs La M) ∧ Hid (Fine M) ∧ Hid (JIs B B wr La) ∧ Below B w1 wr) (fun _ i _ => len - (intOf i).toNat)
    case atStart => exact ⟨0, [], [], Nat.zero_le _, rfl, Lib.hid (.inl ⟨rfl, rfl⟩), Lib.hid .nil, Lib.hid ⟨Nat.zero_le _, fun t h => by cases h⟩, HJ0, hb3⟩
    case round =>
      clear HJ0 hb3
      rename_i wr
      obtain ⟨k, La, M, hk, rfl, HT, HP, HFI, HJ, hbr⟩ := hrel
      have hBr : B ≤ wr.heap.size := by rw [← hB]; exact hbr.size
      by_cases hlt : k < len
      · have hkl : k < ss.length := by rw [HN.out]; exact hlt
        obtain ⟨b, off, rfl, hb, hc⟩ := HA.out.some_of (by omega)
        have c0 : wr.cell? ⟨b, off + k, none⟩ = some (.string ss[k]) := by
          rw [← hc k hkl]
          exact hbr.cell (p := ⟨b, off + k, none⟩) (by rw [← hB]; exact hb)
        have hbl : b < wr.heap.size := Nat.lt_of_lt_of_le hb (by rw [hB]; exact hBr)
        have HR := Lib.hid (both_step ss[k] (HZ.out _ (List.getElem_mem hkl)) _ La M wr HT.out HP.out HFI.out)
        generalize ss[k] = s at *
        clear hc hkl HT HP HFI
        go_upto_region 8 with fail
        go_wp2_with fail
        refine HR.out.mono ?_
        rintro e w4 ⟨⟨v', T', ok, er, L', M', rfl, hT4, hP4, hF4, hto⟩, hb4⟩
        have HT4 := Lib.hid hT4
        have HP4 := Lib.hid hP4
        have HF4 := Lib.hid hF4
        have hbr4 := hbr.trans (hb4.mono hBr)
        have hBr4 := Nat.le_trans hBr hb4.size
        have c4 : w4.cell? ⟨b, off + k, none⟩ = some (.string s) := (hb4.cell (p := ⟨b, off + k, none⟩) hbl).trans c0
        have HTK := Lib.hid (hto B B w4 hBr4 (HJ.out.later hb4))
        clear hT4 hP4 hF4 hto hb4 HR c0 HJ hbl
        go_upto_region 10 with fail
        go_wp2_with fail
        refine HTK.out.mono ?_
        rintro e w5 ⟨rfl, hj5, hb5, ho5⟩
        have HT5 := Lib.hid (HT4.out.others ho5)
        obtain ⟨ao', cap', rfl⟩ := HT4.out.len
        have HJ5 := Lib.hid hj5
        have hbr5 := hbr4.trans hb5
        have HH := Lib.hid (held_any B B L' w5 hj5)
        rw [HP4.out.len] at HH
        have h8 := HF4.out.1
        clear hj5 hb5 ho5 HTK HT4 c4 hbr4 hBr4
        generalize hM : M'.length = m' at *
        have HM := Lib.hid hM
        clear hM
        go_upto_region 11 with fail
        go_wp2_with fail
        refine HH.out.mono ?_
        rintro e w6 ⟨rfl, rfl⟩
        go_wp2_with fail
        refine HH.out.mono ?_
        rintro e w6 ⟨rfl, rfl⟩
        go_wp2_with fail
        refine ⟨⟨k + 1, L', M', by omega, by go_num, HT5, HP4, HF4, HJ5, hbr5⟩, by simp [intOf]; omega⟩
      · obtain rfl : k = len := by omega
        go_wp2_with fail
        refine (idle_text _).mono ?_
        rintro e w4 ⟨rfl, rfl⟩
        go_wp2_with fail
        refine (take_nil _ _).mono ?_
        rintro e w4 ⟨rfl, rfl⟩
        go_wp2_with fail
        refine (held_nil _).mono ?_
        rintro e w4 ⟨rfl, rfl⟩
        go_wp2_with fail
        go_ret
        exact ⟨rfl, hb1.trans (hbr.mono (by rw [← hB] at hBw ⊢; exact hBw))⟩
end Go.Proofs.Ytmipdbmmhoacpaa
