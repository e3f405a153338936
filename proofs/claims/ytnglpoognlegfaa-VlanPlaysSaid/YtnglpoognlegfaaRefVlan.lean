/- The document's Right and Member. By an AI agent. -/
import Derived.Test.YtnglpoognlegfaaVlan
import Derived.BigQuiet
import Derived.WalkSmall
namespace Go.Proofs.Ytnglpoognlegfaa
open Go.RowKit

namespace Vlan
theorem bad_zero (native v : Int) : bad native 0 v = (decide (v < 1) || decide (4094 < v) || v == native) := by
  unfold bad
  rw [decide_eq_decide.2 (show v ≤ 0 ↔ v < 1 from by omega)]
theorem bad_more (native last v : Int) (h : 1 ≤ last) : bad native last v = (decide (v < 1) || decide (4094 < v) || v == native || decide (v ≤ last)) := by
  unfold bad
  rw [Bool.eq_iff_iff]
  simp only [Bool.or_eq_true, decide_eq_true_eq]
  constructor
  · rintro ((h | h) | h)
    · exact Or.inr h
    · exact Or.inl (Or.inl (Or.inr h))
    · exact Or.inl (Or.inr h)
  · rintro (((h' | h) | h) | h)
    · exact Or.inl (Or.inl (by omega))
    · exact Or.inl (Or.inr h)
    · exact Or.inr h
    · exact Or.inl (Or.inl h)
end Vlan

set_option maxHeartbeats 1000000 in
theorem refRight_any (native : Int) (ao : Option Addr) (zs : List Int) (cap : Nat) (w : World) (h : IntsAt w ao zs) (hz : zs.length ≤ 1000000) :
    Calls Try.prog 16 #[.int .i64 native, .slice ao zs.length cap] w fun e w' => e = .returned (.bool (Vlan.right native zs)) ∧ Below w.heap.size w w' := by
  by_cases h1 : native < 0
  · have e : Vlan.right native zs = false := by unfold Vlan.right; rw [decide_eq_false (show ¬ 0 ≤ native by omega)]; rfl
    rw [e]
    go_enter Try.func16, Try.ntmps16
    go_wp2_with fail
    go_ret
    exact ⟨rfl, Below.refl _ _⟩
  by_cases h2 : 4094 < native
  · have e : Vlan.right native zs = false := by unfold Vlan.right; rw [decide_eq_false (show ¬ native ≤ 4094 by omega)]; simp
    rw [e]
    go_enter Try.func16, Try.ntmps16
    go_wp2_with fail
    go_ret
    exact ⟨rfl, Below.refl _ _⟩
  by_cases h3 : 64 < zs.length
  · have e : Vlan.right native zs = false := by unfold Vlan.right; rw [decide_eq_false (show ¬ zs.length ≤ 64 by omega)]; simp
    rw [e]
    go_enter Try.func16, Try.ntmps16
    go_wp2_with fail
    go_ret
    exact ⟨rfl, Below.refl _ _⟩
  have e : Vlan.right native zs = Vlan.rightFrom native 0 zs := by
    unfold Vlan.right; rw [decide_eq_true (show 0 ≤ native by omega), decide_eq_true (show native ≤ 4094 by omega), decide_eq_true (show zs.length ≤ 64 by omega)]; rfl
  rw [e]
  clear e
  rcases h with rfl | ⟨b, off, rfl, hc⟩
  · go_enter Try.func16, Try.ntmps16
    go_wp2_with fail
    refine wp_loop_rounds 1 ?_
    rw [rounds_succ]
    go_wp2_with fail
    go_ret
    exact ⟨rfl, Below.refl _ _⟩
  · have hlt0 : ∀ i, i < zs.length → w.cell? ⟨b, off + i, none⟩ = some (.int .i64 (zs.getD i 0)) ∧ b < w.heap.size := fun i hi => ⟨hc i hi, IntsAt.lt (Or.inr ⟨b, off, rfl, hc⟩) b off rfl (by omega)⟩
    have HC := Lib.hid hlt0
    clear hc hlt0
    go_enter Try.func16, Try.ntmps16
    go_wp2_with fail
    go_loopw [5] (fun i wr => ∃ (k : Nat) (last : Int), k ≤ zs.length ∧ i = .int .i64 k ∧ Below w.heap.size w wr ∧ Hid (Vlan.rightFrom native 0 zs = Vlan.rightFrom native last (zs.drop k)) ∧ (k = 0 ∧ last = 0 ∨ 1 ≤ k ∧ 1 ≤ last ∧ wr.cell? ⟨b, off + (k - 1), none⟩ = some (.int .i64 last))) (fun i _ => zs.length - (intOf i).toNat)
    case atStart => exact ⟨0, 0, Nat.zero_le _, rfl, Below.refl _ _, rfl, Or.inl ⟨rfl, rfl⟩⟩
    case round =>
      obtain ⟨k, last, hk, rfl, hbel, hrf, hlast⟩ := hrel
      by_cases hlt : k < zs.length
      · have hcell : wr.cell? ⟨b, off + k, none⟩ = some (.int .i64 (zs.getD k 0)) := by
          rw [hbel.cell (p := ⟨b, off + k, none⟩) (HC.out k hlt).2]
          exact (HC.out k hlt).1
        have hdrop : zs.drop k = zs.getD k 0 :: zs.drop (k + 1) := by
          rw [List.drop_eq_getElem_cons hlt, List.getD, List.getElem?_eq_getElem hlt]; rfl
        generalize zs.getD k 0 = v at hcell hdrop
        have HD := Lib.hid hdrop
        clear hdrop
        rcases hlast with ⟨rfl, rfl⟩ | ⟨hk1, hl1, hlc⟩
        · have hcell0 : wr.cell? ⟨b, off, none⟩ = some (.int .i64 v) := by simpa using hcell
          cases q1 : decide (v < 1) <;> cases q2 : decide (4094 < v) <;> cases q3 : (v == native)
          all_goals
            have hb0 := Vlan.bad_zero native v
            rw [q1, q2, q3] at hb0
            have HB := Lib.hid hb0
            clear hb0
            go_wp2_with fail
            go_quiet (fail)
            go_wp2_with fail
            first
              | (go_ret
                 refine ⟨?_, below_drewN hbel _⟩
                 rw [hrf.out, HD.out, Vlan.rightFrom_cons, HB.out]
                 rfl)
              | (refine ⟨⟨0 + 1, v, by omega, by go_num, below_drewN hbel _, ?_, Or.inr ⟨by omega, ?_, hcell⟩⟩, by simp [intOf]; omega⟩
                 · show _ = _
                   rw [hrf.out, HD.out, Vlan.rightFrom_cons, HB.out]
                   rfl
                 · have := of_decide_eq_false q1
                   omega)
        · obtain ⟨j, rfl⟩ : ∃ j, k = j + 1 := ⟨k - 1, by omega⟩
          rw [show off + (j + 1 - 1) = off + j from by omega] at hlc
          rw [show (((j + 1 : Nat) : Int)) = (j : Int) + 1 from by omega]
          cases q1 : decide (v < 1) <;> cases q2 : decide (4094 < v) <;> cases q3 : (v == native) <;> cases q4 : decide (v ≤ last)
          all_goals
            have hb0 := Vlan.bad_more native last v hl1
            rw [q1, q2, q3, q4] at hb0
            have HB := Lib.hid hb0
            clear hb0
            go_wp2_with fail
            go_quiet (fail)
            go_wp2_with fail
            first
              | (go_ret
                 refine ⟨?_, below_drewN hbel _⟩
                 rw [hrf.out, HD.out, Vlan.rightFrom_cons, HB.out]
                 rfl)
              | (refine ⟨⟨j + 1 + 1, v, by omega, by go_num, below_drewN hbel _, ?_, Or.inr ⟨by omega, ?_, hcell⟩⟩, by simp [intOf]; omega⟩
                 · show _ = _
                   rw [hrf.out, HD.out, Vlan.rightFrom_cons, HB.out]
                   rfl
                 · have := of_decide_eq_false q1
                   omega)
      · go_wp2_with fail
        go_ret
        have hall : zs.drop k = [] := List.drop_eq_nil_of_le (by omega)
        have h := hrf.out
        rw [hall] at h
        exact ⟨by rw [h]; rfl, hbel⟩

set_option maxHeartbeats 1000000 in
theorem refMember_any (native : Int) (ao : Option Addr) (zs : List Int) (cap : Nat) (v : Int) (w : World) (h : IntsAt w ao zs) (hz : zs.length ≤ 1000000) :
    Calls Try.prog 14 #[.int .i64 native, .slice ao zs.length cap, .int .i64 v] w fun e w' => e = .returned (.bool (Vlan.member native zs v)) ∧ Below w.heap.size w w' := by
  have HZ := Lib.hid h
  clear h
  cases hr : Vlan.right native zs
  · have e : Vlan.member native zs v = false := by unfold Vlan.member; rw [hr]; rfl
    rw [e]
    go_enter Try.func14, Try.ntmps14
    go_wp2_with fail
    refine (refRight_any native ao zs cap _ HZ.out hz).mono ?_
    rintro e w1 ⟨rfl, hb2⟩
    go_wp2_with fail
    go_ret
    exact ⟨rfl, hb2⟩
  · cases h0 : (v == 0)
    · cases hn : (v == native)
      · have e : Vlan.member native zs v = decide (v ∈ zs) := by unfold Vlan.member; rw [hr, h0, hn]; rfl
        rw [e]
        go_enter Try.func14, Try.ntmps14
        go_wp2_with fail
        refine (refRight_any native ao zs cap _ HZ.out hz).mono ?_
        rintro e w1 ⟨rfl, hb2⟩
        have HZ := Lib.hid (HZ.out.after hb2)
        rcases HZ.out with rfl | ⟨b, off, rfl, hc⟩
        · go_wp2_with fail
          refine wp_loop_rounds 1 ?_
          rw [rounds_succ]
          go_wp2_with fail
          go_ret
          exact ⟨rfl, hb2⟩
        · have HC := Lib.hid hc
          clear hc
          go_wp2_with fail
          go_loop [7] (fun i => ∃ k : Nat, k ≤ zs.length ∧ i = .int .i64 k ∧ Hid (v ∉ zs.take k)) (fun i => zs.length - (intOf i).toNat)
          case atStart => exact ⟨0, Nat.zero_le _, rfl, by show _ ∉ _; simp⟩
          case round =>
            obtain ⟨k, hk, rfl, hnot⟩ := hrel
            by_cases hlt : k < zs.length
            · have hcell := HC.out k hlt
              have htk : zs.take (k + 1) = zs.take k ++ [zs.getD k 0] := by rw [List.take_succ_eq_append_getElem hlt, List.getD, List.getElem?_eq_getElem hlt]; rfl
              have hmem : zs.getD k 0 ∈ zs := by rw [List.getD, List.getElem?_eq_getElem hlt]; exact List.getElem_mem hlt
              generalize zs.getD k 0 = x at hcell htk hmem
              have HTK := Lib.hid htk
              have HM := Lib.hid hmem
              clear htk hmem
              cases hq : (x == v)
              · go_wp2_with fail
                refine ⟨⟨k + 1, by omega, by go_num, ?_⟩, by simp [intOf]; omega⟩
                show _ ∉ _
                rw [HTK.out, List.mem_append, not_or]
                exact ⟨hnot.out, by have hq : x ≠ v := by simpa using hq
                                    simpa using fun h => hq h.symm⟩
              · go_wp2_with fail
                go_ret
                have hxv : x = v := by simpa using hq
                exact ⟨ret_bool (by rw [← hxv]; exact (decide_eq_true HM.out).symm), hb2⟩
            · go_wp2_with fail
              go_ret
              have hall : zs.take k = zs := List.take_of_length_le (by omega)
              have hno := hnot.out
              rw [hall] at hno
              exact ⟨ret_bool (decide_eq_false hno).symm, hb2⟩
      · have e : Vlan.member native zs v = true := by unfold Vlan.member; rw [hr, h0, hn]; rfl
        rw [e]
        go_enter Try.func14, Try.ntmps14
        go_wp2_with fail
        refine (refRight_any native ao zs cap _ HZ.out hz).mono ?_
        rintro e w1 ⟨rfl, hb2⟩
        go_wp2_with fail
        go_ret
        exact ⟨rfl, hb2⟩
    · have e : Vlan.member native zs v = false := by unfold Vlan.member; rw [hr, h0]; rfl
      rw [e]
      go_enter Try.func14, Try.ntmps14
      go_wp2_with fail
      refine (refRight_any native ao zs cap _ HZ.out hz).mono ?_
      rintro e w1 ⟨rfl, hb2⟩
      go_wp2_with fail
      go_ret
      exact ⟨rfl, hb2⟩
end Go.Proofs.Ytnglpoognlegfaa
