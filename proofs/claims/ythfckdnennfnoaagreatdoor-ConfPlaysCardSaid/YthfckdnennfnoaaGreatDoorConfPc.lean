/- The document's Right and Member. By an AI agent. -/
import Derived.Test.YthfckdnennfnoaaGreatDoorVlan
import Derived.BigQuiet
import Derived.WalkSmall
import Derived.Test.YthfckdnennfnoaaGreatDoorConfE
import Derived.Test.YthfckdnennfnoaaGreatDoorConfPb
import Derived.Test.YthfckdnennfnoaaGreatDoorConfA
import Derived.Test.YthfckdnennfnoaaGreatDoorSpan3
namespace Go.Proofs.YthfckdnennfnoaaGreatDoor
open Go.RowKit

namespace Vlan
theorem bad_zero (native v : Int) : bad native 0 v = (decide (v < 1) || decide (4094 < v) || v == native) := by
  unfold bad
  rw [decide_eq_decide.2 (show v ≤ 0 ↔ v < 1 from by omega)]
theorem bad_more (native last v : Int) (h : 1 ≤ last) : bad native last v = (decide (v < 1) || decide (4094 < v) || v == native || decide (v ≤ last)) := by
  unfold bad
  rw [Bool.eq_iff_iff]
  simp only [Bool.or_eq_true, decide_eq_true_eq]
  constructor
  · rintro ((h | h) | h)
    · exact Or.inr h
    · exact Or.inl (Or.inl (Or.inr h))
    · exact Or.inl (Or.inr h)
  · rintro (((h' | h) | h) | h)
    · exact Or.inl (Or.inl (by omega))
    · exact Or.inl (Or.inr h)
    · exact Or.inr h
    · exact Or.inl (Or.inl h)
end Vlan

set_option maxHeartbeats 1000000 in
theorem refRight_any (native : Int) (ao : Option Addr) (zs : List Int) (cap : Nat) (w : World) (h : IntsAt w ao zs) (hz : zs.length ≤ 1000000) :
    Calls Tryz.prog 46 #[.int .i64 native, .slice ao zs.length cap] w fun e w' => e = .returned (.bool (Vlan.right native zs)) ∧ Below w.heap.size w w' := by
  by_cases h1 : native < 0
  · have e : Vlan.right native zs = false := by unfold Vlan.right; rw [decide_eq_false (show ¬ 0 ≤ native by omega)]; rfl
    rw [e]
    go_enter Tryz.func46, Tryz.ntmps46
    go_wp2_with fail
    go_ret
    exact ⟨rfl, Below.refl _ _⟩
  by_cases h2 : 4094 < native
  · have e : Vlan.right native zs = false := by unfold Vlan.right; rw [decide_eq_false (show ¬ native ≤ 4094 by omega)]; simp
    rw [e]
    go_enter Tryz.func46, Tryz.ntmps46
    go_wp2_with fail
    go_ret
    exact ⟨rfl, Below.refl _ _⟩
  by_cases h3 : 64 < zs.length
  · have e : Vlan.right native zs = false := by unfold Vlan.right; rw [decide_eq_false (show ¬ zs.length ≤ 64 by omega)]; simp
    rw [e]
    go_enter Tryz.func46, Tryz.ntmps46
    go_wp2_with fail
    go_ret
    exact ⟨rfl, Below.refl _ _⟩
  have e : Vlan.right native zs = Vlan.rightFrom native 0 zs := by
    unfold Vlan.right; rw [decide_eq_true (show 0 ≤ native by omega), decide_eq_true (show native ≤ 4094 by omega), decide_eq_true (show zs.length ≤ 64 by omega)]; rfl
  rw [e]
  clear e
  rcases h with rfl | ⟨b, off, rfl, hc⟩
  · go_enter Tryz.func46, Tryz.ntmps46
    go_wp2_with fail
    refine wp_loop_rounds 1 ?_
    rw [rounds_succ]
    go_wp2_with fail
    go_ret
    exact ⟨rfl, Below.refl _ _⟩
  · have hlt0 : ∀ i, i < zs.length → w.cell? ⟨b, off + i, none⟩ = some (.int .i64 (zs.getD i 0)) ∧ b < w.heap.size := fun i hi => ⟨hc i hi, IntsAt.lt (Or.inr ⟨b, off, rfl, hc⟩) b off rfl (by omega)⟩
    have HC := Lib.hid hlt0
    clear hc hlt0
    go_enter Tryz.func46, Tryz.ntmps46
    go_wp2_with fail
    go_loopw [5] (fun i wr => ∃ (k : Nat) (last : Int), k ≤ zs.length ∧ i = .int .i64 k ∧ Below w.heap.size w wr ∧ Hid (Vlan.rightFrom native 0 zs = Vlan.rightFrom native last (zs.drop k)) ∧ (k = 0 ∧ last = 0 ∨ 1 ≤ k ∧ 1 ≤ last ∧ wr.cell? ⟨b, off + (k - 1), none⟩ = some (.int .i64 last))) (fun i _ => zs.length - (intOf i).toNat)
    case atStart => exact ⟨0, 0, Nat.zero_le _, rfl, Below.refl _ _, rfl, Or.inl ⟨rfl, rfl⟩⟩
    case round =>
      obtain ⟨k, last, hk, rfl, hbel, hrf, hlast⟩ := hrel
      by_cases hlt : k < zs.length
      · have hcell : wr.cell? ⟨b, off + k, none⟩ = some (.int .i64 (zs.getD k 0)) := by
          rw [hbel.cell (p := ⟨b, off + k, none⟩) (HC.out k hlt).2]
          exact (HC.out k hlt).1
        have hdrop : zs.drop k = zs.getD k 0 :: zs.drop (k + 1) := by
          rw [List.drop_eq_getElem_cons hlt, List.getD, List.getElem?_eq_getElem hlt]; rfl
        generalize zs.getD k 0 = v at hcell hdrop
        have HD := Lib.hid hdrop
        clear hdrop
        rcases hlast with ⟨rfl, rfl⟩ | ⟨hk1, hl1, hlc⟩
        · have hcell0 : wr.cell? ⟨b, off, none⟩ = some (.int .i64 v) := by simpa using hcell
          cases q1 : decide (v < 1) <;> cases q2 : decide (4094 < v) <;> cases q3 : (v == native)
          all_goals
            have hb0 := Vlan.bad_zero native v
            rw [q1, q2, q3] at hb0
            have HB := Lib.hid hb0
            clear hb0
            go_wp2_with fail
            go_quiet (fail)
            go_wp2_with fail
            first
              | (go_ret
                 refine ⟨?_, below_drewN hbel _⟩
                 rw [hrf.out, HD.out, Vlan.rightFrom_cons, HB.out]
                 rfl)
              | (refine ⟨⟨0 + 1, v, by omega, by go_num, below_drewN hbel _, ?_, Or.inr ⟨by omega, ?_, hcell⟩⟩, by simp [intOf]; omega⟩
                 · show _ = _
                   rw [hrf.out, HD.out, Vlan.rightFrom_cons, HB.out]
                   rfl
                 · have := of_decide_eq_false q1
                   omega)
        · obtain ⟨j, rfl⟩ : ∃ j, k = j + 1 := ⟨k - 1, by omega⟩
          rw [show off + (j + 1 - 1) = off + j from by omega] at hlc
          rw [show (((j + 1 : Nat) : Int)) = (j : Int) + 1 from by omega]
          cases q1 : decide (v < 1) <;> cases q2 : decide (4094 < v) <;> cases q3 : (v == native) <;> cases q4 : decide (v ≤ last)
          all_goals
            have hb0 := Vlan.bad_more native last v hl1
            rw [q1, q2, q3, q4] at hb0
            have HB := Lib.hid hb0
            clear hb0
            go_wp2_with fail
            go_quiet (fail)
            go_wp2_with fail
            first
              | (go_ret
                 refine ⟨?_, below_drewN hbel _⟩
                 rw [hrf.out, HD.out, Vlan.rightFrom_cons, HB.out]
                 rfl)
              | (refine ⟨⟨j + 1 + 1, v, by omega, by go_num, below_drewN hbel _, ?_, Or.inr ⟨by omega, ?_, hcell⟩⟩, by simp [intOf]; omega⟩
                 · show _ = _
                   rw [hrf.out, HD.out, Vlan.rightFrom_cons, HB.out]
                   rfl
                 · have := of_decide_eq_false q1
                   omega)
      · go_wp2_with fail
        go_ret
        have hall : zs.drop k = [] := List.drop_eq_nil_of_le (by omega)
        have h := hrf.out
        rw [hall] at h
        exact ⟨by rw [h]; rfl, hbel⟩

end Go.Proofs.YthfckdnennfnoaaGreatDoor
-- The document's Right of chapters 17 (one cost of 1) and 22. By an AI agent. 
namespace Go.Proofs.YthfckdnennfnoaaGreatDoor
open Go.RowKit Go.WideShapes Go.Sort Grow
namespace Cf
theorem rightT_cases (ma he de : Int) : (SpN.rightT ma he de = true ∧ decide ((1 : Int) ≤ he) = true ∧ decide (he ≤ 100) = true ∧ decide (2 * he < ma) = true ∧ decide (ma ≤ 1000) = true ∧ decide ((1 : Int) ≤ de) = true ∧ decide (de ≤ 1000) = true) ∨ (SpN.rightT ma he de = false ∧ decide ((1 : Int) ≤ he) = false) ∨ (SpN.rightT ma he de = false ∧ decide ((1 : Int) ≤ he) = true ∧ decide (he ≤ 100) = false) ∨ (SpN.rightT ma he de = false ∧ decide ((1 : Int) ≤ he) = true ∧ decide (he ≤ 100) = true ∧ decide (2 * he < ma) = false) ∨ (SpN.rightT ma he de = false ∧ decide ((1 : Int) ≤ he) = true ∧ decide (he ≤ 100) = true ∧ decide (2 * he < ma) = true ∧ decide (ma ≤ 1000) = false) ∨ (SpN.rightT ma he de = false ∧ decide ((1 : Int) ≤ he) = true ∧ decide (he ≤ 100) = true ∧ decide (2 * he < ma) = true ∧ decide (ma ≤ 1000) = true ∧ decide ((1 : Int) ≤ de) = false) ∨ (SpN.rightT ma he de = false ∧ decide ((1 : Int) ≤ he) = true ∧ decide (he ≤ 100) = true ∧ decide (2 * he < ma) = true ∧ decide (ma ≤ 1000) = true ∧ decide ((1 : Int) ≤ de) = true ∧ decide (de ≤ 1000) = false) := by
  unfold SpN.rightT
  cases h1 : decide ((1 : Int) ≤ he) <;> cases h2 : decide (he ≤ 100) <;> cases h3 : decide (2 * he < ma) <;> cases h4 : decide (ma ≤ 1000) <;> cases h5 : decide ((1 : Int) ≤ de) <;> cases h6 : decide (de ≤ 1000) <;> simp
end Cf
set_option maxRecDepth 20000 in
set_option maxHeartbeats 4000000 in
theorem rright17 (ao : Option Addr) (cap : Nat) (ma he de : Int) (w : World) (h : IntsAt w ao [1]) :
    Calls Tryz.prog 26 #[.slice ao 1 cap, .int .i64 ma, .int .i64 he, .int .i64 de] w fun e w' => e = .returned (.bool (SpN.rightT ma he de)) ∧ w = w' := by
  obtain ⟨b, off, rfl, hc⟩ : ∃ b off, ao = some ⟨b, off, none⟩ ∧ w.cell? ⟨b, off, none⟩ = some (.int .i64 1) := by
    rcases h with h | ⟨b, off, e1, h⟩
    · cases h
    · exact ⟨b, off, e1, h 0 (by decide)⟩
  have HC := Lib.hid (Cf.rightT_cases ma he de)
  go_enter Tryz.func26, Tryz.ntmps26
  go_upto_region 1 with fail
  go_wp2_with fail
  go_loopw [9] (fun s9 wr => ∃ i : Nat, i ≤ 1 ∧ s9 = .int .i64 i ∧ w = wr) (fun s9 _ => 1 - (RowKit.intOf s9).toNat)
  case atStart => exact ⟨0, Nat.zero_le _, rfl, rfl⟩
  case round =>
    obtain ⟨i, hi, rfl, rfl⟩ := hrel
    by_cases hlt : i < 1
    · obtain rfl : i = 0 := by omega
      go_wp2_with fail
      exact ⟨⟨1, by omega, rfl, trivial⟩, by simp [RowKit.intOf]⟩
    · obtain rfl : i = 1 := by omega
      have w2 : (1 : Int) ≤ he → he ≤ 100 → IntKind.i64.wrap (2 * he) = 2 * he := fun h1 h2 => IntWalk.i64_in _ (by omega)
      have hcs := HC.out
      clear HC
      rcases hcs with ⟨e, f1, f2, f3, f4, f5, f6⟩ | ⟨e, f1⟩ | ⟨e, f1, f2⟩ | ⟨e, f1, f2, f3⟩ | ⟨e, f1, f2, f3, f4⟩ | ⟨e, f1, f2, f3, f4, f5⟩ | ⟨e, f1, f2, f3, f4, f5, f6⟩
      · have E := Lib.hid e
        clear e
        have w3 := w2 (of_decide_eq_true f1) (of_decide_eq_true f2)
        clear w2
        go_wp2_with fail
        go_ret
        exact ⟨by rw [E.out]; rfl, rfl⟩
      · have E := Lib.hid e
        clear e
        clear w2
        go_wp2_with fail
        go_ret
        exact ⟨by rw [E.out]; rfl, rfl⟩
      · have E := Lib.hid e
        clear e
        clear w2
        go_wp2_with fail
        go_ret
        exact ⟨by rw [E.out]; rfl, rfl⟩
      · have E := Lib.hid e
        clear e
        have w3 := w2 (of_decide_eq_true f1) (of_decide_eq_true f2)
        clear w2
        go_wp2_with fail
        go_ret
        exact ⟨by rw [E.out]; rfl, rfl⟩
      · have E := Lib.hid e
        clear e
        have w3 := w2 (of_decide_eq_true f1) (of_decide_eq_true f2)
        clear w2
        go_wp2_with fail
        go_ret
        exact ⟨by rw [E.out]; rfl, rfl⟩
      · have E := Lib.hid e
        clear e
        have w3 := w2 (of_decide_eq_true f1) (of_decide_eq_true f2)
        clear w2
        go_wp2_with fail
        go_ret
        exact ⟨by rw [E.out]; rfl, rfl⟩
      · have E := Lib.hid e
        clear e
        have w3 := w2 (of_decide_eq_true f1) (of_decide_eq_true f2)
        clear w2
        go_wp2_with fail
        go_ret
        exact ⟨by rw [E.out]; rfl, rfl⟩

namespace Cf
def rv22 (p : Rv) : Bool := (Vlan.right p.nat p.tags) && (decide (0 ≤ p.ho)) && (decide (p.ho ≤ 255)) && (decide (0 ≤ p.li)) && (decide (p.li ≤ 65535))
def tail22 (L : List Rv) (ag : Int) : Bool := decide (1 ≤ (L.length : Int)) && (decide ((L.length : Int) ≤ 32) && (decide (1 ≤ ag) && decide (ag ≤ 1000000)))
def ok22 (L : List Rv) (ag : Int) : Bool := L.all rv22 && tail22 L ag
theorem tail22_cases (L : List Rv) (ag : Int) : (tail22 L ag = true ∧ decide ((1 : Int) ≤ (L.length : Int)) = true ∧ decide ((L.length : Int) ≤ 32) = true ∧ decide ((1 : Int) ≤ ag) = true ∧ decide (ag ≤ 1000000) = true) ∨ (tail22 L ag = false ∧ decide ((1 : Int) ≤ (L.length : Int)) = false) ∨ (tail22 L ag = false ∧ decide ((1 : Int) ≤ (L.length : Int)) = true ∧ decide ((L.length : Int) ≤ 32) = false) ∨ (tail22 L ag = false ∧ decide ((1 : Int) ≤ (L.length : Int)) = true ∧ decide ((L.length : Int) ≤ 32) = true ∧ decide ((1 : Int) ≤ ag) = false) ∨ (tail22 L ag = false ∧ decide ((1 : Int) ≤ (L.length : Int)) = true ∧ decide ((L.length : Int) ≤ 32) = true ∧ decide ((1 : Int) ≤ ag) = true ∧ decide (ag ≤ 1000000) = false) := by
  unfold tail22
  cases h1 : decide ((1 : Int) ≤ (L.length : Int)) <;> cases h2 : decide ((L.length : Int) ≤ 32) <;> cases h3 : decide ((1 : Int) ≤ ag) <;> cases h4 : decide (ag ≤ 1000000) <;> simp
theorem ok22_relay (L : List Rv) (ag : Int) : ok22 L ag = relayOk L ag := by
  have h1 : L.all rv22 = (L.all rvOk && !anyBad (lims L)) := by
    unfold anyBad lims
    rw [Bool.not_not, List.all_map, Bool.eq_iff_iff, Bool.and_eq_true, List.all_eq_true, List.all_eq_true, List.all_eq_true]
    constructor
    · intro h
      refine ⟨fun p hp => ?_, fun p hp => ?_⟩ <;>
      · have := h p hp
        unfold rv22 at this
        simp only [Bool.and_eq_true, decide_eq_true_eq] at this
        simp only [rvOk, okLim, Function.comp, Bool.and_eq_true, decide_eq_true_eq]
        simp [this]
    · rintro ⟨h2, h3⟩ p hp
      have g1 := h2 p hp
      have g2 := h3 p hp
      simp only [rvOk, okLim, Function.comp, Bool.and_eq_true, decide_eq_true_eq] at g1 g2
      simp only [rv22, Bool.and_eq_true, decide_eq_true_eq]
      simp [g1, g2]
  unfold ok22 tail22 relayOk
  rw [h1, Bool.eq_iff_iff]
  simp only [Bool.and_eq_true, decide_eq_true_eq, Bool.not_eq_true']
  constructor
  · rintro ⟨⟨h1, h2⟩, h3, h4, h5, h6⟩
    exact ⟨h1, h5, h6, by omega, h2, by omega⟩
  · rintro ⟨h1, h5, h6, h4, h2, h3⟩
    exact ⟨⟨h1, h2⟩, by omega, by omega, h5, h6⟩
end Cf
namespace Cf
def Rv.zero : Rv := ⟨0, none, [], 0, 0, 0⟩
def rv5 (p : Rv) : List Value := [.int .i64 p.nat, .slice p.ta p.tags.length p.tc, .int .i64 p.ho, .int .i64 p.li, .int .i64 0]
/-- the document's ports in a slice -/
def RIn5 (w : World) (b off : Nat) (L : List Rv) : Prop := (∀ i, i < L.length → ∀ j v, (rv5 (L.getD i .zero))[j]? = some v → w.cell? ⟨b, off + i * 5 + j, none⟩ = some v) ∧ (0 < L.length → b < w.heap.size) ∧ (∀ p ∈ L, IntsAt w p.ta p.tags ∧ p.tags.length ≤ 1000000)
theorem RIn5.after {w w' : World} {b off : Nat} {L : List Rv} (h : RIn5 w b off L) (hb : Below w.heap.size w w') : RIn5 w' b off L :=
  ⟨fun i hi j v hj => by rw [hb.cell (p := ⟨b, off + i * 5 + j, none⟩) (h.2.1 (by omega))]; exact h.1 i hi j v hj, fun h0 => Nat.lt_of_lt_of_le (h.2.1 h0) hb.size, fun p hp => ⟨(h.2.2 p hp).1.after hb, (h.2.2 p hp).2⟩⟩
theorem all22_next {L : List Rv} {k : Nat} (hk : k < L.length) (h : (L.take k).all rv22 = true) (hp : rv22 (L.getD k .zero) = true) : (L.take (k + 1)).all rv22 = true := by
  rw [List.take_succ_eq_append_getElem hk, List.all_append, h]
  rw [List.getD_eq_getElem?_getD, List.getElem?_eq_getElem hk, Option.getD_some] at hp
  simp [hp]
theorem all22_bad {L : List Rv} {k : Nat} (hk : k < L.length) (hp : rv22 (L.getD k .zero) = false) (ag : Int) : ok22 L ag = false := by
  unfold ok22
  rw [List.getD_eq_getElem?_getD, List.getElem?_eq_getElem hk, Option.getD_some] at hp
  have : L.all rv22 = false := by
    rw [List.all_eq_false]
    exact ⟨L[k], List.getElem_mem hk, by rw [hp]; simp⟩
  rw [this]
  rfl
theorem getD22_in {L : List Rv} {k : Nat} (hk : k < L.length) : L.getD k .zero ∈ L := by
  rw [List.getD_eq_getElem?_getD, List.getElem?_eq_getElem hk, Option.getD_some]
  exact List.getElem_mem hk
end Cf
set_option maxRecDepth 20000 in
set_option maxHeartbeats 4000000 in
theorem rright22 (b off cap : Nat) (L : List Cf.Rv) (ag : Int) (w : World) (ao : Option Addr) (hao : ao = some ⟨b, off, none⟩ ∨ L = []) (hL : Cf.RIn5 w b off L) (hn : L.length ≤ 10000) :
    Calls Tryz.prog 25 #[.agg #[.slice ao L.length cap, .int .i64 ag, .slice none 0 0, .slice none 0 0, .int .i64 0, .int .i64 0, .int .i64 0, .int .i64 0, .int .i64 0]] w fun e w' => e = .returned (.bool (Cf.ok22 L ag)) ∧ Below w.heap.size w w' := by
  have HLL := Lib.hid hL
  have HTC := Lib.hid (Cf.tail22_cases L ag)
  clear hL
  go_enter Tryz.func25, Tryz.ntmps25
  go_upto_region 1 with fail
  have HX : Hid (RowIs (w.alloc (.cells #[.slice ao L.length cap, .int .i64 ag, .slice none 0 0, .slice none 0 0, .int .i64 0, .int .i64 0, .int .i64 0, .int .i64 0, .int .i64 0] 81)) w.heap.size 81 #[.slice ao L.length cap, .int .i64 ag, .slice none 0 0, .slice none 0 0, .int .i64 0, .int .i64 0, .int .i64 0, .int .i64 0, .int .i64 0]) := by show RowIs _ _ _ _; exact rowIs_new w _ _
  have hbx : Below w.heap.size w (w.alloc (.cells #[.slice ao L.length cap, .int .i64 ag, .slice none 0 0, .slice none 0 0, .int .i64 0, .int .i64 0, .int .i64 0, .int .i64 0, .int .i64 0] 81)) := (Below.refl _ _).alloc (Nat.le_refl _) _
  have hzx : w.heap.size < (w.alloc (.cells #[.slice ao L.length cap, .int .i64 ag, .slice none 0 0, .slice none 0 0, .int .i64 0, .int .i64 0, .int .i64 0, .int .i64 0, .int .i64 0] 81)).heap.size := by simp
  generalize w.alloc (.cells #[.slice ao L.length cap, .int .i64 ag, .slice none 0 0, .slice none 0 0, .int .i64 0, .int .i64 0, .int .i64 0, .int .i64 0, .int .i64 0] 81) = w1 at *
  go_upto_region 2 with fail
  go_loopw [3] (fun i wr => ∃ k : Nat, k ≤ L.length ∧ i = .int .i64 k ∧ Hid ((L.take k).all Cf.rv22 = true) ∧ Hid (Below w1.heap.size w1 wr)) (fun i _ => L.length - (RowKit.intOf i).toNat)
  case atStart => exact ⟨0, Nat.zero_le _, rfl, rfl, Below.refl _ _⟩
  case round =>
    rename World => wr
    obtain ⟨k, hk, rfl, HG, HBR⟩ := hrel
    have hbr : Below w.heap.size w wr := hbx.trans (HBR.out.mono hbx.size)
    have hszr := hbr.size
    have HXr := Lib.hid (HX.out.below HBR.out hzx)
    have d0 : wr.cell? ⟨w.heap.size, 0, none⟩ = some (.slice ao L.length cap) := HXr.out.cell 0
    have d1 : wr.cell? ⟨w.heap.size, 1, none⟩ = some (.int .i64 ag) := HXr.out.cell 1
    by_cases hlt : k < L.length
    · obtain rfl : ao = some ⟨b, off, none⟩ := hao.resolve_right (fun e => by rw [e] at hlt; exact absurd hlt (Nat.not_lt_zero _))
      have HLr := Lib.hid (HLL.out.after hbr)
      have hpin := Cf.getD22_in hlt
      have HE := Lib.hid (HLr.out.1 k hlt)
      have HIN := Lib.hid (HLr.out.2.2 _ hpin)
      have HAN := Lib.hid (fun h2 => Cf.all22_next hlt HG.out h2)
      have HAB := Lib.hid (fun h2 => Cf.all22_bad hlt h2 ag)
      obtain ⟨p, hp⟩ : ∃ p, L.getD k .zero = p := ⟨_, rfl⟩
      rw [hp] at HE HIN HAN HAB
      clear hp hpin
      go_upto_region 5 with (first | ((with_reducible refine at_load 83 (.tmp 15) ?_); refine wpList_load_at rfl 83 (.tmp 15) rfl b (off + k * 5) rfl (Cf.rv5 p) HE.out _ Tryz.underlying83 rfl (by kernel_rfl) ?_) | ((with_reducible refine at_store 83 (.tmp 4) (.tmp 16) ?_); refine wpList_store_own rfl 83 (.tmp 4) (.tmp 16) rfl wr.heap.size (Cf.rv5 p).toArray rfl rfl 83 _ (rowIs_new wr _ _) (by kernel_rfl) rfl (by simp [Cf.rv5, Value.oneCell']) w.heap.size hszr ?_))
      intro w2 hR hO hs hb
      have R8 := Lib.hid hR
      have hb2 : Below wr.heap.size wr w2 := ((Below.refl _ wr).alloc (Nat.le_refl _) _).trans ⟨hb.os, hb.tape, hb.output, by rw [hs]; simp, fun j hj => hO j (by omega)⟩
      have HBR2 := Lib.hid (HBR.out.trans (hb2.mono HBR.out.size))
      have HV := Lib.hid (refRight_any p.nat p.ta p.tags p.tc w2 (HIN.out.1.after hb2) HIN.out.2)
      have c0 : w2.cell? ⟨wr.heap.size, 0, none⟩ = some (.int .i64 p.nat) := R8.out.cell 0
      have c1 : w2.cell? ⟨wr.heap.size, 1, none⟩ = some (.slice p.ta p.tags.length p.tc) := R8.out.cell 1
      clear hR hO hs hb HE HLr HIN d0 d1 HXr hb2
      go_wp2_with fail
      refine HV.out.mono ?_
      rintro e w3 ⟨rfl, hb3⟩
      have HBR3 := Lib.hid (HBR2.out.trans (hb3.mono HBR2.out.size))
      have R8' := Lib.hid (R8.out.kept hb3)
      clear R8 HV hb3 c0 c1
      have c2 : w3.cell? ⟨wr.heap.size, 2, none⟩ = some (.int .i64 p.ho) := R8'.out.cell 2
      have c3 : w3.cell? ⟨wr.heap.size, 3, none⟩ = some (.int .i64 p.li) := R8'.out.cell 3
      have hOK : Cf.rv22 p = ((Vlan.right p.nat p.tags) && (decide (0 ≤ p.ho)) && (decide (p.ho ≤ 255)) && (decide (0 ≤ p.li)) && (decide (p.li ≤ 65535))) := rfl
      have hbF : Below w.heap.size w w3 := hbx.trans (HBR3.out.mono hbx.size)
      cases hv : Vlan.right p.nat p.tags with
      | false =>
        have HN := Lib.hid (HAB.out (by rw [hOK, hv]; rfl))
        clear hOK hv
        go_wp2_with fail
        go_ret
        exact ⟨by rw [HN.out]; rfl, hbF⟩
      | true =>
        by_cases g1 : 0 ≤ p.ho ∧ p.ho ≤ 255 ∧ 0 ≤ p.li ∧ p.li ≤ 65535
        · have HAL := Lib.hid (HAN.out (by rw [hOK, hv]; simp [g1]))
          have t1 : decide (p.ho < 0) = false := decide_eq_false (by omega)
          have t2 : decide (255 < p.ho) = false := decide_eq_false (by omega)
          have t3 : decide (p.li < 0) = false := decide_eq_false (by omega)
          have t4 : decide (65535 < p.li) = false := decide_eq_false (by omega)
          clear hOK hv g1
          go_wp2_with fail
          exact ⟨⟨k + 1, by omega, by go_num, HAL, HBR3⟩, by simp [RowKit.intOf]; omega⟩
        · have HN := Lib.hid (HAB.out (by rw [hOK, hv]; simp only [Bool.true_and, Bool.and_eq_false_iff, decide_eq_false_iff_not]; omega))
          clear hOK hv
          by_cases t1 : p.ho < 0
          · have t1 : decide (p.ho < 0) = true := decide_eq_true t1
            clear g1
            go_wp2_with fail
            go_ret
            exact ⟨by rw [HN.out]; rfl, hbF⟩
          · by_cases t2 : 255 < p.ho
            · have t1 : decide (p.ho < 0) = false := decide_eq_false t1
              have t2 : decide (255 < p.ho) = true := decide_eq_true t2
              clear g1
              go_wp2_with fail
              go_ret
              exact ⟨by rw [HN.out]; rfl, hbF⟩
            · by_cases t3 : p.li < 0
              · have t1 : decide (p.ho < 0) = false := decide_eq_false t1
                have t2 : decide (255 < p.ho) = false := decide_eq_false t2
                have t3 : decide (p.li < 0) = true := decide_eq_true t3
                clear g1
                go_wp2_with fail
                go_ret
                exact ⟨by rw [HN.out]; rfl, hbF⟩
              · have t4 : decide (65535 < p.li) = true := decide_eq_true (by omega)
                have t1 : decide (p.ho < 0) = false := decide_eq_false t1
                have t2 : decide (255 < p.ho) = false := decide_eq_false t2
                have t3 : decide (p.li < 0) = false := decide_eq_false t3
                clear g1
                go_wp2_with fail
                go_ret
                exact ⟨by rw [HN.out]; rfl, hbF⟩
    · obtain rfl : k = L.length := by omega
      have HOK : Hid (Cf.ok22 L ag = Cf.tail22 L ag) := by
        show _ = _
        unfold Cf.ok22
        have := HG.out
        rw [List.take_length] at this
        rw [this, Bool.true_and]
      have hcs := HTC.out
      rw [← HOK.out] at hcs
      clear HOK HTC HG HXr
      rcases hcs with ⟨e, f1, f2, f3, f4⟩ | ⟨e, f1⟩ | ⟨e, f1, f2⟩ | ⟨e, f1, f2, f3⟩ | ⟨e, f1, f2, f3, f4⟩
      all_goals
        have E := Lib.hid e
        clear e
        go_wp2_with fail
        go_ret
        exact ⟨by rw [E.out]; rfl, hbr⟩
end Go.Proofs.YthfckdnennfnoaaGreatDoor
-- causeyref23.Right. By an AI agent. 
namespace Go.Proofs.YthfckdnennfnoaaGreatDoor
open Go.RowKit Go.WideShapes Go.Sort Grow
theorem run_build_br (ag : Int) (w : World) : (Instr.build 81 #[(1, .int .i64 ag)]).run Tryz.prog w = .ok (.agg #[.slice none 0 0, .int .i64 ag, .slice none 0 0, .slice none 0 0, .int .i64 0, .int .i64 0, .int .i64 0, .int .i64 0, .int .i64 0]) w := by
  go_simp
theorem run_build_p5 (a b : Int) (ta : Option Addr) (tl tc : Nat) (c : Int) (w : World) : (Instr.build 83 #[(0, .int .i64 a), (1, .slice ta tl tc), (2, .int .i64 b), (3, .int .i64 c)]).run Tryz.prog w = .ok (.agg #[.int .i64 a, .slice ta tl tc, .int .i64 b, .int .i64 c, .int .i64 0]) w := by
  go_simp
namespace Cf
theorem info_p5 : ∃ i z, Tryz.prog.info? 83 = some i ∧ i.zero = some z ∧ i.size = 5 ∧ i.bytes = 56 ∧ z.cells.size = 5 := by
  have h : (Tryz.prog.info? 83).map (fun i => (i.zero.map (·.cells.size), i.size, i.bytes)) = some (some 5, 5, 56) := by kernel_rfl
  obtain ⟨i, hi, h⟩ := Option.map_eq_some_iff.1 h
  simp only [Prod.mk.injEq] at h
  obtain ⟨z, hz, h18⟩ := Option.map_eq_some_iff.1 h.1
  exact ⟨i, z, hi, hz, h.2.1, h.2.2, h18⟩
def rcs5 (L : List Pv) : List Value := L.flatMap fun p => rv5 p.rv
theorem rcs5_next {L : List Pv} {k : Nat} (hk : k < L.length) : rcs5 (L.take (k + 1)) = rcs5 (L.take k) ++ rv5 (L.getD k .zero).rv := by
  unfold rcs5
  rw [List.take_succ_eq_append_getElem hk, List.flatMap_append, List.flatMap_singleton, List.getD_eq_getElem?_getD, List.getElem?_eq_getElem hk]
  rfl
theorem rin5_of {w : World} {base : Nat} {v : Value} {L : List Pv} (h : w.ownsRow base 83 5 v L.length (rcs5 L)) (hL : ∀ p ∈ L, IntsAt w p.ta p.tags ∧ p.tags.length ≤ 1000000) : ∃ ao b off cap, v = .slice ao L.length cap ∧ (ao = some ⟨b, off, none⟩ ∨ L.map Pv.rv = []) ∧ RIn5 w b off (L.map Pv.rv) := by
  have hP : ∀ p ∈ L.map Pv.rv, IntsAt w p.ta p.tags ∧ p.tags.length ≤ 1000000 := fun p hp => by
    obtain ⟨q, hq, rfl⟩ := List.mem_map.1 hp
    exact hL q hq
  rcases h.2 with ⟨rfl, h0⟩ | ⟨g, cap, cur, rfl, hb, hc, _⟩
  · have hn : L = [] := List.length_eq_zero_iff.1 h0
    subst hn
    exact ⟨none, 0, 0, 0, rfl, .inr rfl, fun i hi => absurd hi (Nat.not_lt_zero _), fun h => absurd h (Nat.lt_irrefl _), fun p hp => (by cases hp)⟩
  · refine ⟨some ⟨g, 0, none⟩, g, 0, cap, rfl, .inl rfl, fun i hi j v hj => ?_, fun _ => (Array.getElem?_eq_some_iff.1 hc).1, hP⟩
    rw [List.length_map] at hi
    have hj5 : j < 5 := (List.getElem?_eq_some_iff.1 hj).1
    rw [World.ownsRow.cellAt h (0 + i * 5 + j) (by omega), Nat.zero_add]
    have e := flat_getC (enc := fun p : Pv => rv5 p.rv) (k := 5) (fun _ => rfl) L i j hi hj5
    refine e.trans ?_
    rw [← hj]
    congr 2
    rw [List.getD_eq_getElem?_getD, List.getElem?_map, List.getElem?_eq_getElem hi]
    rfl
end Cf
set_option maxRecDepth 20000 in
set_option maxHeartbeats 8000000 in
theorem rright23 (x : Id8) (ma he de ag : Int) (b off cap : Nat) (L : List Cf.Pv) (w : World) (ao : Option Addr) (hao : ao = some ⟨b, off, none⟩ ∨ L = []) (hL : Cf.PIn w b off L) (hn : L.length ≤ 10000) :
    Calls Tryz.prog 11 #[.agg #[.int .u8 ((x.f 0).toNat : Int), .int .u8 ((x.f 1).toNat : Int), .int .u8 ((x.f 2).toNat : Int), .int .u8 ((x.f 3).toNat : Int), .int .u8 ((x.f 4).toNat : Int), .int .u8 ((x.f 5).toNat : Int), .int .u8 ((x.f 6).toNat : Int), .int .u8 ((x.f 7).toNat : Int), .int .i64 ma, .int .i64 he, .int .i64 de, .int .i64 ag, .slice ao L.length cap]] w fun e w' => e = .returned (.bool (Cf.confOk L ag ma he de)) ∧ Below w.heap.size w w' := by
  obtain ⟨ri, rz, hri, hrz, hr1, hr2, hr3⟩ := Cf.info_p5
  have HRI := Lib.hid hri
  have HRZ := Lib.hid hrz
  have HLL := Lib.hid hL
  clear hri hrz hL
  go_enter Tryz.func11, Tryz.ntmps11
  go_upto_region 1 with fail
  have HX : Hid (RowIs (w.alloc (.cells #[.int .u8 ((x.f 0).toNat : Int), .int .u8 ((x.f 1).toNat : Int), .int .u8 ((x.f 2).toNat : Int), .int .u8 ((x.f 3).toNat : Int), .int .u8 ((x.f 4).toNat : Int), .int .u8 ((x.f 5).toNat : Int), .int .u8 ((x.f 6).toNat : Int), .int .u8 ((x.f 7).toNat : Int), .int .i64 ma, .int .i64 he, .int .i64 de, .int .i64 ag, .slice ao L.length cap] 25)) w.heap.size 25 #[.int .u8 ((x.f 0).toNat : Int), .int .u8 ((x.f 1).toNat : Int), .int .u8 ((x.f 2).toNat : Int), .int .u8 ((x.f 3).toNat : Int), .int .u8 ((x.f 4).toNat : Int), .int .u8 ((x.f 5).toNat : Int), .int .u8 ((x.f 6).toNat : Int), .int .u8 ((x.f 7).toNat : Int), .int .i64 ma, .int .i64 he, .int .i64 de, .int .i64 ag, .slice ao L.length cap]) := by show RowIs _ _ _ _; exact rowIs_new w _ _
  have hbx : Below w.heap.size w (w.alloc (.cells #[.int .u8 ((x.f 0).toNat : Int), .int .u8 ((x.f 1).toNat : Int), .int .u8 ((x.f 2).toNat : Int), .int .u8 ((x.f 3).toNat : Int), .int .u8 ((x.f 4).toNat : Int), .int .u8 ((x.f 5).toNat : Int), .int .u8 ((x.f 6).toNat : Int), .int .u8 ((x.f 7).toNat : Int), .int .i64 ma, .int .i64 he, .int .i64 de, .int .i64 ag, .slice ao L.length cap] 25)) := (Below.refl _ _).alloc (Nat.le_refl _) _
  have hzx : (w.alloc (.cells #[.int .u8 ((x.f 0).toNat : Int), .int .u8 ((x.f 1).toNat : Int), .int .u8 ((x.f 2).toNat : Int), .int .u8 ((x.f 3).toNat : Int), .int .u8 ((x.f 4).toNat : Int), .int .u8 ((x.f 5).toNat : Int), .int .u8 ((x.f 6).toNat : Int), .int .u8 ((x.f 7).toNat : Int), .int .i64 ma, .int .i64 he, .int .i64 de, .int .i64 ag, .slice ao L.length cap] 25)).heap.size = w.heap.size + 1 := by simp
  generalize w.alloc (.cells #[.int .u8 ((x.f 0).toNat : Int), .int .u8 ((x.f 1).toNat : Int), .int .u8 ((x.f 2).toNat : Int), .int .u8 ((x.f 3).toNat : Int), .int .u8 ((x.f 4).toNat : Int), .int .u8 ((x.f 5).toNat : Int), .int .u8 ((x.f 6).toNat : Int), .int .u8 ((x.f 7).toNat : Int), .int .i64 ma, .int .i64 he, .int .i64 de, .int .i64 ag, .slice ao L.length cap] 25) = w1 at *
  have c11 : w1.cell? ⟨w.heap.size, 11, none⟩ = some (.int .i64 ag) := HX.out.cell 11
  have hbb := run_build_br ag
  go_upto_region 2 with ((with_reducible refine at_store 81 (.tmp 3) (.tmp 8) ?_); refine wpList_store_own rfl 81 (.tmp 3) (.tmp 8) rfl w1.heap.size #[.slice none 0 0, .int .i64 ag, .slice none 0 0, .slice none 0 0, .int .i64 0, .int .i64 0, .int .i64 0, .int .i64 0, .int .i64 0] rfl rfl 81 _ (rowIs_new w1 _ _) (by kernel_rfl) rfl (by simp [Value.oneCell']) w.heap.size (by omega) ?_)
  have HB2 : Hid (RowIs (w1.alloc (.cells #[.slice none 0 0, .int .i64 ag, .slice none 0 0, .slice none 0 0, .int .i64 0, .int .i64 0, .int .i64 0, .int .i64 0, .int .i64 0] 81)) (w.heap.size + 1) 81 #[.slice none 0 0, .int .i64 ag, .slice none 0 0, .slice none 0 0, .int .i64 0, .int .i64 0, .int .i64 0, .int .i64 0, .int .i64 0]) := by
    show RowIs _ _ _ _
    rw [← hzx]
    exact rowIs_new w1 _ _
  have HX2 := Lib.hid (HX.out.alloc (.cells #[.slice none 0 0, .int .i64 ag, .slice none 0 0, .slice none 0 0, .int .i64 0, .int .i64 0, .int .i64 0, .int .i64 0, .int .i64 0] 81))
  have hb2 := hbx.alloc hbx.size (.cells #[.slice none 0 0, .int .i64 ag, .slice none 0 0, .slice none 0 0, .int .i64 0, .int .i64 0, .int .i64 0, .int .i64 0, .int .i64 0] 81)
  have hz2 : w.heap.size + 2 ≤ (w1.alloc (.cells #[.slice none 0 0, .int .i64 ag, .slice none 0 0, .slice none 0 0, .int .i64 0, .int .i64 0, .int .i64 0, .int .i64 0, .int .i64 0] 81)).heap.size := by simp [hzx]
  clear c11 hzx HX hbx
  generalize w1.alloc (.cells #[.slice none 0 0, .int .i64 ag, .slice none 0 0, .slice none 0 0, .int .i64 0, .int .i64 0, .int .i64 0, .int .i64 0, .int .i64 0] 81) = w2 at *
  go_upto_region 3 with fail
  go_loopw [4] (fun i wr => ∃ (k : Nat) (pv : Value), k ≤ L.length ∧ i = .int .i64 k ∧ Hid (RowIs wr (w.heap.size + 1) 81 #[pv, .int .i64 ag, .slice none 0 0, .slice none 0 0, .int .i64 0, .int .i64 0, .int .i64 0, .int .i64 0, .int .i64 0]) ∧ Hid (wr.ownsRow (w.heap.size + 2) 83 5 pv k (Cf.rcs5 (L.take k))) ∧ Hid ((L.take k).all Cf.Pv.ok = true) ∧ Hid (RowIs wr w.heap.size 25 #[.int .u8 ((x.f 0).toNat : Int), .int .u8 ((x.f 1).toNat : Int), .int .u8 ((x.f 2).toNat : Int), .int .u8 ((x.f 3).toNat : Int), .int .u8 ((x.f 4).toNat : Int), .int .u8 ((x.f 5).toNat : Int), .int .u8 ((x.f 6).toNat : Int), .int .u8 ((x.f 7).toNat : Int), .int .i64 ma, .int .i64 he, .int .i64 de, .int .i64 ag, .slice ao L.length cap]) ∧ Hid (Below w.heap.size w wr) ∧ w.heap.size + 2 ≤ wr.heap.size) (fun i _ => L.length - (RowKit.intOf i).toNat)
  case atStart => exact ⟨0, _, Nat.zero_le _, rfl, HB2, World.ownsRow_nil _ _ _ _, rfl, HX2, hb2, hz2⟩
  case round =>
    rename World => wr
    clear HB2 HX2 hb2 hz2
    obtain ⟨k, pv, hk, rfl, HB, HO, HG, HX, HBR, hsz2⟩ := hrel
    have d12 : wr.cell? ⟨w.heap.size, 12, none⟩ = some (.slice ao L.length cap) := HX.out.cell 12
    by_cases hlt : k < L.length
    · obtain rfl : ao = some ⟨b, off, none⟩ := hao.resolve_right (fun e => by rw [e] at hlt; exact absurd hlt (Nat.not_lt_zero _))
      have HLr := Lib.hid (HLL.out.after HBR.out)
      have hpin := Cf.pv_in hlt
      have HE := Lib.hid (HLr.out.1 k hlt)
      have HIN := Lib.hid (HLr.out.2.2 _ hpin)
      have HAN := Lib.hid (fun h2 => Cf.pv_next hlt HG.out h2)
      have HAB := Lib.hid (fun h2 => Cf.pv_bad hlt h2 ag ma he de)
      have HLN := Lib.hid (Cf.rcs5_next hlt)
      obtain ⟨p, hp⟩ : ∃ p, L.getD k .zero = p := ⟨_, rfl⟩
      rw [hp] at HE HIN HAN HAB HLN
      clear hp hpin
      have HPL := Lib.hid HIN.out.2.2
      go_upto_region 6 with (first | ((with_reducible refine at_load 50 (.tmp 19) ?_); refine wpList_load_at rfl 50 (.tmp 19) rfl b (off + k * 39) rfl (Cf.pvc p) HE.out _ Tryz.underlying50 rfl (rpc_info HPL.out) ?_) | ((with_reducible refine at_alloc 50 ?_); refine wpList_alloc_port rfl 50 Cf.zport rfl rzport_is ?_) | ((with_reducible refine at_store 50 (.tmp 5) (.tmp 20) ?_); refine wpList_store_own rfl 50 (.tmp 5) (.tmp 20) rfl wr.heap.size (Cf.pvc p).toArray rfl rfl 50 _ (rowIs_new wr _ _) (rpc_info HPL.out) ?z1 (Cf.pvc_one p) w.heap.size (by omega) ?_))
      case z1 => simp [Cf.zport, Cf.pvc, byteVals_length, HPL.out, Cf.zeros]
      intro w3 hR hO hs hb
      have R5 := Lib.hid hR
      have hb3 : Below wr.heap.size wr w3 := ((Below.refl _ wr).alloc (Nat.le_refl _) _).trans ⟨hb.os, hb.tape, hb.output, by rw [hs]; simp, fun j hj => hO j (by omega)⟩
      have HBR3 := Lib.hid (HBR.out.trans (hb3.mono (by omega)))
      have HO3 := Lib.hid (owns_later HO.out hb3)
      have HB3 := Lib.hid (HB.out.kept hb3)
      have HX3 := Lib.hid (HX.out.kept hb3)
      have hz3 : wr.heap.size + 1 ≤ w3.heap.size := (show w3.heap.size = wr.heap.size + 1 from by simpa using hs) ▸ Nat.le_refl _
      have hbF := HBR3.out
      clear hR hO hs hb HO HE HLr HIN hb3 HB HX HBR d12 HG
      have e0 : w3.cell? ⟨wr.heap.size, 0, none⟩ = some (.int .i64 p.nat) := R5.out.cell 0
      have e1 : w3.cell? ⟨wr.heap.size, 1, none⟩ = some (.slice p.ta p.tags.length p.tc) := R5.out.cell 1
      have e2 : w3.cell? ⟨wr.heap.size, 2, none⟩ = some (.int .i64 p.ho) := R5.out.cell 2
      have e3 : w3.cell? ⟨wr.heap.size, 3, none⟩ = some (.int .i64 p.li) := R5.out.cell 3
      have e4 : w3.cell? ⟨wr.heap.size, 4, none⟩ = some (.bool p.link) := R5.out.cell 4
      have e5 : w3.cell? ⟨wr.heap.size, 5, none⟩ = some (.int .i64 p.rate) := R5.out.cell 5
      have e6 : w3.cell? ⟨wr.heap.size, 6, none⟩ = some (.bool p.greets) := R5.out.cell 6
      have hOK : p.ok = Cf.portOk p.link p.rate p.greets p.psk := rfl
      have hk := run_equalIn_bytes 9998 32 Tryz.underlying48 p.psk (Cf.zeros 32) HPL.out rfl
      cases hl : p.link with
      | true =>
        rw [hl] at e4 hOK
        by_cases g1 : p.rate < 1
        · have HN := Lib.hid (HAB.out (by rw [hOK]; unfold Cf.portOk; rw [if_pos rfl, decide_eq_false (by omega : ¬ 1 ≤ p.rate)]; rfl))
          have t1 : decide (p.rate < 1) = true := decide_eq_true g1
          clear hOK hl g1 hk
          go_wp2_with fail
          go_ret
          exact ⟨by rw [HN.out]; rfl, hbF⟩
        · by_cases g2 : 1000000000 < p.rate
          · have HN := Lib.hid (HAB.out (by rw [hOK]; unfold Cf.portOk; rw [if_pos rfl, decide_eq_false (by omega : ¬ p.rate ≤ 1000000000), Bool.and_false]))
            have t1 : decide (p.rate < 1) = false := decide_eq_false g1
            have t2 : decide (1000000000 < p.rate) = true := decide_eq_true g2
            clear hOK hl g1 g2 hk
            go_wp2_with fail
            go_ret
            exact ⟨by rw [HN.out]; rfl, hbF⟩
          · have HP : Hid (p.ok = true) := by show _ = _; rw [hOK]; unfold Cf.portOk; rw [if_pos rfl, decide_eq_true (by omega : 1 ≤ p.rate), decide_eq_true (by omega : p.rate ≤ 1000000000)]; rfl
            have t1 : decide (p.rate < 1) = false := decide_eq_false g1
            have t2 : decide (1000000000 < p.rate) = false := decide_eq_false g2
            clear hOK hl g1 g2
            have HAL := Lib.hid (HAN.out HP.out)
            clear HAB HAN hk
            have hpb := run_build_p5 p.nat p.ho p.ta p.tags.length p.tc p.li
            have q0 : w3.cell? ⟨w.heap.size + 1, 0, none⟩ = some pv := HB3.out.cell 0
            go_wp2_with (at_builtin; refine wpList_append_own _ rfl (.tmp 54) (.tmp 64) 76 rfl (w.heap.size + 2) 83 ri rz 5 56 Tryz.underlying76 HRI.out HRZ.out hr1 hr2 hr3 (by decide) _ k _ rfl (World.ownsRow.alloc HO3.out _) ⟨w3.heap.size, 0, none⟩ 1 1 (Cf.rv5 p.rv) rfl rfl (fun j u hj => by rw [addr_add, (rowIs_new w3 83 #[.int .i64 p.nat, .slice p.ta p.tags.length p.tc, .int .i64 p.ho, .int .i64 p.li, .int .i64 0]).cell j, ← Array.getElem?_toList]; exact hj) ?d2 ?d3 ?d4 ?d5 ?_)
            case d2 =>
              intro u hu
              simp [Cf.rv5] at hu
              rcases hu with rfl | rfl | rfl | rfl | rfl <;> rfl
            case d3 => simp [maxLen]; omega
            case d4 => omega
            case d5 => have := HBR3.out.size; simp; omega
            intro v' w' ho hg _
            have HOUT : Hid (w'.ownsRow (w.heap.size + 2) 83 5 v' (k + 1) (Cf.rcs5 (L.take (k + 1)))) := by
              show World.ownsRow _ _ _ _ _ _ _
              rw [HLN.out]
              exact ho
            have hlo : ∀ j, j < w.heap.size + 2 → w'.heap[j]? = w3.heap[j]? := fun j hj => (hg.block j (by simp; omega) (fun e => by have := (Cf.owns_block' HO3.out e.symm).1; omega)).trans (Below.heap_alloc _ _ _ (by omega))
            have HBX : Hid (RowIs w' (w.heap.size + 1) 81 #[pv, .int .i64 ag, .slice none 0 0, .slice none 0 0, .int .i64 0, .int .i64 0, .int .i64 0, .int .i64 0, .int .i64 0]) := (hlo _ (by omega)).trans HB3.out
            have HXX : Hid (RowIs w' w.heap.size 25 #[.int .u8 ((x.f 0).toNat : Int), .int .u8 ((x.f 1).toNat : Int), .int .u8 ((x.f 2).toNat : Int), .int .u8 ((x.f 3).toNat : Int), .int .u8 ((x.f 4).toNat : Int), .int .u8 ((x.f 5).toNat : Int), .int .u8 ((x.f 6).toNat : Int), .int .u8 ((x.f 7).toNat : Int), .int .i64 ma, .int .i64 he, .int .i64 de, .int .i64 ag, .slice (some ⟨b, off, none⟩) L.length cap]) := (hlo _ (by omega)).trans HX3.out
            have HBW : Hid (Below w.heap.size w w') := HBR3.out.trans (((Below.refl _ _).alloc (by omega) _).grown hg (by simp; omega) (fun j e => by have := (Cf.owns_block' HO3.out e).1; omega))
            have hgz : w.heap.size + 2 ≤ w'.heap.size := by have := hg.size; simp at this; omega
            have hv1 := Cf.owns_one ho
            clear ho hg hlo HO3 HB3 HX3 HBR3 hbF e0 e1 e2 e3 e4 e5 e6 R5 q0 hpb
            go_wp2_with ((with_reducible refine at_store 76 (.tmp 66) (.tmp 65) ?_); refine wpList_store_cell rfl 76 (.tmp 66) (.tmp 65) rfl (w.heap.size + 1) 0 v' rfl rfl 81 _ HBX.out (by simp) (by kernel_rfl) hv1 w.heap.size (by omega) ?_)
            intro w5 hK hO hs hb
            have HB5 : Hid (RowIs w5 (w.heap.size + 1) 81 #[v', .int .i64 ag, .slice none 0 0, .slice none 0 0, .int .i64 0, .int .i64 0, .int .i64 0, .int .i64 0, .int .i64 0]) := hK
            have HX5 : Hid (RowIs w5 w.heap.size 25 #[.int .u8 ((x.f 0).toNat : Int), .int .u8 ((x.f 1).toNat : Int), .int .u8 ((x.f 2).toNat : Int), .int .u8 ((x.f 3).toNat : Int), .int .u8 ((x.f 4).toNat : Int), .int .u8 ((x.f 5).toNat : Int), .int .u8 ((x.f 6).toNat : Int), .int .u8 ((x.f 7).toNat : Int), .int .i64 ma, .int .i64 he, .int .i64 de, .int .i64 ag, .slice (some ⟨b, off, none⟩) L.length cap]) := (hO _ (by omega)).trans HXX.out
            have HO5 := Lib.hid (owns_stored HOUT.out hO (by omega))
            have HBW5 := Lib.hid (HBW.out.trans hb)
            have hz5 : w.heap.size + 2 ≤ w5.heap.size := by omega
            clear hK hO hs hb HBX HXX HOUT HBW hgz
            go_wp2_with fail
            exact ⟨⟨k + 1, v', by omega, by go_num, HB5, HO5, HAL, HX5, HBW5, hz5⟩, by simp [RowKit.intOf]; omega⟩
      | false =>
        rw [hl] at e4 hOK
        cases hr : p.rate == 0 with
        | false =>
          have hr' : (p.rate != 0) = true := by unfold bne; rw [hr]; rfl
          have HN := Lib.hid (HAB.out (by rw [hOK]; unfold Cf.portOk; rw [hr]; rfl))
          clear hOK hl hk
          go_wp2_with fail
          go_ret
          exact ⟨by rw [HN.out]; rfl, hbF⟩
        | true =>
          have hr' : (p.rate != 0) = false := by unfold bne; rw [hr]; rfl
          cases hg : p.greets with
          | true =>
            rw [hg] at e6 hOK
            have HN := Lib.hid (HAB.out (by rw [hOK]; unfold Cf.portOk; rw [hr]; rfl))
            clear hOK hl hg hk
            go_wp2_with fail
            go_ret
            exact ⟨by rw [HN.out]; rfl, hbF⟩
          | false =>
            rw [hg] at e6 hOK
            cases hq : eqB p.psk (Cf.zeros 32) with
            | false =>
              have HN := Lib.hid (HAB.out (by rw [hOK]; unfold Cf.portOk; rw [hr, hq]; rfl))
              rw [hq] at hk
              clear hOK hl hg hq
              go_wp2_with (first
                | ((with_reducible refine at_load 48 (.tmp 46) ?_); refine wpList_load_part rfl 48 (.tmp 46) rfl wr.heap.size 7 rfl 50 _ R5.out (byteVals p.psk) (by show (byteVals p.psk).take (byteVals p.psk).length = _; exact List.take_length) _ Tryz.underlying48 rfl (by rw [byteVals_length, HPL.out]; kernel_rfl) ?_)
                | ((with_reducible refine at_build 48 ?_); refine wpList_build_none rfl 48 (byteVals (Cf.zeros 32)).toArray rfl (by kernel_rfl) Tryz.underlying48 Tryz.sizeOf5 ?_))
              go_ret
              exact ⟨by rw [HN.out]; rfl, hbF⟩
            | true =>
              have HP : Hid (p.ok = true) := by show _ = _; rw [hOK]; unfold Cf.portOk; rw [hr, hq]; rfl
              rw [hq] at hk
              clear hOK hl hg hq
              have HAL := Lib.hid (HAN.out HP.out)
              clear HAB HAN
              have hpb := run_build_p5 p.nat p.ho p.ta p.tags.length p.tc p.li
              have q0 : w3.cell? ⟨w.heap.size + 1, 0, none⟩ = some pv := HB3.out.cell 0
              go_wp2_with (first | ((with_reducible refine at_load 48 (.tmp 46) ?_); refine wpList_load_part rfl 48 (.tmp 46) rfl wr.heap.size 7 rfl 50 _ R5.out (byteVals p.psk) (by show (byteVals p.psk).take (byteVals p.psk).length = _; exact List.take_length) _ Tryz.underlying48 rfl (by rw [byteVals_length, HPL.out]; kernel_rfl) ?_) | ((with_reducible refine at_build 48 ?_); refine wpList_build_none rfl 48 (byteVals (Cf.zeros 32)).toArray rfl (by kernel_rfl) Tryz.underlying48 Tryz.sizeOf5 ?_) | (at_builtin; refine wpList_append_own _ rfl (.tmp 54) (.tmp 64) 76 rfl (w.heap.size + 2) 83 ri rz 5 56 Tryz.underlying76 HRI.out HRZ.out hr1 hr2 hr3 (by decide) _ k _ rfl (World.ownsRow.alloc HO3.out _) ⟨w3.heap.size, 0, none⟩ 1 1 (Cf.rv5 p.rv) rfl rfl (fun j u hj => by rw [addr_add, (rowIs_new w3 83 #[.int .i64 p.nat, .slice p.ta p.tags.length p.tc, .int .i64 p.ho, .int .i64 p.li, .int .i64 0]).cell j, ← Array.getElem?_toList]; exact hj) ?d2 ?d3 ?d4 ?d5 ?_))
              case d2 =>
                intro u hu
                simp [Cf.rv5] at hu
                rcases hu with rfl | rfl | rfl | rfl | rfl <;> rfl
              case d3 => simp [maxLen]; omega
              case d4 => omega
              case d5 => have := HBR3.out.size; simp; omega
              intro v' w' ho hg _
              have HOUT : Hid (w'.ownsRow (w.heap.size + 2) 83 5 v' (k + 1) (Cf.rcs5 (L.take (k + 1)))) := by
                show World.ownsRow _ _ _ _ _ _ _
                rw [HLN.out]
                exact ho
              have hlo : ∀ j, j < w.heap.size + 2 → w'.heap[j]? = w3.heap[j]? := fun j hj => (hg.block j (by simp; omega) (fun e => by have := (Cf.owns_block' HO3.out e.symm).1; omega)).trans (Below.heap_alloc _ _ _ (by omega))
              have HBX : Hid (RowIs w' (w.heap.size + 1) 81 #[pv, .int .i64 ag, .slice none 0 0, .slice none 0 0, .int .i64 0, .int .i64 0, .int .i64 0, .int .i64 0, .int .i64 0]) := (hlo _ (by omega)).trans HB3.out
              have HXX : Hid (RowIs w' w.heap.size 25 #[.int .u8 ((x.f 0).toNat : Int), .int .u8 ((x.f 1).toNat : Int), .int .u8 ((x.f 2).toNat : Int), .int .u8 ((x.f 3).toNat : Int), .int .u8 ((x.f 4).toNat : Int), .int .u8 ((x.f 5).toNat : Int), .int .u8 ((x.f 6).toNat : Int), .int .u8 ((x.f 7).toNat : Int), .int .i64 ma, .int .i64 he, .int .i64 de, .int .i64 ag, .slice (some ⟨b, off, none⟩) L.length cap]) := (hlo _ (by omega)).trans HX3.out
              have HBW : Hid (Below w.heap.size w w') := HBR3.out.trans (((Below.refl _ _).alloc (by omega) _).grown hg (by simp; omega) (fun j e => by have := (Cf.owns_block' HO3.out e).1; omega))
              have hgz : w.heap.size + 2 ≤ w'.heap.size := by have := hg.size; simp at this; omega
              have hv1 := Cf.owns_one ho
              clear ho hg hlo HO3 HB3 HX3 HBR3 hbF e0 e1 e2 e3 e4 e5 e6 R5 q0 hpb
              go_wp2_with ((with_reducible refine at_store 76 (.tmp 66) (.tmp 65) ?_); refine wpList_store_cell rfl 76 (.tmp 66) (.tmp 65) rfl (w.heap.size + 1) 0 v' rfl rfl 81 _ HBX.out (by simp) (by kernel_rfl) hv1 w.heap.size (by omega) ?_)
              intro w5 hK hO hs hb
              have HB5 : Hid (RowIs w5 (w.heap.size + 1) 81 #[v', .int .i64 ag, .slice none 0 0, .slice none 0 0, .int .i64 0, .int .i64 0, .int .i64 0, .int .i64 0, .int .i64 0]) := hK
              have HX5 : Hid (RowIs w5 w.heap.size 25 #[.int .u8 ((x.f 0).toNat : Int), .int .u8 ((x.f 1).toNat : Int), .int .u8 ((x.f 2).toNat : Int), .int .u8 ((x.f 3).toNat : Int), .int .u8 ((x.f 4).toNat : Int), .int .u8 ((x.f 5).toNat : Int), .int .u8 ((x.f 6).toNat : Int), .int .u8 ((x.f 7).toNat : Int), .int .i64 ma, .int .i64 he, .int .i64 de, .int .i64 ag, .slice (some ⟨b, off, none⟩) L.length cap]) := (hO _ (by omega)).trans HXX.out
              have HO5 := Lib.hid (owns_stored HOUT.out hO (by omega))
              have HBW5 := Lib.hid (HBW.out.trans hb)
              have hz5 : w.heap.size + 2 ≤ w5.heap.size := by omega
              clear hK hO hs hb HBX HXX HOUT HBW hgz
              go_wp2_with fail
              exact ⟨⟨k + 1, v', by omega, by go_num, HB5, HO5, HAL, HX5, HBW5, hz5⟩, by simp [RowKit.intOf]; omega⟩
    · obtain rfl : k = L.length := by omega
      rw [List.take_length] at HO HG
      obtain ⟨ao2, b2, off2, cap2, rfl, hao2, hRI⟩ := Cf.rin5_of HO.out (fun p hp => ⟨((HLL.out.after HBR.out).2.2 p hp).1, ((HLL.out.after HBR.out).2.2 p hp).2.1⟩)
      have hrc := rright22 b2 off2 cap2 (L.map Cf.Pv.rv) ag wr ao2 hao2 hRI (by rw [List.length_map]; exact hn)
      rw [List.length_map, Cf.ok22_relay] at hrc
      have HRel := Lib.hid hrc
      clear hrc hao2 hRI HO
      have HCO : Hid (Cf.confOk L ag ma he de = (Cf.relayOk (L.map Cf.Pv.rv) ag && SpN.rightT ma he de)) := by show _ = _; unfold Cf.confOk; rw [HG.out, Bool.true_and]
      clear HG HLL
      have hbF := HBR.out
      go_wp2_with ((with_reducible refine at_load 81 (.tmp 3) ?_); refine wpList_load_own rfl 81 (.tmp 3) rfl (w.heap.size + 1) rfl 81 _ _ HB.out Tryz.underlying81 rfl (by kernel_rfl) ?_)
      refine HRel.out.mono ?_
      rintro e w4 ⟨rfl, hb4⟩
      have HX4 := Lib.hid (HX.out.kept hb4)
      have hbw4 := hbF.trans (hb4.mono hbF.size)
      clear HRel hb4 HX HB HBR hbF d12
      have c8 : (w4.alloc (.cells #[.int .i64 1] 3)).cell? ⟨w.heap.size, 8, none⟩ = some (.int .i64 ma) := (HX4.out.alloc (.cells #[.int .i64 1] 3)).cell 8
      have c9 : (w4.alloc (.cells #[.int .i64 1] 3)).cell? ⟨w.heap.size, 9, none⟩ = some (.int .i64 he) := (HX4.out.alloc (.cells #[.int .i64 1] 3)).cell 9
      have c10 : (w4.alloc (.cells #[.int .i64 1] 3)).cell? ⟨w.heap.size, 10, none⟩ = some (.int .i64 de) := (HX4.out.alloc (.cells #[.int .i64 1] 3)).cell 10
      generalize hrel : Cf.relayOk (L.map Cf.Pv.rv) ag = rok at *
      clear hrel
      cases rok
      · go_wp2_with fail
        go_ret
        exact ⟨by rw [HCO.out]; rfl, hbw4⟩
      · have HSP := Lib.hid (fun ao cap w h => rright17 ao cap ma he de w h)
        go_wp2_with fail
        refine (HSP.out (some ⟨w4.heap.size, 0, none⟩) 1 _ (.inr ⟨_, 0, rfl, fun i hi => ?_⟩)).mono ?_
        · obtain rfl : i = 0 := by simpa using hi
          exact (rowIs_new w4 _ _).cell 0
        rintro e w5 ⟨rfl, rfl⟩
        have hbw5 := hbw4.alloc hbw4.size (.cells #[.int .i64 1] 3)
        go_wp2_with fail
        go_ret
        exact ⟨by rw [HCO.out]; rfl, hbw5⟩
end Go.Proofs.YthfckdnennfnoaaGreatDoor
-- causeyref23.Parse. By an AI agent. 
namespace Go.Proofs.YthfckdnennfnoaaGreatDoor
open Go.RowKit Go.WideShapes Go.Sort Grow
theorem wpList_build_rconf {ops : Array Oper} {rest : List Oper} {o : Oper} {a : Act} {w : World} {Q : Exit → Act → World → Prop} (ho : o.op = .build 25 #[]) (h : wpList Tryz.prog ops Q rest (a.put o.dst (.agg #[.int .u8 0, .int .u8 0, .int .u8 0, .int .u8 0, .int .u8 0, .int .u8 0, .int .u8 0, .int .u8 0, .int .i64 0, .int .i64 0, .int .i64 0, .int .i64 0, .slice none 0 0])) w) (hgd : Region.wanted o (yielded ops a.tmps) = true := by rfl) : wpList Tryz.prog ops Q (o :: rest) a w :=
  BigFrame.wpList_want hgd fun _ hK => by
    unfold Oper.wp execOp
    have hz : (Instr.build 25 #[]).run Tryz.prog w = .ok (.agg #[.int .u8 0, .int .u8 0, .int .u8 0, .int .u8 0, .int .u8 0, .int .u8 0, .int .u8 0, .int .u8 0, .int .i64 0, .int .i64 0, .int .i64 0, .int .i64 0, .slice none 0 0]) w := by kernel_rfl
    have e1 : ((#[] : Array (Nat × Operand)).map fun (i, x) => (i, a.eval x)) = #[] := by simp
    simp only [ho, e1, Sem.run_bind, hz, Result.andThen_ok, Sem.run_pure]
    exact hK _ _ h
theorem at_dst59 {ops : Array Oper} {rest : List Oper} {a : Act} {w : World} {Q : Exit → Act → World → Prop} (k : Nat) {op : Op} {t : TypeId} {pos : String} {aft : Array Edge} {g : Option _}
    (h : wpList Tryz.prog ops Q (⟨some k, op, t, pos, aft, g⟩ :: rest) a w) : wpList Tryz.prog ops Q (⟨some k, op, t, pos, aft, g⟩ :: rest) a w := h
theorem wpList_build_one {ops : Array Oper} {rest : List Oper} {o : Oper} {a : Act} {w : World} {Q : Exit → Act → World → Prop} (hg : o.guard = none) (t e : TypeId) (x : Operand) (ho : o.op = .buildSlice t 1 #[(0, x)]) (cells : Array Value) (hx : a.eval x = .agg cells)
    (hu : Tryz.prog.underlying t = some (.slice e)) (sz : Nat) (hi : (Tryz.prog.info? e).map (fun i => (i.zero.isSome, i.size)) = some (true, sz)) (hsz : cells.size = sz) (hsmall : ¬ 1 * sz > 2 ^ 24) (hpos : ¬ 1 * sz = 0)
    (h : wpList Tryz.prog ops Q rest (a.put o.dst (.slice (some ⟨w.heap.size, 0, none⟩) 1 1)) (w.alloc (.cells cells e))) : wpList Tryz.prog ops Q (o :: rest) a w :=
  BigFrame.wpList_want (by simp [Region.wanted, hg]) fun _ hK => by
    have := step_build_one (P := Tryz.prog) (o := o) (a := a) (w := w) (ys := fun _ => none) (Q := Q) (C := True) hg t e x ho cells hx hu sz hi hsz hsmall hpos (hK _ _ h)
    rw [if_pos (by simp [Region.wanted, hg])] at this
    exact this
namespace Cf
def PStage (s : ByteArray) (I : List ByteArray) (z : ByteArray) (C : Nat) (wr : World) (k : Nat) : Prop := (k = 0 ∧ RowIs wr C 25 #[.int .u8 0, .int .u8 0, .int .u8 0, .int .u8 0, .int .u8 0, .int .u8 0, .int .u8 0, .int .u8 0, .int .i64 0, .int .i64 0, .int .i64 0, .int .i64 0, .slice none 0 0]) ∨ ∃ b pv psv, Cf.RStage s I z b (psv.map Prod.fst) k ∧ RowIs wr C 25 (Cf.bcells b pv) ∧ Cf.RPorts wr (C + 1) pv psv ∧ psv.length + 1 = k ∧ b.id.length = 8 ∧ ∀ q ∈ psv, q.1.tags.length ≤ 1000000
def mixId (bs : List UInt8) (i : Nat) : List UInt8 := bs.take i ++ zeros (8 - i)
theorem mixId_len {bs : List UInt8} (h : bs.length = 8) {i : Nat} (hi : i ≤ 8) : (mixId bs i).length = 8 := by unfold mixId zeros; rw [List.length_append, List.length_take, List.length_replicate]; omega
theorem mixId_next {bs : List UInt8} (h : bs.length = 8) {i : Nat} (hi : i < 8) : mixId bs (i + 1) = (mixId bs i).set i (bs.getD i 0) := by
  unfold mixId zeros
  rw [List.take_succ_eq_append_getElem (by omega), List.set_append_right _ _ (by rw [List.length_take]; omega), List.length_take, show i - min i bs.length = 0 from by omega]
  obtain ⟨m, hm⟩ : ∃ m, 8 - i = m + 1 := ⟨7 - i, by omega⟩
  rw [hm, List.replicate_succ, show 8 - (i + 1) = m from by omega, List.getD_eq_getElem?_getD, List.getElem?_eq_getElem (by omega), List.set_cons_zero, List.append_assoc]
  rfl
theorem mixId_all {bs : List UInt8} (h : bs.length = 8) : mixId bs 8 = bs := by unfold mixId zeros; rw [List.take_of_length_le (by omega)]; simp
theorem id_put (l : List UInt8) (t : List Value) (k : Nat) (hk : k < l.length) (x : UInt8) : ((byteVals l ++ t).toArray).setIfInBounds k (.int .u8 (x.toNat : Int)) = (byteVals (l.set k x) ++ t).toArray := by
  rw [List.setIfInBounds_toArray, List.set_append_left _ _ (by rw [byteVals_length]; exact hk)]
  unfold byteVals
  rw [List.map_set]
theorem pieces_form (c : UInt8) (s : ByteArray) : ∃ I z, Oct.pieces c s = I ++ [z] := by
  obtain ⟨ps, p, h⟩ := parts_ne c s.data.toList
  unfold Oct.pieces
  rw [h, List.map_append]
  exact ⟨_, _, rfl⟩
theorem allNum4_none {a b c d : List UInt8} (h : allNum [a, b, c, d] = none) : numOf a = none ∨ numOf b = none ∨ numOf c = none ∨ numOf d = none := by
  cases h1 : numOf a with
  | none => exact .inl rfl
  | some x =>
    right
    cases h2 : allNum [b, c, d] with
    | none => exact allNum3_none h2
    | some y =>
      unfold allNum at h
      rw [h1, h2] at h
      cases h
theorem allNum4_some {a b c d : List UInt8} {ns : List Nat} (h : allNum [a, b, c, d] = some ns) : ∃ x y z u, numOf a = some x ∧ numOf b = some y ∧ numOf c = some z ∧ numOf d = some u ∧ ns = [x, y, z, u] := by
  unfold allNum at h
  cases h1 : numOf a with
  | none => rw [h1] at h; cases h
  | some x => cases h2 : allNum [b, c, d] with
    | none => rw [h1, h2] at h; cases h
    | some l =>
      rw [h1, h2] at h
      obtain rfl := Option.some.inj h
      obtain ⟨y, z, u, e1, e2, e3, rfl⟩ := allNum3_some h2
      exact ⟨x, y, z, u, rfl, e1, e2, e3, rfl⟩
end Cf
set_option maxRecDepth 20000 in
set_option maxHeartbeats 8000000 in
theorem rparse_any (s : ByteArray) (hs : s.size ≤ 8192) (w : World) :
    Calls Tryz.prog 7 #[.string s] w fun e w' => Cf.RParseAns s w.heap.size e w' ∧ Below w.heap.size w w' := by
  obtain ⟨ri, rz, hri, hrz, hr1, hr2, hr3⟩ := Cf.info_rp
  have HRI := Lib.hid hri
  have HRZ := Lib.hid hrz
  clear hri hrz
  have dsz : decide (8192 < (s.size : Int)) = false := decide_eq_false (by omega)
  have hs5 : s.size ≤ 100000 := by omega
  go_enter Tryz.func7, Tryz.ntmps7
  go_upto_region 1 with fail
  have HR1 : Hid (RowIs (w.alloc (.cells #[.int .u8 0, .int .u8 0, .int .u8 0, .int .u8 0, .int .u8 0, .int .u8 0, .int .u8 0, .int .u8 0, .int .i64 0, .int .i64 0, .int .i64 0, .int .i64 0, .slice none 0 0] 25)) w.heap.size 25 #[.int .u8 0, .int .u8 0, .int .u8 0, .int .u8 0, .int .u8 0, .int .u8 0, .int .u8 0, .int .u8 0, .int .i64 0, .int .i64 0, .int .i64 0, .int .i64 0, .slice none 0 0]) := rowIs_new w _ _
  have hb1 : Below w.heap.size w (w.alloc (.cells #[.int .u8 0, .int .u8 0, .int .u8 0, .int .u8 0, .int .u8 0, .int .u8 0, .int .u8 0, .int .u8 0, .int .i64 0, .int .i64 0, .int .i64 0, .int .i64 0, .slice none 0 0] 25)) := (Below.refl _ _).alloc (Nat.le_refl _) _
  have hz1 : w.heap.size < (w.alloc (.cells #[.int .u8 0, .int .u8 0, .int .u8 0, .int .u8 0, .int .u8 0, .int .u8 0, .int .u8 0, .int .u8 0, .int .i64 0, .int .i64 0, .int .i64 0, .int .i64 0, .slice none 0 0] 25)).heap.size := by simp
  generalize w.alloc (.cells #[.int .u8 0, .int .u8 0, .int .u8 0, .int .u8 0, .int .u8 0, .int .u8 0, .int .u8 0, .int .u8 0, .int .i64 0, .int .i64 0, .int .i64 0, .int .i64 0, .slice none 0 0] 25) = w1 at *
  go_upto_region 3 with fail
  clear dsz
  go_wp2_with fail
  refine (rsplit_at s 10 hs5 w1).mono ?_
  rintro e w2 ⟨⟨gs, caps, rfl, hcaps, hgs, hat⟩, hb⟩
  obtain ⟨I, z, hIz⟩ := Cf.pieces_form 10 s
  have hlen : (Oct.pieces 10 s).length = I.length + 1 := by rw [hIz]; simp
  have hIs : I.length ≤ 8192 := by
    have h1 := Cf.parts_count 10 s.data.toList
    have h2 : (Oct.pieces 10 s).length = (Oct.parts 10 s.data.toList).length := by unfold Oct.pieces; rw [List.length_map]
    have e : s.data.toList.length = s.size := by simp
    omega
  obtain ⟨b0, off0, hb0, hgz, hcells⟩ := hat.some_of (by omega)
  simp only [Option.some.injEq, Addr.mk.injEq, and_true] at hb0
  obtain ⟨rfl, rfl⟩ := hb0
  have HCELL : Hid (∀ i (h : i < I.length), w2.cell? ⟨gs, i, none⟩ = some (.string I[i])) := fun i h => by
    have := hcells i (by omega)
    rw [Nat.zero_add] at this
    rw [this]
    simp only [hIz]
    rw [List.getElem_append_left h]
  have hcz : w2.cell? ⟨gs, I.length, none⟩ = some (.string z) := by
    have := hcells I.length (by omega)
    rw [Nat.zero_add] at this
    rw [this]
    simp [hIz]
  have HSM : Hid (∀ x ∈ I, x.size ≤ 8192) := fun x hx => by have := Cf.pieces_le 10 s x (by rw [hIz]; simp [hx]); omega
  have HIZ := Lib.hid hIz
  rw [hlen] at hcaps ⊢
  have HR2 := Lib.hid (HR1.out.kept hb)
  have hb2 := hb1.trans (hb.mono (by omega))
  have hz2 : w.heap.size < w2.heap.size := Nat.lt_of_lt_of_le hz1 hb.size
  have hw1 : IntKind.i64.wrap (I.length : Int) = (I.length : Int) := IntWalk.i64_in _ (by omega)
  clear hb hb1 hz1 HR1 hat hcells hlen hIz hgs hs5
  go_upto_region 7 with fail
  have HC3 : Hid (RowIs (w2.alloc (.cells #[.int .u8 0, .int .u8 0, .int .u8 0, .int .u8 0, .int .u8 0, .int .u8 0, .int .u8 0, .int .u8 0, .int .i64 0, .int .i64 0, .int .i64 0, .int .i64 0, .slice none 0 0] 25)) w2.heap.size 25 #[.int .u8 0, .int .u8 0, .int .u8 0, .int .u8 0, .int .u8 0, .int .u8 0, .int .u8 0, .int .u8 0, .int .i64 0, .int .i64 0, .int .i64 0, .int .i64 0, .slice none 0 0]) := rowIs_new w2 _ _
  have HR3 := Lib.hid (HR2.out.alloc (.cells #[.int .u8 0, .int .u8 0, .int .u8 0, .int .u8 0, .int .u8 0, .int .u8 0, .int .u8 0, .int .u8 0, .int .i64 0, .int .i64 0, .int .i64 0, .int .i64 0, .slice none 0 0] 25))
  have HB3 : Hid (Below w2.heap.size w2 (w2.alloc (.cells #[.int .u8 0, .int .u8 0, .int .u8 0, .int .u8 0, .int .u8 0, .int .u8 0, .int .u8 0, .int .u8 0, .int .i64 0, .int .i64 0, .int .i64 0, .int .i64 0, .slice none 0 0] 25))) := (Below.refl _ _).alloc (Nat.le_refl _) _
  have HW3 : Hid (Below w.heap.size w (w2.alloc (.cells #[.int .u8 0, .int .u8 0, .int .u8 0, .int .u8 0, .int .u8 0, .int .u8 0, .int .u8 0, .int .u8 0, .int .i64 0, .int .i64 0, .int .i64 0, .int .i64 0, .slice none 0 0] 25))) := hb2.alloc hb2.size _
  have hz3 : w2.heap.size + 1 ≤ (w2.alloc (.cells #[.int .u8 0, .int .u8 0, .int .u8 0, .int .u8 0, .int .u8 0, .int .u8 0, .int .u8 0, .int .u8 0, .int .i64 0, .int .i64 0, .int .i64 0, .int .i64 0, .slice none 0 0] 25)).heap.size := by simp
  generalize w2.alloc (.cells #[.int .u8 0, .int .u8 0, .int .u8 0, .int .u8 0, .int .u8 0, .int .u8 0, .int .u8 0, .int .u8 0, .int .i64 0, .int .i64 0, .int .i64 0, .int .i64 0, .slice none 0 0] 25) = w3 at *
  generalize w2.heap.size = C at *
  clear HR2 hb2 hcz
  go_upto_region 8 with fail
  go_loopw [8] (fun v8 wr => ∃ k : Nat, k ≤ I.length ∧ v8 = .int .i64 k ∧ Hid (Cf.PStage s I z C wr k) ∧ Hid (RowIs wr w.heap.size 25 #[.int .u8 0, .int .u8 0, .int .u8 0, .int .u8 0, .int .u8 0, .int .u8 0, .int .u8 0, .int .u8 0, .int .i64 0, .int .i64 0, .int .i64 0, .int .i64 0, .slice none 0 0]) ∧ Hid (Below C w2 wr) ∧ Hid (Below w.heap.size w wr) ∧ C + 1 ≤ wr.heap.size) (fun v8 _ => I.length - (RowKit.intOf v8).toNat)
  case atStart => exact ⟨0, Nat.zero_le _, rfl, .inl ⟨rfl, HC3.out⟩, HR3, HB3, HW3, hz3⟩
  case round =>
    rename World => wr
    clear HC3 HR3 HB3 HW3 hz3
    obtain ⟨k, hk, rfl, HS, HRr, HCr, HWr, hzr⟩ := hrel
    have hbF := HWr.out
    by_cases hlt : k < I.length
    · have c0 : wr.cell? ⟨gs, k, none⟩ = some (.string I[k]) := (HCr.out.cell (p := ⟨gs, k, none⟩) hgz).trans (HCELL.out k hlt)
      have hxs : I[k].size ≤ 8192 := HSM.out I[k] (List.getElem_mem _)
      have HB0 := Lib.hid (fun (h0 : 0 < I.length) (x : ByteArray) (hx : I[0] = x) h => Cf.rstage_bad0 (x := x) HIZ.out h0 hx h)
      have HG0 := Lib.hid (fun b (h0 : 0 < I.length) (x : ByteArray) (hx : I[0] = x) h => Cf.rstage_first (x := x) (b := b) HIZ.out h0 hx h)
      have HBK := Lib.hid (fun b ps h (x : ByteArray) (hx : I[k] = x) h2 => Cf.rstage_bad (s := s) (z := z) (x := x) (b := b) (ps := ps) h hlt hx h2)
      have HGK := Lib.hid (fun b ps p h (x : ByteArray) (hx : I[k] = x) h2 => Cf.rstage_next (s := s) (z := z) (x := x) (b := b) (ps := ps) (p := p) h hlt hx h2)
      obtain ⟨x, hx⟩ : ∃ x, I[k] = x := ⟨_, rfl⟩
      rw [hx] at c0 hxs
      have HXK := Lib.hid hx
      clear hx
      go_wp2_with fail
      refine (rsplit_at x 32 (by omega) wr).mono ?_
      rintro e w4 ⟨⟨gl, capl, rfl, hcapl, _, hat⟩, hb⟩
      have HAT := Lib.hid hat
      have HR4 := Lib.hid (HRr.out.kept hb)
      have HC4 := Lib.hid (HCr.out.trans (hb.mono (by omega)))
      have hbF4 := hbF.trans (hb.mono hbF.size)
      have hz4 : C + 1 ≤ w4.heap.size := Nat.le_trans hzr hb.size
      have hp2 := Cf.pieces_some 32 x
      have hpn : (Oct.pieces 32 x).length ≤ 8193 := by
        have h1 := Cf.parts_count 32 x.data.toList
        unfold Oct.pieces
        rw [List.length_map]
        have e : x.data.toList.length = x.size := by simp
        omega
      have HPS : Hid (∀ y ∈ Oct.pieces 32 x, y.size ≤ 100000) := fun y hy => by have := Cf.pieces_le 32 x y hy; omega
      clear hat HRr HCr HWr hbF c0
      have hbF := hbF4
      clear hbF4
      rcases HS.out with ⟨rfl, hX⟩ | ⟨b, pv, psv, hst, hX, hps, hpl, hid, htg⟩
      · have HX := Lib.hid (RowIs.kept hX hb)
        clear hX HS hb hzr
        have hi0 : 0 < I.length := hlt
        obtain ⟨bl, ol, hbl, hglz, hlc⟩ := HAT.out.some_of hp2
        simp only [Option.some.injEq, Addr.mk.injEq, and_true] at hbl
        obtain ⟨rfl, rfl⟩ := hbl
        by_cases hl6 : (Oct.pieces 32 x).length = 6
        · have l6 : (((6 : Nat) : Int) != 6) = false := rfl
          have hy0 : w4.cell? ⟨gl, 0, none⟩ = some (.string (Oct.pieces 32 x)[0]) := hlc 0 (by omega)
          have hy1 : w4.cell? ⟨gl, 1, none⟩ = some (.string (Oct.pieces 32 x)[1]) := hlc 1 (by omega)
          have hy2 : w4.cell? ⟨gl, 2, none⟩ = some (.string (Oct.pieces 32 x)[2]) := hlc 2 (by omega)
          have hy3 : w4.cell? ⟨gl, 3, none⟩ = some (.string (Oct.pieces 32 x)[3]) := hlc 3 (by omega)
          have hy4 : w4.cell? ⟨gl, 4, none⟩ = some (.string (Oct.pieces 32 x)[4]) := hlc 4 (by omega)
          have hy5 : w4.cell? ⟨gl, 5, none⟩ = some (.string (Oct.pieces 32 x)[5]) := hlc 5 (by omega)
          have hpp0 := Cf.part_get (xs := Oct.pieces 32 x) (i := 0) (by omega)
          have hpp1 := Cf.part_get (xs := Oct.pieces 32 x) (i := 1) (by omega)
          have hpp2 := Cf.part_get (xs := Oct.pieces 32 x) (i := 2) (by omega)
          have hpp3 := Cf.part_get (xs := Oct.pieces 32 x) (i := 3) (by omega)
          have hpp4 := Cf.part_get (xs := Oct.pieces 32 x) (i := 4) (by omega)
          have hpp5 := Cf.part_get (xs := Oct.pieces 32 x) (i := 5) (by omega)
          have hz1 := HPS.out (Oct.pieces 32 x)[1] (List.getElem_mem _)
          have hbis := Cf.bridge_is hl6
          rw [hpp0, hpp1, hpp2, hpp3, hpp4, hpp5] at hbis
          generalize (Oct.pieces 32 x)[0] = y0 at *
          generalize (Oct.pieces 32 x)[1] = y1 at *
          generalize (Oct.pieces 32 x)[2] = y2 at *
          generalize (Oct.pieces 32 x)[3] = y3 at *
          generalize (Oct.pieces 32 x)[4] = y4 at *
          generalize (Oct.pieces 32 x)[5] = y5 at *
          have HBI := Lib.hid hbis
          have HNO := Lib.hid (fun h => HB0.out hi0 x HXK.out h)
          have HYE := Lib.hid (fun b h => HG0.out b hi0 x HXK.out h)
          have HY := Lib.hid (show w4.cell? ⟨gl, 1, none⟩ = some (.string y1) ∧ w4.cell? ⟨gl, 2, none⟩ = some (.string y2) ∧ w4.cell? ⟨gl, 3, none⟩ = some (.string y3) ∧ w4.cell? ⟨gl, 4, none⟩ = some (.string y4) ∧ w4.cell? ⟨gl, 5, none⟩ = some (.string y5) from ⟨hy1, hy2, hy3, hy4, hy5⟩)
          rw [hl6] at hcapl ⊢
          clear hbis hpp0 hpp1 hpp2 hpp3 hpp4 hpp5 hlc HPS HBK HGK HB0 HG0 HAT hpn hp2 hl6 hy2 hy3 hy4 hy5
          obtain ⟨qb, hqb⟩ : ∃ q, (y0.toList == [98, 114, 105, 100, 103, 101]) = !q := ⟨!(y0.toList == [98, 114, 105, 100, 103, 101]), by rw [Bool.not_not]⟩
          cases qb with
          | true =>
            rw [Bool.not_true] at hqb
            have hno := HNO.out (by rw [HBI.out, if_neg]; intro h; rw [Lib.toList_data] at hqb; exact beq_eq_false_iff_ne.1 hqb h)
            have HN := Lib.hid hno
            clear hno HNO HYE HBI HY
            go_wp2_with (first | ((with_reducible refine at_build 25 ?_); refine wpList_build_rconf rfl ?_) | ((with_reducible refine at_store 25 (.tmp 2) (.tmp 78) ?_); refine wpList_store_own rfl 25 (.tmp 2) (.tmp 78) rfl w.heap.size #[.int .u8 0, .int .u8 0, .int .u8 0, .int .u8 0, .int .u8 0, .int .u8 0, .int .u8 0, .int .u8 0, .int .i64 0, .int .i64 0, .int .i64 0, .int .i64 0, .slice none 0 0] rfl rfl 25 #[.int .u8 0, .int .u8 0, .int .u8 0, .int .u8 0, .int .u8 0, .int .u8 0, .int .u8 0, .int .u8 0, .int .i64 0, .int .i64 0, .int .i64 0, .int .i64 0, .slice none 0 0] HR4.out Cf.rinfo_conf rfl (by kernel_rfl) w.heap.size (Nat.le_refl _) ?_))
            intro w9 hR9 _ _ hb9
            have HR9 := Lib.hid hR9
            clear hR9
            go_wp2_with fail
            refine bodyPost_ret (results_row_tmp2 Tryz.results7 _ _ w.heap.size 25 #[.int .u8 0, .int .u8 0, .int .u8 0, .int .u8 0, .int .u8 0, .int .u8 0, .int .u8 0, .int .u8 0, .int .i64 0, .int .i64 0, .int .i64 0, .int .i64 0, .slice none 0 0] _ rfl HR9.out Tryz.underlying25 rfl Cf.rinfo_conf) rfl ?_
            exact ⟨Cf.rparseAns_bad (k := 1) HN.out, hbF.trans hb9⟩
          | false =>
            rw [Bool.not_false] at hqb
            have hword : y0.data.toList = Cf.wBridge := by rw [Lib.toList_data] at hqb; exact beq_iff_eq.1 hqb
            have HBI2 := HBI.out
            rw [if_pos hword] at HBI2
            have HBI := Lib.hid HBI2
            have HDG := Lib.hid (fun w => rdigits_any y1 16 hz1 (by decide) w)
            have hbh := Cf.bytesOf_hex y1.data.toList 8
            rw [show 2 * 8 = 16 from rfl] at hbh
            generalize (y1.data.toList.all Cf.isHex && decide (y1.data.toList.length = 16)) = dg at *
            have HBH := Lib.hid hbh
            clear HBI2 hbh hword hz1
            go_wp2_with fail
            refine (HDG.out _).mono ?_
            rintro e w5 ⟨rfl, hb⟩
            have HR5 := Lib.hid (HR4.out.kept hb)
            have HX5 := Lib.hid (HX.out.kept hb)
            have HC5 := Lib.hid (HC4.out.trans (hb.mono (by omega)))
            have hbF5 := hbF.trans (hb.mono hbF.size)
            have hz5 : C + 1 ≤ w5.heap.size := Nat.le_trans hz4 hb.size
            have HY5 := Lib.hid (show w5.cell? ⟨gl, 1, none⟩ = some (.string y1) ∧ w5.cell? ⟨gl, 2, none⟩ = some (.string y2) ∧ w5.cell? ⟨gl, 3, none⟩ = some (.string y3) ∧ w5.cell? ⟨gl, 4, none⟩ = some (.string y4) ∧ w5.cell? ⟨gl, 5, none⟩ = some (.string y5) from ⟨(hb.cell (p := ⟨gl, 1, none⟩) hglz).trans HY.out.1, (hb.cell (p := ⟨gl, 2, none⟩) hglz).trans HY.out.2.1, (hb.cell (p := ⟨gl, 3, none⟩) hglz).trans HY.out.2.2.1, (hb.cell (p := ⟨gl, 4, none⟩) hglz).trans HY.out.2.2.2.1, (hb.cell (p := ⟨gl, 5, none⟩) hglz).trans HY.out.2.2.2.2⟩)
            have hglz5 : gl < w5.heap.size := Nat.lt_of_lt_of_le hglz hb.size
            clear hb HR4 HX HC4 HY HDG hbF hy0 hy1 hglz hz4
            have hbF := hbF5
            clear hbF5
            cases dg with
            | false =>
              have hno := HNO.out (by
                rw [HBI.out]
                have := HBH.out
                cases hq : Cf.bytesOf y1.data.toList 8 with
                | none => rfl
                | some v => rw [hq] at this; cases this)
              have HN := Lib.hid hno
              clear hno HNO HYE HBI HY5
              go_wp2_with (first | ((with_reducible refine at_build 25 ?_); refine wpList_build_rconf rfl ?_) | ((with_reducible refine at_store 25 (.tmp 2) (.tmp 78) ?_); refine wpList_store_own rfl 25 (.tmp 2) (.tmp 78) rfl w.heap.size #[.int .u8 0, .int .u8 0, .int .u8 0, .int .u8 0, .int .u8 0, .int .u8 0, .int .u8 0, .int .u8 0, .int .i64 0, .int .i64 0, .int .i64 0, .int .i64 0, .slice none 0 0] rfl rfl 25 #[.int .u8 0, .int .u8 0, .int .u8 0, .int .u8 0, .int .u8 0, .int .u8 0, .int .u8 0, .int .u8 0, .int .i64 0, .int .i64 0, .int .i64 0, .int .i64 0, .slice none 0 0] HR5.out Cf.rinfo_conf rfl (by kernel_rfl) w.heap.size (Nat.le_refl _) ?_))
              intro w9 hR9 _ _ hb9
              have HR9 := Lib.hid hR9
              clear hR9
              go_wp2_with fail
              refine bodyPost_ret (results_row_tmp2 Tryz.results7 _ _ w.heap.size 25 #[.int .u8 0, .int .u8 0, .int .u8 0, .int .u8 0, .int .u8 0, .int .u8 0, .int .u8 0, .int .u8 0, .int .i64 0, .int .i64 0, .int .i64 0, .int .i64 0, .slice none 0 0] _ rfl HR9.out Tryz.underlying25 rfl Cf.rinfo_conf) rfl ?_
              exact ⟨Cf.rparseAns_bad (k := 1) HN.out, hbF.trans hb9⟩
            | true =>
              obtain ⟨bs, hbs⟩ : ∃ bs, Cf.bytesOf y1.data.toList 8 = some bs := by
                have := HBH.out
                cases hq : Cf.bytesOf y1.data.toList 8 with
                | none => rw [hq] at this; cases this
                | some v => exact ⟨v, rfl⟩
              have hbi2 := HBI.out
              rw [hbs] at hbi2
              have HBI := Lib.hid hbi2
              have HBS := Lib.hid hbs
              have HBL := Lib.hid (Cf.bytesOf_length hbs)
              have hcl : ¬ capl = 2 := by omega
              have HNB := Lib.hid (rnumbers_any (some ⟨gl, 2, none⟩) (capl - 2) [y2, y3, y4, y5] (by show 4 ≤ 200000; decide) w5 (.inr ⟨gl, 2, rfl, hglz5, fun i hi => by
                match i, hi with
                | 0, _ => exact HY5.out.2.1
                | 1, _ => exact HY5.out.2.2.1
                | 2, _ => exact HY5.out.2.2.2.1
                | 3, _ => exact HY5.out.2.2.2.2⟩))
              clear hbi2 hbs HBH
              go_wp2_with fail
              refine HNB.out.mono ?_
              rintro e w6 ⟨he, hb⟩
              have HR6 := Lib.hid (HR5.out.kept hb)
              have HX6 := Lib.hid (HX5.out.kept hb)
              have HC6 := Lib.hid (HC5.out.trans (hb.mono (by omega)))
              have hbF6 := hbF.trans (hb.mono hbF.size)
              have hz6 : C + 1 ≤ w6.heap.size := Nat.le_trans hz5 hb.size
              have hy1 : w6.cell? ⟨gl, 1, none⟩ = some (.string y1) := (hb.cell (p := ⟨gl, 1, none⟩) hglz5).trans HY5.out.1
              clear hb HR5 HX5 HC5 HY5 hbF HNB hglz5
              have hbF := hbF6
              clear hbF6
              unfold Cf.RNumsAns at he
              cases hv : Cf.allNum (Cf.tl [y2, y3, y4, y5]) with
              | none =>
                rw [hv] at he
                obtain rfl : e = .returned (.tuple #[.slice none 0 0, .bool false]) := he
                have hno := HNO.out (by
                  rw [HBI.out]
                  rcases Cf.allNum4_none hv with h | h | h | h
                  · rw [h]
                  · rw [h]; cases Cf.numOf y2.data.toList <;> rfl
                  · rw [h]; cases Cf.numOf y2.data.toList <;> cases Cf.numOf y3.data.toList <;> rfl
                  · rw [h]; cases Cf.numOf y2.data.toList <;> cases Cf.numOf y3.data.toList <;> cases Cf.numOf y4.data.toList <;> rfl)
                have HN := Lib.hid hno
                clear hno HNO HYE HBI hv
                go_wp2_with (first | ((with_reducible refine at_build 25 ?_); refine wpList_build_rconf rfl ?_) | ((with_reducible refine at_store 25 (.tmp 2) (.tmp 87) ?_); refine wpList_store_own rfl 25 (.tmp 2) (.tmp 87) rfl w.heap.size #[.int .u8 0, .int .u8 0, .int .u8 0, .int .u8 0, .int .u8 0, .int .u8 0, .int .u8 0, .int .u8 0, .int .i64 0, .int .i64 0, .int .i64 0, .int .i64 0, .slice none 0 0] rfl rfl 25 #[.int .u8 0, .int .u8 0, .int .u8 0, .int .u8 0, .int .u8 0, .int .u8 0, .int .u8 0, .int .u8 0, .int .i64 0, .int .i64 0, .int .i64 0, .int .i64 0, .slice none 0 0] HR6.out Cf.rinfo_conf rfl (by kernel_rfl) w.heap.size (Nat.le_refl _) ?_))
                intro w9 hR9 _ _ hb9
                have HR9 := Lib.hid hR9
                clear hR9
                go_wp2_with fail
                refine bodyPost_ret (results_row_tmp2 Tryz.results7 _ _ w.heap.size 25 #[.int .u8 0, .int .u8 0, .int .u8 0, .int .u8 0, .int .u8 0, .int .u8 0, .int .u8 0, .int .u8 0, .int .i64 0, .int .i64 0, .int .i64 0, .int .i64 0, .slice none 0 0] _ rfl HR9.out Tryz.underlying25 rfl Cf.rinfo_conf) rfl ?_
                exact ⟨Cf.rparseAns_bad (k := 1) HN.out, hbF.trans hb9⟩
              | some ns =>
                rw [hv] at he
                obtain ⟨nv, rfl, hout⟩ : ∃ v, e = .returned (.tuple #[v, .bool true]) ∧ OutInts w6 w5.heap.size v (Cf.ints ns) := he
                obtain ⟨n2, n3, n4, n5, hn2, hn3, hn4, hn5, rfl⟩ := Cf.allNum4_some hv
                have hbrd := HBI.out
                rw [hn2, hn3, hn4, hn5] at hbrd
                have HST := Lib.hid (HYE.out ⟨bs, n2, n3, n4, n5⟩ hbrd)
                have hout : w6.ownsRow w5.heap.size 3 1 nv 4 [.int .i64 (n2 : Int), .int .i64 (n3 : Int), .int .i64 (n4 : Int), .int .i64 (n5 : Int)] := hout
                obtain ⟨g2, cp2, rfl⟩ := ownsRow_succ hout
                have HNV := Lib.hid (Cf.owns_lower (base' := C + 1) hout hz5)
                clear hbrd HNO HYE HBI hv hn2 hn3 hn4 hn5 hout
                have HBY := Lib.hid (fun w => rbytes_any y1 8 bs (by decide) HBS.out w)
                go_wp2_with fail
                refine (HBY.out _).mono ?_
                rintro e w7 ⟨⟨bv, rfl, hown⟩, hb⟩
                have HR7 := Lib.hid (HR6.out.kept hb)
                have HX7 := Lib.hid (HX6.out.kept hb)
                have HC7 := Lib.hid (HC6.out.trans (hb.mono (by omega)))
                have hbF7 := hbF.trans (hb.mono hbF.size)
                have hz7 : C + 1 ≤ w7.heap.size := Nat.le_trans hz6 hb.size
                have HNV7 := Lib.hid (owns_later HNV.out hb)
                unfold OwnB at hown
                rw [HBL.out] at hown
                obtain ⟨g3, cp3, rfl⟩ := ownsRow_succ hown
                have HOW := Lib.hid (Cf.owns_lower (base' := C + 1) hown hz6)
                have HBF := Lib.hid hbF7
                clear hb HR6 HX6 HC6 hbF HNV hown hy1 hbF7
                have HX7 : Hid (RowIs w7 C 25 ((byteVals (Cf.mixId bs 0) ++ [Value.int .i64 0, Value.int .i64 0, Value.int .i64 0, Value.int .i64 0, Value.slice none 0 0]).toArray)) := HX7
                go_upto_region 23 with fail
                go_loopw [15] (fun v15 wr => ∃ i : Nat, i ≤ 8 ∧ v15 = .int .i64 i ∧ Hid (RowIs wr C 25 (byteVals (Cf.mixId bs i) ++ [Value.int .i64 0, Value.int .i64 0, Value.int .i64 0, Value.int .i64 0, Value.slice none 0 0]).toArray) ∧ Hid (RowIs wr w.heap.size 25 #[.int .u8 0, .int .u8 0, .int .u8 0, .int .u8 0, .int .u8 0, .int .u8 0, .int .u8 0, .int .u8 0, .int .i64 0, .int .i64 0, .int .i64 0, .int .i64 0, .slice none 0 0]) ∧ Hid (wr.ownsRow (C + 1) 5 1 (.slice (some ⟨g3, 0, none⟩) 8 cp3) 8 (byteVals bs)) ∧ Hid (wr.ownsRow (C + 1) 3 1 (.slice (some ⟨g2, 0, none⟩) 4 cp2) 4 [.int .i64 (n2 : Int), .int .i64 (n3 : Int), .int .i64 (n4 : Int), .int .i64 (n5 : Int)]) ∧ Hid (Below C w2 wr) ∧ Hid (Below w.heap.size w wr) ∧ C + 1 ≤ wr.heap.size) (fun v15 _ => 8 - (RowKit.intOf v15).toNat)
                case atStart => exact ⟨0, Nat.zero_le _, rfl, HX7, HR7, HOW, HNV7, HC7, HBF, hz7⟩
                case round =>
                  rename World => wr
                  clear HX7 HR7 HOW HNV7 HC7 HBF hz7
                  obtain ⟨i, hi, rfl, HX7, HR7, HOW, HNV7, HC7, HBF, hz7⟩ := hrel
                  by_cases hlt : i < 8
                  · have hci : wr.cell? ⟨g3, i, none⟩ = some (.int .u8 ((bs.getD i 0).toNat : Int)) := by
                      rw [World.ownsRow.cellAt HOW.out i (by omega)]
                      unfold byteVals
                      have := HBL.out
                      rw [List.getElem?_map, List.getD_eq_getElem?_getD, List.getElem?_eq_getElem (by omega)]
                      rfl
                    have HMX := Lib.hid (Cf.mixId_next HBL.out hlt)
                    have HML := Lib.hid (Cf.mixId_len HBL.out hi)
                    generalize bs.getD i 0 = y at *
                    go_wp2_with ((with_reducible refine at_store 5 (.tmp 102) (.tmp 100) ?_); refine wpList_store_cell rfl 5 (.tmp 102) (.tmp 100) rfl C i (.int .u8 (y.toNat : Int)) rfl rfl 25 _ HX7.out (by simp [byteVals_length, HML.out]; omega) (by kernel_rfl) rfl C (Nat.le_refl _) ?_)
                    intro w9 hK hO hs hb
                    have hK2 : RowIs w9 C 25 (byteVals (Cf.mixId bs (i + 1)) ++ [Value.int .i64 0, Value.int .i64 0, Value.int .i64 0, Value.int .i64 0, Value.slice none 0 0]).toArray := by rw [HMX.out, ← Cf.id_put _ _ _ (by rw [HML.out]; exact hlt)]; simpa using hK
                    have HX9 := Lib.hid hK2
                    have HR9 : Hid (RowIs w9 w.heap.size 25 #[.int .u8 0, .int .u8 0, .int .u8 0, .int .u8 0, .int .u8 0, .int .u8 0, .int .u8 0, .int .u8 0, .int .i64 0, .int .i64 0, .int .i64 0, .int .i64 0, .slice none 0 0]) := (hO _ (by omega)).trans HR7.out
                    have HOW9 := Lib.hid (owns_stored HOW.out hO (by omega))
                    have HNV9 := Lib.hid (owns_stored HNV7.out hO (by omega))
                    have HC9 := Lib.hid (HC7.out.trans hb)
                    have HBF9 := Lib.hid (HBF.out.trans (hb.mono (by omega)))
                    have hz9 : C + 1 ≤ w9.heap.size := by omega
                    clear hK hK2 hO hs hb HX7 HR7 HOW HNV7 HC7 HBF hci HMX HML
                    go_wp2_with fail
                    exact ⟨⟨i + 1, by omega, by go_num, HX9, HR9, HOW9, HNV9, HC9, HBF9, hz9⟩, by simp [RowKit.intOf]; omega⟩
                  · obtain rfl : i = 8 := by omega
                    have hX := HX7.out
                    rw [Cf.mixId_all HBL.out] at hX
                    obtain ⟨xi, hxi⟩ := Cf.id8_of bs HBL.out
                    rw [hxi] at hX
                    have HX := Lib.hid (show RowIs wr C 25 #[.int .u8 ((xi.f 0).toNat : Int), .int .u8 ((xi.f 1).toNat : Int), .int .u8 ((xi.f 2).toNat : Int), .int .u8 ((xi.f 3).toNat : Int), .int .u8 ((xi.f 4).toNat : Int), .int .u8 ((xi.f 5).toNat : Int), .int .u8 ((xi.f 6).toNat : Int), .int .u8 ((xi.f 7).toNat : Int), .int .i64 0, .int .i64 0, .int .i64 0, .int .i64 0, .slice none 0 0] from hX)
                    have hbF := HBF.out
                    clear hX HX7 HOW HBF
                    have hg2 : g2 ≠ C := by have := (HNV7.out.lt g2 rfl).1; omega
                    have m0 : wr.cell? ⟨g2, 0, none⟩ = some (.int .i64 (n2 : Int)) := World.ownsRow.cellAt HNV7.out 0 (by omega)
                    have m1 : wr.cell? ⟨g2, 1, none⟩ = some (.int .i64 (n3 : Int)) := World.ownsRow.cellAt HNV7.out 1 (by omega)
                    have m2 : wr.cell? ⟨g2, 2, none⟩ = some (.int .i64 (n4 : Int)) := World.ownsRow.cellAt HNV7.out 2 (by omega)
                    have m3 : wr.cell? ⟨g2, 3, none⟩ = some (.int .i64 (n5 : Int)) := World.ownsRow.cellAt HNV7.out 3 (by omega)
                    clear HNV7
                    go_wp2_with ((with_reducible refine at_store 3 (.tmp 106) (.tmp 105) ?_); refine wpList_store_cell rfl 3 (.tmp 106) (.tmp 105) rfl C 8 (.int .i64 (n2 : Int)) rfl rfl 25 _ HX.out (by simp) (by kernel_rfl) rfl C (Nat.le_refl _) ?_)
                    intro wa hK hO hs hb
                    have HXn : Hid (RowIs wa C 25 #[.int .u8 ((xi.f 0).toNat : Int), .int .u8 ((xi.f 1).toNat : Int), .int .u8 ((xi.f 2).toNat : Int), .int .u8 ((xi.f 3).toNat : Int), .int .u8 ((xi.f 4).toNat : Int), .int .u8 ((xi.f 5).toNat : Int), .int .u8 ((xi.f 6).toNat : Int), .int .u8 ((xi.f 7).toNat : Int), .int .i64 (n2 : Int), .int .i64 0, .int .i64 0, .int .i64 0, .slice none 0 0]) := hK
                    have HRn : Hid (RowIs wa w.heap.size 25 #[.int .u8 0, .int .u8 0, .int .u8 0, .int .u8 0, .int .u8 0, .int .u8 0, .int .u8 0, .int .u8 0, .int .i64 0, .int .i64 0, .int .i64 0, .int .i64 0, .slice none 0 0]) := (hO _ (by omega)).trans HR7.out
                    have HCn := Lib.hid (HC7.out.trans hb)
                    have hbFn := hbF.trans (hb.mono (by omega))
                    have hzn : C + 1 ≤ wa.heap.size := by omega
                    have m1 := (Cf.cell_same (p := ⟨g2, 1, none⟩) hO hg2).trans m1
                    have m2 := (Cf.cell_same (p := ⟨g2, 2, none⟩) hO hg2).trans m2
                    have m3 := (Cf.cell_same (p := ⟨g2, 3, none⟩) hO hg2).trans m3
                    clear hK hO hs hb HX HR7 HC7 hbF hz7
                    have HX := HXn
                    have HR7 := HRn
                    have HC7 := HCn
                    have hbF := hbFn
                    have hz7 := hzn
                    clear HXn HRn HCn hbFn hzn
                    go_wp2_with ((with_reducible refine at_store 3 (.tmp 110) (.tmp 109) ?_); refine wpList_store_cell rfl 3 (.tmp 110) (.tmp 109) rfl C 9 (.int .i64 (n3 : Int)) rfl rfl 25 _ HX.out (by simp) (by kernel_rfl) rfl C (Nat.le_refl _) ?_)
                    intro wb hK hO hs hb
                    have HXn : Hid (RowIs wb C 25 #[.int .u8 ((xi.f 0).toNat : Int), .int .u8 ((xi.f 1).toNat : Int), .int .u8 ((xi.f 2).toNat : Int), .int .u8 ((xi.f 3).toNat : Int), .int .u8 ((xi.f 4).toNat : Int), .int .u8 ((xi.f 5).toNat : Int), .int .u8 ((xi.f 6).toNat : Int), .int .u8 ((xi.f 7).toNat : Int), .int .i64 (n2 : Int), .int .i64 (n3 : Int), .int .i64 0, .int .i64 0, .slice none 0 0]) := hK
                    have HRn : Hid (RowIs wb w.heap.size 25 #[.int .u8 0, .int .u8 0, .int .u8 0, .int .u8 0, .int .u8 0, .int .u8 0, .int .u8 0, .int .u8 0, .int .i64 0, .int .i64 0, .int .i64 0, .int .i64 0, .slice none 0 0]) := (hO _ (by omega)).trans HR7.out
                    have HCn := Lib.hid (HC7.out.trans hb)
                    have hbFn := hbF.trans (hb.mono (by omega))
                    have hzn : C + 1 ≤ wb.heap.size := by omega
                    have m2 := (Cf.cell_same (p := ⟨g2, 2, none⟩) hO hg2).trans m2
                    have m3 := (Cf.cell_same (p := ⟨g2, 3, none⟩) hO hg2).trans m3
                    clear hK hO hs hb HX HR7 HC7 hbF hz7
                    have HX := HXn
                    have HR7 := HRn
                    have HC7 := HCn
                    have hbF := hbFn
                    have hz7 := hzn
                    clear HXn HRn HCn hbFn hzn
                    go_wp2_with ((with_reducible refine at_store 3 (.tmp 114) (.tmp 113) ?_); refine wpList_store_cell rfl 3 (.tmp 114) (.tmp 113) rfl C 10 (.int .i64 (n4 : Int)) rfl rfl 25 _ HX.out (by simp) (by kernel_rfl) rfl C (Nat.le_refl _) ?_)
                    intro wc hK hO hs hb
                    have HXn : Hid (RowIs wc C 25 #[.int .u8 ((xi.f 0).toNat : Int), .int .u8 ((xi.f 1).toNat : Int), .int .u8 ((xi.f 2).toNat : Int), .int .u8 ((xi.f 3).toNat : Int), .int .u8 ((xi.f 4).toNat : Int), .int .u8 ((xi.f 5).toNat : Int), .int .u8 ((xi.f 6).toNat : Int), .int .u8 ((xi.f 7).toNat : Int), .int .i64 (n2 : Int), .int .i64 (n3 : Int), .int .i64 (n4 : Int), .int .i64 0, .slice none 0 0]) := hK
                    have HRn : Hid (RowIs wc w.heap.size 25 #[.int .u8 0, .int .u8 0, .int .u8 0, .int .u8 0, .int .u8 0, .int .u8 0, .int .u8 0, .int .u8 0, .int .i64 0, .int .i64 0, .int .i64 0, .int .i64 0, .slice none 0 0]) := (hO _ (by omega)).trans HR7.out
                    have HCn := Lib.hid (HC7.out.trans hb)
                    have hbFn := hbF.trans (hb.mono (by omega))
                    have hzn : C + 1 ≤ wc.heap.size := by omega
                    have m3 := (Cf.cell_same (p := ⟨g2, 3, none⟩) hO hg2).trans m3
                    clear hK hO hs hb HX HR7 HC7 hbF hz7
                    have HX := HXn
                    have HR7 := HRn
                    have HC7 := HCn
                    have hbF := hbFn
                    have hz7 := hzn
                    clear HXn HRn HCn hbFn hzn
                    go_wp2_with ((with_reducible refine at_store 3 (.tmp 118) (.tmp 117) ?_); refine wpList_store_cell rfl 3 (.tmp 118) (.tmp 117) rfl C 11 (.int .i64 (n5 : Int)) rfl rfl 25 _ HX.out (by simp) (by kernel_rfl) rfl C (Nat.le_refl _) ?_)
                    intro wd hK hO hs hb
                    have HXn : Hid (RowIs wd C 25 #[.int .u8 ((xi.f 0).toNat : Int), .int .u8 ((xi.f 1).toNat : Int), .int .u8 ((xi.f 2).toNat : Int), .int .u8 ((xi.f 3).toNat : Int), .int .u8 ((xi.f 4).toNat : Int), .int .u8 ((xi.f 5).toNat : Int), .int .u8 ((xi.f 6).toNat : Int), .int .u8 ((xi.f 7).toNat : Int), .int .i64 (n2 : Int), .int .i64 (n3 : Int), .int .i64 (n4 : Int), .int .i64 (n5 : Int), .slice none 0 0]) := hK
                    have HRn : Hid (RowIs wd w.heap.size 25 #[.int .u8 0, .int .u8 0, .int .u8 0, .int .u8 0, .int .u8 0, .int .u8 0, .int .u8 0, .int .u8 0, .int .i64 0, .int .i64 0, .int .i64 0, .int .i64 0, .slice none 0 0]) := (hO _ (by omega)).trans HR7.out
                    have HCn := Lib.hid (HC7.out.trans hb)
                    have hbFn := hbF.trans (hb.mono (by omega))
                    have hzn : C + 1 ≤ wd.heap.size := by omega
                    clear hK hO hs hb HX HR7 HC7 hbF hz7
                    have HX := HXn
                    have HR7 := HRn
                    have HC7 := HCn
                    have hbF := hbFn
                    have hz7 := hzn
                    clear HXn HRn HCn hbFn hzn
                    have HXF : Hid (RowIs wd C 25 (Cf.bcells ⟨bs, n2, n3, n4, n5⟩ (.slice none 0 0))) := by show RowIs _ _ _ _; rw [Cf.bcells_id (b := ⟨bs, n2, n3, n4, n5⟩) hxi]; exact HX.out
                    have HBF := Lib.hid hbF
                    clear HX hbF hxi
                    go_wp2_with fail
                    exact ⟨⟨0 + 1, by omega, by go_num, .inr ⟨⟨bs, n2, n3, n4, n5⟩, .slice none 0 0, [], HST.out, HXF.out, Cf.RPorts.nil _ _, rfl, HBL.out, fun q hq => by cases hq⟩, HR7, HC7, HBF, hz7⟩, by simp [RowKit.intOf]; omega⟩
        · have l6 : (((Oct.pieces 32 x).length : Int) != 6) = true := by unfold bne; rw [beq_eq_false_iff_ne.2 (by omega)]; rfl
          have HN := Lib.hid (HB0.out hi0 x HXK.out (Cf.bridge_len hl6))
          clear HPS HBK HGK HB0 HG0 HAT hpn hl6 hlc
          go_wp2_with (first | ((with_reducible refine at_build 25 ?_); refine wpList_build_rconf rfl ?_) | ((with_reducible refine at_store 25 (.tmp 2) (.tmp 78) ?_); refine wpList_store_own rfl 25 (.tmp 2) (.tmp 78) rfl w.heap.size #[.int .u8 0, .int .u8 0, .int .u8 0, .int .u8 0, .int .u8 0, .int .u8 0, .int .u8 0, .int .u8 0, .int .i64 0, .int .i64 0, .int .i64 0, .int .i64 0, .slice none 0 0] rfl rfl 25 #[.int .u8 0, .int .u8 0, .int .u8 0, .int .u8 0, .int .u8 0, .int .u8 0, .int .u8 0, .int .u8 0, .int .i64 0, .int .i64 0, .int .i64 0, .int .i64 0, .slice none 0 0] HR4.out Cf.rinfo_conf rfl (by kernel_rfl) w.heap.size (Nat.le_refl _) ?_))
          intro w9 hR9 _ _ hb9
          have HR9 := Lib.hid hR9
          clear hR9
          go_wp2_with fail
          refine bodyPost_ret (results_row_tmp2 Tryz.results7 _ _ w.heap.size 25 #[.int .u8 0, .int .u8 0, .int .u8 0, .int .u8 0, .int .u8 0, .int .u8 0, .int .u8 0, .int .u8 0, .int .i64 0, .int .i64 0, .int .i64 0, .int .i64 0, .slice none 0 0] _ rfl HR9.out Tryz.underlying25 rfl Cf.rinfo_conf) rfl ?_
          exact ⟨Cf.rparseAns_bad (k := 1) HN.out, hbF.trans hb9⟩
      · have HX := Lib.hid (RowIs.kept hX hb)
        have HP := Lib.hid (hps.later hb)
        have HST := Lib.hid hst
        have HID := Lib.hid hid
        have HTG := Lib.hid htg
        have HPL := Lib.hid hpl
        have hk1 : 0 < k := by omega
        have t11 : decide (0 < k) = true := decide_eq_true hk1
        clear hX hps hst hid htg hpl HS hb hzr HB0 HG0
        have HPO := Lib.hid (rport_any (some ⟨gl, 0, none⟩) capl (Oct.pieces 32 x) (by omega) hp2 hcapl HPS.out w4 HAT.out)
        go_wp2_with fail
        refine HPO.out.mono ?_
        rintro e w5 ⟨hans, hb⟩
        have HR5 := Lib.hid (HR4.out.kept hb)
        have HX5 := Lib.hid (HX.out.kept hb)
        have HP5 := Lib.hid (HP.out.later hb)
        have HC5 := Lib.hid (HC4.out.trans (hb.mono (by omega)))
        have hbF5 := hbF.trans (hb.mono hbF.size)
        have hz5 : C + 1 ≤ w5.heap.size := Nat.le_trans hz4 hb.size
        have h45 := hb.size
        clear hb HR4 HX HP HC4 hbF HPO HAT
        have hbF := hbF5
        clear hbF5
        unfold Cf.RPtAns at hans
        cases hv : Cf.portOf (Cf.lists (Oct.pieces 32 x)) with
        | none =>
          rw [hv] at hans
          obtain rfl : e = .returned (.tuple #[.agg Cf.zport, .bool false]) := hans
          have HN := Lib.hid (HBK.out b _ HST.out x HXK.out hv)
          clear hv HBK HGK
          go_upto_region 13 with (first | ((with_reducible refine at_alloc 50 ?_); refine wpList_alloc_port rfl 50 Cf.zport rfl rzport_is ?_) | ((with_reducible refine at_store 50 (.tmp 10) (.tmp 49) ?_); refine wpList_store_own rfl 50 (.tmp 10) (.tmp 49) rfl w5.heap.size Cf.zport rfl rfl 50 _ (rowIs_new w5 _ _) Cf.rz_info rfl Cf.rz_one w.heap.size (by omega) ?_))
          intro w6 hR hO hs hb
          have HR6 : Hid (RowIs w6 w.heap.size 25 #[.int .u8 0, .int .u8 0, .int .u8 0, .int .u8 0, .int .u8 0, .int .u8 0, .int .u8 0, .int .u8 0, .int .i64 0, .int .i64 0, .int .i64 0, .int .i64 0, .slice none 0 0]) := (hO _ (by omega)).trans (HR5.out.alloc _)
          have hbF6 := hbF.trans (show Below w.heap.size w5 w6 from ((Below.refl _ _).alloc (by omega) _).trans hb)
          clear hR hO hs hb HR5 hbF
          have hbF := hbF6
          clear hbF6
          go_wp2_with (first | ((with_reducible refine at_build 25 ?_); refine wpList_build_rconf rfl ?_) | ((with_reducible refine at_store 25 (.tmp 2) (.tmp 53) ?_); refine wpList_store_own rfl 25 (.tmp 2) (.tmp 53) rfl w.heap.size #[.int .u8 0, .int .u8 0, .int .u8 0, .int .u8 0, .int .u8 0, .int .u8 0, .int .u8 0, .int .u8 0, .int .i64 0, .int .i64 0, .int .i64 0, .int .i64 0, .slice none 0 0] rfl rfl 25 #[.int .u8 0, .int .u8 0, .int .u8 0, .int .u8 0, .int .u8 0, .int .u8 0, .int .u8 0, .int .u8 0, .int .i64 0, .int .i64 0, .int .i64 0, .int .i64 0, .slice none 0 0] HR6.out Cf.rinfo_conf rfl (by kernel_rfl) w.heap.size (Nat.le_refl _) ?_))
          intro w9 hR9 _ _ hb9
          have HR9 := Lib.hid hR9
          clear hR9
          go_wp2_with fail
          refine bodyPost_ret (results_row_tmp2 Tryz.results7 _ _ w.heap.size 25 #[.int .u8 0, .int .u8 0, .int .u8 0, .int .u8 0, .int .u8 0, .int .u8 0, .int .u8 0, .int .u8 0, .int .i64 0, .int .i64 0, .int .i64 0, .int .i64 0, .slice none 0 0] _ rfl HR9.out Tryz.underlying25 rfl Cf.rinfo_conf) rfl ?_
          exact ⟨Cf.rparseAns_bad HN.out, hbF.trans hb9⟩
        | some p =>
          rw [hv] at hans
          obtain ⟨tv, rfl, hout, hpsk⟩ : ∃ tv, e = .returned (.tuple #[.agg (Cf.pcells p tv), .bool true]) ∧ OutInts w5 w4.heap.size tv (Cf.ints p.tags) ∧ p.psk.length = 32 := hans
          have HNX := Lib.hid (HGK.out b _ p HST.out x HXK.out hv)
          have htl : p.tags.length ≤ 1000000 := by
            obtain ⟨q, hq, hq2⟩ := Cf.portOf_tags hv
            have h1 := Cf.tagsOf_len hq2
            have h2 : Cf.lists (Oct.pieces 32 x) = Oct.parts 32 x.data.toList := Cf.pieces_list 32 x
            rw [h2] at hq
            have h3 := Cf.parts_small 32 _ q hq
            have e : x.data.toList.length = x.size := by simp
            omega
          have HTL := Lib.hid htl
          have HPK := Lib.hid hpsk
          have HO5 := Lib.hid (Cf.owns_lower (base' := C + 1) hout (by omega))
          have htone := Cf.owns_one hout
          clear hv HBK HGK hout hpsk htl
          go_upto_region 13 with (first | ((with_reducible refine at_alloc 50 ?_); refine wpList_alloc_port rfl 50 Cf.zport rfl rzport_is ?_) | ((with_reducible refine at_store 50 (.tmp 10) (.tmp 49) ?_); refine wpList_store_own rfl 50 (.tmp 10) (.tmp 49) rfl w5.heap.size (Cf.pcells p tv) rfl rfl 50 _ (rowIs_new w5 _ _) (rpc_info HPK.out) ?z1 (pc_one (by rw [htone]; rfl)) w.heap.size (by omega) ?_))
          case z1 => rw [Cf.rz_is]; simp [Cf.pcells, byteVals_length, HPK.out, Cf.zeros]
          intro w6 hR hO hs hb
          have H10 := Lib.hid hR
          have ha : Below w5.heap.size w5 w6 := ((Below.refl _ w5).alloc (Nat.le_refl _) _).trans ⟨hb.os, hb.tape, hb.output, by rw [hs]; simp, fun j hj => hO j (by omega)⟩
          have HR6 := Lib.hid (HR5.out.kept ha)
          have HX6 := Lib.hid (HX5.out.kept ha)
          have HP6 := Lib.hid (HP5.out.later ha)
          have HC6 := Lib.hid (HC5.out.trans (ha.mono (by omega)))
          have HO6 : Hid (OutInts w6 (C + 1) tv (Cf.ints p.tags)) := owns_later HO5.out ha
          have hbF6 := hbF.trans (ha.mono hbF.size)
          have hz6 : C + 1 ≤ w6.heap.size := Nat.le_trans hz5 ha.size
          clear hR hO hs hb ha HR5 HX5 HP5 HC5 HO5 hbF hz5
          have hbF := hbF6
          clear hbF6
          obtain ⟨xi, hxi⟩ := Cf.id8_of _ HID.out
          have hX6 := HX6.out
          rw [Cf.bcells_id hxi] at hX6
          have HX7 := Lib.hid hX6
          have d12 : w6.cell? ⟨C, 12, none⟩ = some pv := HX7.out.cell 12
          clear hX6
          go_wp2_with (first
            | ((with_reducible refine at_load 50 (.tmp 10) ?_); refine wpList_load_own rfl 50 (.tmp 10) rfl w5.heap.size rfl 50 _ _ H10.out Tryz.underlying50 rfl (rpc_info HPK.out) ?_)
            | ((with_reducible refine at_dst59 59 ?_); refine wpList_build_one rfl 23 50 (.tmp 58) rfl (Cf.pcells p tv) rfl Tryz.underlying23 39 (by kernel_rfl) (by simp [Cf.pcells, byteVals_length, HPK.out]) (by decide) (by decide) ?_)
            | (at_builtin; refine wpList_append_own _ rfl (.tmp 57) (.tmp 59) 23 rfl (C + 1) 50 ri rz 39 104 Tryz.underlying23 HRI.out HRZ.out hr1 hr2 hr3 (by decide) _ psv.length _ rfl (World.ownsRow.alloc HP6.out.1 _) ⟨w6.heap.size, 0, none⟩ 1 1 (Cf.pcells p tv).toList rfl (by simp [Cf.pcells, byteVals_length, HPK.out]) (fun j u hj => by rw [addr_add, (rowIs_new w6 50 (Cf.pcells p tv)).cell j, ← Array.getElem?_toList]; exact hj) ?d2 ?d3 ?d4 ?d5 ?_))
          case d2 => exact Cf.pcells_one HO6.out
          case d3 => unfold maxLen; have := HPL.out; omega
          case d4 => have := HPL.out; omega
          case d5 => rw [World.size_alloc]; omega
          intro v' w7 hown' hgrow _
          obtain ⟨hP7, hlow, hz7, hb7⟩ := Cf.rport_appended HP6.out HO6.out HPK.out hz6 hown' hgrow
          have HP7 := Lib.hid hP7
          have HX8 := Lib.hid (show RowIs w7 C 25 _ from (hlow C (by omega)).trans HX7.out)
          have HR7 := Lib.hid (show RowIs w7 w.heap.size 25 #[.int .u8 0, .int .u8 0, .int .u8 0, .int .u8 0, .int .u8 0, .int .u8 0, .int .u8 0, .int .u8 0, .int .i64 0, .int .i64 0, .int .i64 0, .int .i64 0, .slice none 0 0] from (hlow _ (by omega)).trans HR6.out)
          have HC7 := Lib.hid (HC6.out.trans (hb7.mono (by omega)))
          have hbF7 := hbF.trans (hb7.mono (by omega))
          have hz7' : C + 1 ≤ w7.heap.size := by omega
          have hvone := Cf.owns_one hP7.1
          clear hP7 hlow hz7 hb7 hown' hgrow HP6 HO6 HX7 HX6 HR6 HC6 hbF d12 H10
          have hbF := hbF7
          clear hbF7
          go_wp2_with ((with_reducible refine at_store 23 (.tmp 61) (.tmp 60) ?_); refine wpList_store_cell rfl 23 (.tmp 61) (.tmp 60) rfl C 12 v' rfl rfl 25 _ HX8.out (by simp) (by kernel_rfl) hvone C (Nat.le_refl _) ?_)
          intro w8 hK hO hs hb
          have HX9 : Hid (RowIs w8 C 25 (Cf.bcells b v')) := by show RowIs _ _ _ _; rw [Cf.bcells_id hxi]; exact hK
          have HP8 := Lib.hid (HP7.out.stored hO (by omega))
          have HR8 := Lib.hid (show RowIs w8 w.heap.size 25 #[.int .u8 0, .int .u8 0, .int .u8 0, .int .u8 0, .int .u8 0, .int .u8 0, .int .u8 0, .int .u8 0, .int .i64 0, .int .i64 0, .int .i64 0, .int .i64 0, .slice none 0 0] from (hO _ (by omega)).trans HR7.out)
          have HC8 := Lib.hid (HC7.out.trans hb)
          have HB8 := Lib.hid (hbF.trans (hb.mono (by omega)))
          have hz8 : C + 1 ≤ w8.heap.size := by omega
          clear hK hO hs hb HX8 HP7 HR7 HC7 hbF hxi
          go_wp2_with fail
          refine ⟨⟨k + 1, by omega, by go_num, .inr ⟨b, v', psv ++ [(p, tv)], by rw [List.map_append]; exact HNX.out, HX9.out, HP8.out, by rw [List.length_append, List.length_singleton, HPL.out], HID.out, fun q hq => ?_⟩, HR8, HC8, HB8, hz8⟩, by simp [RowKit.intOf]; omega⟩
          rcases List.mem_append.1 hq with hq | hq
          · exact HTG.out q hq
          · obtain rfl := List.mem_singleton.1 hq
            exact HTL.out
    · obtain rfl : k = I.length := by omega
      by_cases hz : z.size = 0
      · have he : z.toList.isEmpty = true := by rw [Lib.toList_data]; have e : z.data.toList.length = z.size := by simp
                                                rw [List.isEmpty_iff]; exact List.eq_nil_of_length_eq_zero (by omega)
        rcases HS.out with ⟨h0, hX⟩ | ⟨b, pv, psv, hst, hX, hps, hpl, hid, htg⟩
        · have HN := Lib.hid (Cf.rstage_none HIZ.out h0)
          have l0 : ((I.length : Int) == 0) = true := by rw [h0]; rfl
          have h0' : I.length ≤ 0 := by omega
          have HI0 := Lib.hid h0
          clear hX HS hz h0
          go_wp2_with (first | ((with_reducible refine at_build 25 ?_); refine wpList_build_rconf rfl ?_) | ((with_reducible refine at_store 25 (.tmp 2) (.tmp 126) ?_); refine wpList_store_own rfl 25 (.tmp 2) (.tmp 126) rfl w.heap.size #[.int .u8 0, .int .u8 0, .int .u8 0, .int .u8 0, .int .u8 0, .int .u8 0, .int .u8 0, .int .u8 0, .int .i64 0, .int .i64 0, .int .i64 0, .int .i64 0, .slice none 0 0] rfl rfl 25 #[.int .u8 0, .int .u8 0, .int .u8 0, .int .u8 0, .int .u8 0, .int .u8 0, .int .u8 0, .int .u8 0, .int .i64 0, .int .i64 0, .int .i64 0, .int .i64 0, .slice none 0 0] HRr.out Cf.rinfo_conf rfl (by kernel_rfl) w.heap.size (Nat.le_refl _) ?_))
          intro w9 hR9 _ _ hb9
          have HR9 := Lib.hid hR9
          clear hR9
          go_wp2_with fail
          refine bodyPost_ret (results_row_tmp2 Tryz.results7 _ _ w.heap.size 25 #[.int .u8 0, .int .u8 0, .int .u8 0, .int .u8 0, .int .u8 0, .int .u8 0, .int .u8 0, .int .u8 0, .int .i64 0, .int .i64 0, .int .i64 0, .int .i64 0, .slice none 0 0] _ rfl HR9.out Tryz.underlying25 rfl Cf.rinfo_conf) rfl ?_
          exact ⟨by rw [HI0.out]; exact Cf.rparseAns_bad (k := 1) HN.out, hbF.trans hb9⟩
        · have HST := Lib.hid (Cf.rstage_end hst hz)
          have l0 : ((I.length : Int) == 0) = false := beq_eq_false_iff_ne.2 (by omega)
          obtain ⟨xi, hxi⟩ := Cf.id8_of _ hid
          obtain ⟨ao2, b2, off2, cap2, hpv, hao2, hPI⟩ := Cf.rpin_of hps htg
          have hri := rright23 xi b.maxAge b.hello b.delay b.ageing b2 off2 cap2 (psv.map Cf.pvT) wr ao2 hao2 hPI (by rw [List.length_map]; omega)
          rw [Cf.cOk_of, List.length_map] at hri
          rw [List.length_map] at hpv
          have hcells := Cf.bcells_id hxi pv
          rw [hcells, hpv] at hX
          have HX := Lib.hid hX
          obtain ⟨ok, hok⟩ : ∃ o, Cf.cOk b (psv.map Prod.fst) = o := ⟨_, rfl⟩
          rw [hok] at hri
          have HRI2 := Lib.hid hri
          have HOK := Lib.hid hok
          have HPS2 := Lib.hid hps
          have HCE := Lib.hid hcells
          have HPV := Lib.hid hpv
          have HID := Lib.hid hid
          clear hok hps hcells hxi hri hX hst htg HS hPI hao2 hpv hpl hid hz
          go_wp2_with ((with_reducible refine at_load 25 (.tmp 7) ?_); refine wpList_load_own rfl 25 (.tmp 7) rfl C rfl 25 _ _ HX.out Tryz.underlying25 rfl (by kernel_rfl) ?_)
          refine HRI2.out.mono ?_
          rintro e w5 ⟨rfl, hb⟩
          have hbF5 := hbF.trans (hb.mono hbF.size)
          have HR5 := Lib.hid (HRr.out.kept hb)
          have HX5 := Lib.hid (HX.out.kept hb)
          have HP5 := Lib.hid (HPS2.out.later hb)
          clear HRI2 hb HPS2 HX HRr hbF
          cases ok with
          | false =>
            go_wp2_with (first | ((with_reducible refine at_build 25 ?_); refine wpList_build_rconf rfl ?_) | ((with_reducible refine at_store 25 (.tmp 2) (.tmp 133) ?_); refine wpList_store_own rfl 25 (.tmp 2) (.tmp 133) rfl w.heap.size #[.int .u8 0, .int .u8 0, .int .u8 0, .int .u8 0, .int .u8 0, .int .u8 0, .int .u8 0, .int .u8 0, .int .i64 0, .int .i64 0, .int .i64 0, .int .i64 0, .slice none 0 0] rfl rfl 25 #[.int .u8 0, .int .u8 0, .int .u8 0, .int .u8 0, .int .u8 0, .int .u8 0, .int .u8 0, .int .u8 0, .int .i64 0, .int .i64 0, .int .i64 0, .int .i64 0, .slice none 0 0] HR5.out Cf.rinfo_conf rfl (by kernel_rfl) w.heap.size (Nat.le_refl _) ?_))
            intro w9 hR9 _ _ hb9
            have HR9 := Lib.hid hR9
            clear hR9
            go_wp2_with fail
            refine bodyPost_ret (results_row_tmp2 Tryz.results7 _ _ w.heap.size 25 #[.int .u8 0, .int .u8 0, .int .u8 0, .int .u8 0, .int .u8 0, .int .u8 0, .int .u8 0, .int .u8 0, .int .i64 0, .int .i64 0, .int .i64 0, .int .i64 0, .slice none 0 0] _ rfl HR9.out Tryz.underlying25 rfl Cf.rinfo_conf) rfl ?_
            exact ⟨Cf.rparseAns_arg HST.out HOK.out, hbF5.trans hb9⟩
          | true =>
            go_wp2_with (first | ((with_reducible refine at_load 25 (.tmp 7) ?_); refine wpList_load_own rfl 25 (.tmp 7) rfl C rfl 25 _ _ HX5.out Tryz.underlying25 rfl (by kernel_rfl) ?_) | ((with_reducible refine at_store 25 (.tmp 2) (.tmp 134) ?_); refine wpList_store_own rfl 25 (.tmp 2) (.tmp 134) rfl w.heap.size #[.int .u8 ((xi.f 0).toNat : Int), .int .u8 ((xi.f 1).toNat : Int), .int .u8 ((xi.f 2).toNat : Int), .int .u8 ((xi.f 3).toNat : Int), .int .u8 ((xi.f 4).toNat : Int), .int .u8 ((xi.f 5).toNat : Int), .int .u8 ((xi.f 6).toNat : Int), .int .u8 ((xi.f 7).toNat : Int), .int .i64 b.maxAge, .int .i64 b.hello, .int .i64 b.delay, .int .i64 b.ageing, .slice ao2 psv.length cap2] rfl rfl 25 #[.int .u8 0, .int .u8 0, .int .u8 0, .int .u8 0, .int .u8 0, .int .u8 0, .int .u8 0, .int .u8 0, .int .i64 0, .int .i64 0, .int .i64 0, .int .i64 0, .slice none 0 0] HR5.out Cf.rinfo_conf rfl (by simp [Value.oneCell']) w.heap.size (Nat.le_refl _) ?_))
            intro w9 hR9 hO9 _ hb9
            have HR9 := Lib.hid hR9
            have HP9 := Lib.hid (HP5.out.stored hO9 (by omega))
            clear hR9 hO9
            go_wp2_with fail
            refine bodyPost_ret (results_row_tmp2 Tryz.results7 _ _ w.heap.size 25 #[.int .u8 ((xi.f 0).toNat : Int), .int .u8 ((xi.f 1).toNat : Int), .int .u8 ((xi.f 2).toNat : Int), .int .u8 ((xi.f 3).toNat : Int), .int .u8 ((xi.f 4).toNat : Int), .int .u8 ((xi.f 5).toNat : Int), .int .u8 ((xi.f 6).toNat : Int), .int .u8 ((xi.f 7).toNat : Int), .int .i64 b.maxAge, .int .i64 b.hello, .int .i64 b.delay, .int .i64 b.ageing, .slice ao2 psv.length cap2] _ rfl HR9.out Tryz.underlying25 rfl Cf.rinfo_conf) rfl ?_
            refine ⟨?_, hbF5.trans hb9⟩
            have h := Cf.rparseAns_good (s := s) HST.out HOK.out (show w.heap.size ≤ C + 1 by omega) HP9.out HID.out
            rw [HCE.out, HPV.out] at h
            exact h
      · have he : z.toList.isEmpty = false := by rw [Lib.toList_data]; have e : z.data.toList.length = z.size := by simp
                                                 cases hq : z.data.toList.isEmpty with
                                                 | false => rfl
                                                 | true => rw [List.isEmpty_iff] at hq; rw [hq] at e; exact absurd e.symm hz
        have HN : Hid (Cf.scan0 (Cf.linesB s) = .inl (I.length + 1)) := by
          rcases HS.out with ⟨h0, hX⟩ | ⟨b, pv, psv, hst, _⟩
          · show _ = _
            rw [h0]
            exact Cf.rstage_none HIZ.out h0
          · exact Cf.rstage_more HIZ.out hst hz
        clear HS hz
        go_wp2_with (first | ((with_reducible refine at_build 25 ?_); refine wpList_build_rconf rfl ?_) | ((with_reducible refine at_store 25 (.tmp 2) (.tmp 126) ?_); refine wpList_store_own rfl 25 (.tmp 2) (.tmp 126) rfl w.heap.size #[.int .u8 0, .int .u8 0, .int .u8 0, .int .u8 0, .int .u8 0, .int .u8 0, .int .u8 0, .int .u8 0, .int .i64 0, .int .i64 0, .int .i64 0, .int .i64 0, .slice none 0 0] rfl rfl 25 #[.int .u8 0, .int .u8 0, .int .u8 0, .int .u8 0, .int .u8 0, .int .u8 0, .int .u8 0, .int .u8 0, .int .i64 0, .int .i64 0, .int .i64 0, .int .i64 0, .slice none 0 0] HRr.out Cf.rinfo_conf rfl (by kernel_rfl) w.heap.size (Nat.le_refl _) ?_))
        intro w9 hR9 _ _ hb9
        have HR9 := Lib.hid hR9
        clear hR9
        go_wp2_with fail
        refine bodyPost_ret (results_row_tmp2 Tryz.results7 _ _ w.heap.size 25 #[.int .u8 0, .int .u8 0, .int .u8 0, .int .u8 0, .int .u8 0, .int .u8 0, .int .u8 0, .int .u8 0, .int .i64 0, .int .i64 0, .int .i64 0, .int .i64 0, .slice none 0 0] _ rfl HR9.out Tryz.underlying25 rfl Cf.rinfo_conf) rfl ?_
        exact ⟨Cf.rparseAns_bad (k := I.length + 1) HN.out, hbF.trans hb9⟩
end Go.Proofs.YthfckdnennfnoaaGreatDoor
-- Of: a configuration, as the program has it. By an AI agent. 
namespace Go.Proofs.YthfckdnennfnoaaGreatDoor
open Go.RowKit Go.WideShapes Go.Sort Grow
theorem run_build_cp (na : Int) (ta : Option Addr) (tl tc : Nat) (ho li ra : Int) (lk gr : Bool) (fb : Nat → UInt8) (w : World) :
    (Instr.build 72 #[(0, .agg #[.int .i64 na, .slice ta tl tc, .int .i64 ho, .int .i64 li]), (1, .bool lk), (2, .int .i64 ra), (3, .bool gr), (4, .agg (byteVals ((List.range 32).map fb)).toArray)]).run Tryz.prog w = .ok (.agg ((.int .i64 na :: .slice ta tl tc :: .int .i64 ho :: .int .i64 li :: .bool lk :: .int .i64 ra :: .bool gr :: byteVals ((List.range 32).map fb)).toArray)) w := by
  kernel_rfl
theorem run_build_cf (x : Id8) (ma he de ag : Int) (w : World) :
    (Instr.build 33 #[(0, .agg #[.int .u8 ((x.f 0).toNat : Int), .int .u8 ((x.f 1).toNat : Int), .int .u8 ((x.f 2).toNat : Int), .int .u8 ((x.f 3).toNat : Int), .int .u8 ((x.f 4).toNat : Int), .int .u8 ((x.f 5).toNat : Int), .int .u8 ((x.f 6).toNat : Int), .int .u8 ((x.f 7).toNat : Int)]), (1, .agg #[.int .i64 ma, .int .i64 he, .int .i64 de]), (2, .int .i64 ag)]).run Tryz.prog w = .ok (.agg #[.int .u8 ((x.f 0).toNat : Int), .int .u8 ((x.f 1).toNat : Int), .int .u8 ((x.f 2).toNat : Int), .int .u8 ((x.f 3).toNat : Int), .int .u8 ((x.f 4).toNat : Int), .int .u8 ((x.f 5).toNat : Int), .int .u8 ((x.f 6).toNat : Int), .int .u8 ((x.f 7).toNat : Int), .int .i64 ma, .int .i64 he, .int .i64 de, .int .i64 ag, .slice none 0 0]) w := by
  kernel_rfl
theorem wpList_build5 {ops : Array Oper} {rest : List Oper} {op : Oper} {a : Act} {w : World} {Q : Exit → Act → World → Prop} (hgd : Region.wanted op (yielded ops a.tmps) = true) (t : TypeId) (x0 x1 x2 x3 x4 : Operand)
    (ho : op.op = .build t #[(0, x0), (1, x1), (2, x2), (3, x3), (4, x4)]) (v0 v1 v2 v3 v4 v : Value) (h0 : a.eval x0 = v0) (h1 : a.eval x1 = v1) (h2 : a.eval x2 = v2) (h3 : a.eval x3 = v3) (h4 : a.eval x4 = v4)
    (hv : (Instr.build t #[(0, v0), (1, v1), (2, v2), (3, v3), (4, v4)]).run Tryz.prog w = .ok v w) (h : wpList Tryz.prog ops Q rest (a.put op.dst v) w) : wpList Tryz.prog ops Q (op :: rest) a w :=
  BigFrame.wpList_want hgd fun _ hK => by
    unfold Oper.wp execOp
    simp only [ho]
    rw [show Array.map (fun x => (x.fst, a.eval x.snd)) #[(0, x0), (1, x1), (2, x2), (3, x3), (4, x4)] = #[(0, v0), (1, v1), (2, v2), (3, v3), (4, v4)] by simp [h0, h1, h2, h3, h4]]
    rw [Sem.run_bind, hv]
    exact hK _ _ h
namespace Cf
theorem bytes_fn (l : List UInt8) (h : l.length = 32) : l = (List.range 32).map (fun i => l.getD i 0) := by
  apply List.ext_getElem
  · simp [h]
  · intro i h1 h2
    simp [List.getD_eq_getElem?_getD, List.getElem?_eq_getElem h1]
def pvs (L : List Pv) : List Value := L.flatMap pvc
theorem pvs_next {L : List Pv} {k : Nat} (hk : k < L.length) : pvs (L.take (k + 1)) = pvs (L.take k) ++ pvc (L.getD k .zero) := by
  unfold pvs
  rw [List.take_succ_eq_append_getElem hk, List.flatMap_append, List.flatMap_singleton, List.getD_eq_getElem?_getD, List.getElem?_eq_getElem hk]
  rfl
theorem pvs_in {w : World} {base : Nat} {v : Value} {L : List Pv} (h : w.ownsRow base 72 39 v L.length (pvs L)) (hL : ∀ p ∈ L, IntsAt w p.ta p.tags ∧ p.tags.length ≤ 1000000 ∧ p.psk.length = 32) : ∃ ao b off cap, v = .slice ao L.length cap ∧ (ao = some ⟨b, off, none⟩ ∨ L = []) ∧ PIn w b off L := by
  rcases h.2 with ⟨rfl, h0⟩ | ⟨g, cap, cur, rfl, hb, hc, _⟩
  · have hn : L = [] := List.length_eq_zero_iff.1 h0
    subst hn
    exact ⟨none, 0, 0, 0, rfl, .inr rfl, fun i hi => absurd hi (Nat.not_lt_zero _), fun h => absurd h (Nat.lt_irrefl _), fun p hp => (by cases hp)⟩
  · refine ⟨some ⟨g, 0, none⟩, g, 0, cap, rfl, .inl rfl, fun i hi j u hj => ?_, fun _ => (Array.getElem?_eq_some_iff.1 hc).1, hL⟩
    have hlen : ∀ p ∈ L, (pvc p).length = 39 := fun p hp => by simp [pvc, byteVals_length, (hL p hp).2.2]
    have hg : L.getD i .zero = L[i] := by rw [List.getD_eq_getElem?_getD, List.getElem?_eq_getElem hi, Option.getD_some]
    rw [hg] at hj
    have hj39 : j < 39 := by
      have := (List.getElem?_eq_some_iff.1 hj).1
      rwa [hlen _ (List.getElem_mem hi)] at this
    rw [World.ownsRow.cellAt h (0 + i * 39 + j) (by omega), Nat.zero_add]
    exact (flat_getIn (enc := pvc) (k := 39) L hlen i j hi hj39).trans hj
end Cf
set_option maxRecDepth 20000 in
set_option maxHeartbeats 8000000 in
theorem of_any (x : Id8) (ma he de ag : Int) (b off cap : Nat) (L : List Cf.Pv) (w : World) (ao : Option Addr) (hao : ao = some ⟨b, off, none⟩ ∨ L = []) (hL : Cf.PIn w b off L) (hn : L.length ≤ 10000) :
    Calls Tryz.prog 10 #[.agg #[.int .u8 ((x.f 0).toNat : Int), .int .u8 ((x.f 1).toNat : Int), .int .u8 ((x.f 2).toNat : Int), .int .u8 ((x.f 3).toNat : Int), .int .u8 ((x.f 4).toNat : Int), .int .u8 ((x.f 5).toNat : Int), .int .u8 ((x.f 6).toNat : Int), .int .u8 ((x.f 7).toNat : Int), .int .i64 ma, .int .i64 he, .int .i64 de, .int .i64 ag, .slice ao L.length cap]] w fun e w' => (∃ (ao' : Option Addr) (b' off' cap' : Nat), e = .returned (.agg #[.int .u8 ((x.f 0).toNat : Int), .int .u8 ((x.f 1).toNat : Int), .int .u8 ((x.f 2).toNat : Int), .int .u8 ((x.f 3).toNat : Int), .int .u8 ((x.f 4).toNat : Int), .int .u8 ((x.f 5).toNat : Int), .int .u8 ((x.f 6).toNat : Int), .int .u8 ((x.f 7).toNat : Int), .int .i64 ma, .int .i64 he, .int .i64 de, .int .i64 ag, (.slice ao' L.length cap')]) ∧ (ao' = some ⟨b', off', none⟩ ∨ L = []) ∧ Cf.PIn w' b' off' L) ∧ Below w.heap.size w w' := by
  obtain ⟨ri, rz, hri, hrz, hr1, hr2, hr3⟩ := Cf.info_port
  have HRI := Lib.hid hri
  have HRZ := Lib.hid hrz
  have HLL := Lib.hid hL
  clear hri hrz hL
  go_enter Tryz.func10, Tryz.ntmps10
  go_upto_region 1 with fail
  have HX1 : Hid (RowIs ((w.alloc (.cells #[.int .u8 ((x.f 0).toNat : Int), .int .u8 ((x.f 1).toNat : Int), .int .u8 ((x.f 2).toNat : Int), .int .u8 ((x.f 3).toNat : Int), .int .u8 ((x.f 4).toNat : Int), .int .u8 ((x.f 5).toNat : Int), .int .u8 ((x.f 6).toNat : Int), .int .u8 ((x.f 7).toNat : Int), .int .i64 ma, .int .i64 he, .int .i64 de, .int .i64 ag, .slice ao L.length cap] 25)).alloc (.cells #[.int .u8 0, .int .u8 0, .int .u8 0, .int .u8 0, .int .u8 0, .int .u8 0, .int .u8 0, .int .u8 0, .int .i64 0, .int .i64 0, .int .i64 0, .int .i64 0, .slice none 0 0] 33)) w.heap.size 25 #[.int .u8 ((x.f 0).toNat : Int), .int .u8 ((x.f 1).toNat : Int), .int .u8 ((x.f 2).toNat : Int), .int .u8 ((x.f 3).toNat : Int), .int .u8 ((x.f 4).toNat : Int), .int .u8 ((x.f 5).toNat : Int), .int .u8 ((x.f 6).toNat : Int), .int .u8 ((x.f 7).toNat : Int), .int .i64 ma, .int .i64 he, .int .i64 de, .int .i64 ag, .slice ao L.length cap]) := by
    show RowIs _ _ _ _
    exact (rowIs_new w _ _).alloc _
  have HR1 : Hid (RowIs ((w.alloc (.cells #[.int .u8 ((x.f 0).toNat : Int), .int .u8 ((x.f 1).toNat : Int), .int .u8 ((x.f 2).toNat : Int), .int .u8 ((x.f 3).toNat : Int), .int .u8 ((x.f 4).toNat : Int), .int .u8 ((x.f 5).toNat : Int), .int .u8 ((x.f 6).toNat : Int), .int .u8 ((x.f 7).toNat : Int), .int .i64 ma, .int .i64 he, .int .i64 de, .int .i64 ag, .slice ao L.length cap] 25)).alloc (.cells #[.int .u8 0, .int .u8 0, .int .u8 0, .int .u8 0, .int .u8 0, .int .u8 0, .int .u8 0, .int .u8 0, .int .i64 0, .int .i64 0, .int .i64 0, .int .i64 0, .slice none 0 0] 33)) (w.heap.size + 1) 33 #[.int .u8 0, .int .u8 0, .int .u8 0, .int .u8 0, .int .u8 0, .int .u8 0, .int .u8 0, .int .u8 0, .int .i64 0, .int .i64 0, .int .i64 0, .int .i64 0, .slice none 0 0]) := rowIs_new1 w _ _ _
  have hb1 : Below w.heap.size w ((w.alloc (.cells #[.int .u8 ((x.f 0).toNat : Int), .int .u8 ((x.f 1).toNat : Int), .int .u8 ((x.f 2).toNat : Int), .int .u8 ((x.f 3).toNat : Int), .int .u8 ((x.f 4).toNat : Int), .int .u8 ((x.f 5).toNat : Int), .int .u8 ((x.f 6).toNat : Int), .int .u8 ((x.f 7).toNat : Int), .int .i64 ma, .int .i64 he, .int .i64 de, .int .i64 ag, .slice ao L.length cap] 25)).alloc (.cells #[.int .u8 0, .int .u8 0, .int .u8 0, .int .u8 0, .int .u8 0, .int .u8 0, .int .u8 0, .int .u8 0, .int .i64 0, .int .i64 0, .int .i64 0, .int .i64 0, .slice none 0 0] 33)) := ((Below.refl _ _).alloc (Nat.le_refl _) _).alloc (by simp) _
  have hz1 : ((w.alloc (.cells #[.int .u8 ((x.f 0).toNat : Int), .int .u8 ((x.f 1).toNat : Int), .int .u8 ((x.f 2).toNat : Int), .int .u8 ((x.f 3).toNat : Int), .int .u8 ((x.f 4).toNat : Int), .int .u8 ((x.f 5).toNat : Int), .int .u8 ((x.f 6).toNat : Int), .int .u8 ((x.f 7).toNat : Int), .int .i64 ma, .int .i64 he, .int .i64 de, .int .i64 ag, .slice ao L.length cap] 25)).alloc (.cells #[.int .u8 0, .int .u8 0, .int .u8 0, .int .u8 0, .int .u8 0, .int .u8 0, .int .u8 0, .int .u8 0, .int .i64 0, .int .i64 0, .int .i64 0, .int .i64 0, .slice none 0 0] 33)).heap.size = w.heap.size + 2 := by simp
  try simp only [World.size_alloc]
  generalize (w.alloc (.cells #[.int .u8 ((x.f 0).toNat : Int), .int .u8 ((x.f 1).toNat : Int), .int .u8 ((x.f 2).toNat : Int), .int .u8 ((x.f 3).toNat : Int), .int .u8 ((x.f 4).toNat : Int), .int .u8 ((x.f 5).toNat : Int), .int .u8 ((x.f 6).toNat : Int), .int .u8 ((x.f 7).toNat : Int), .int .i64 ma, .int .i64 he, .int .i64 de, .int .i64 ag, .slice ao L.length cap] 25)).alloc (.cells #[.int .u8 0, .int .u8 0, .int .u8 0, .int .u8 0, .int .u8 0, .int .u8 0, .int .u8 0, .int .u8 0, .int .i64 0, .int .i64 0, .int .i64 0, .int .i64 0, .slice none 0 0] 33) = w1 at *
  have q8 : w1.cell? ⟨w.heap.size, 8, none⟩ = some (.int .i64 ma) := HX1.out.cell 8
  have q9 : w1.cell? ⟨w.heap.size, 9, none⟩ = some (.int .i64 he) := HX1.out.cell 9
  have q10 : w1.cell? ⟨w.heap.size, 10, none⟩ = some (.int .i64 de) := HX1.out.cell 10
  have q11 : w1.cell? ⟨w.heap.size, 11, none⟩ = some (.int .i64 ag) := HX1.out.cell 11
  have hbc := run_build_cf x ma he de ag
  go_upto_region 2 with (first | ((with_reducible refine at_load 22 (.tmp 6) ?_); refine wpList_load_part rfl 22 (.tmp 6) rfl w.heap.size 0 rfl 25 _ HX1.out [.int .u8 ((x.f 0).toNat : Int), .int .u8 ((x.f 1).toNat : Int), .int .u8 ((x.f 2).toNat : Int), .int .u8 ((x.f 3).toNat : Int), .int .u8 ((x.f 4).toNat : Int), .int .u8 ((x.f 5).toNat : Int), .int .u8 ((x.f 6).toNat : Int), .int .u8 ((x.f 7).toNat : Int)] rfl _ Tryz.underlying22 rfl (by kernel_rfl) ?_) | ((with_reducible refine at_store 33 (.tmp 3) (.tmp 17) ?_); refine wpList_store_own rfl 33 (.tmp 3) (.tmp 17) rfl w1.heap.size #[.int .u8 ((x.f 0).toNat : Int), .int .u8 ((x.f 1).toNat : Int), .int .u8 ((x.f 2).toNat : Int), .int .u8 ((x.f 3).toNat : Int), .int .u8 ((x.f 4).toNat : Int), .int .u8 ((x.f 5).toNat : Int), .int .u8 ((x.f 6).toNat : Int), .int .u8 ((x.f 7).toNat : Int), .int .i64 ma, .int .i64 he, .int .i64 de, .int .i64 ag, .slice none 0 0] rfl rfl 33 _ (rowIs_new w1 _ _) (by kernel_rfl) rfl (by simp [Value.oneCell']) w.heap.size (by omega) ?_))
  have HB2 : Hid (RowIs (w1.alloc (.cells #[.int .u8 ((x.f 0).toNat : Int), .int .u8 ((x.f 1).toNat : Int), .int .u8 ((x.f 2).toNat : Int), .int .u8 ((x.f 3).toNat : Int), .int .u8 ((x.f 4).toNat : Int), .int .u8 ((x.f 5).toNat : Int), .int .u8 ((x.f 6).toNat : Int), .int .u8 ((x.f 7).toNat : Int), .int .i64 ma, .int .i64 he, .int .i64 de, .int .i64 ag, .slice none 0 0] 33)) (w.heap.size + 2) 33 #[.int .u8 ((x.f 0).toNat : Int), .int .u8 ((x.f 1).toNat : Int), .int .u8 ((x.f 2).toNat : Int), .int .u8 ((x.f 3).toNat : Int), .int .u8 ((x.f 4).toNat : Int), .int .u8 ((x.f 5).toNat : Int), .int .u8 ((x.f 6).toNat : Int), .int .u8 ((x.f 7).toNat : Int), .int .i64 ma, .int .i64 he, .int .i64 de, .int .i64 ag, .slice none 0 0]) := by
    show RowIs _ _ _ _
    rw [← hz1]
    exact rowIs_new w1 _ _
  have HX2 := Lib.hid (HX1.out.alloc (.cells #[.int .u8 ((x.f 0).toNat : Int), .int .u8 ((x.f 1).toNat : Int), .int .u8 ((x.f 2).toNat : Int), .int .u8 ((x.f 3).toNat : Int), .int .u8 ((x.f 4).toNat : Int), .int .u8 ((x.f 5).toNat : Int), .int .u8 ((x.f 6).toNat : Int), .int .u8 ((x.f 7).toNat : Int), .int .i64 ma, .int .i64 he, .int .i64 de, .int .i64 ag, .slice none 0 0] 33))
  have HR2 := Lib.hid (HR1.out.alloc (.cells #[.int .u8 ((x.f 0).toNat : Int), .int .u8 ((x.f 1).toNat : Int), .int .u8 ((x.f 2).toNat : Int), .int .u8 ((x.f 3).toNat : Int), .int .u8 ((x.f 4).toNat : Int), .int .u8 ((x.f 5).toNat : Int), .int .u8 ((x.f 6).toNat : Int), .int .u8 ((x.f 7).toNat : Int), .int .i64 ma, .int .i64 he, .int .i64 de, .int .i64 ag, .slice none 0 0] 33))
  have HBR2 := Lib.hid (hb1.alloc hb1.size (.cells #[.int .u8 ((x.f 0).toNat : Int), .int .u8 ((x.f 1).toNat : Int), .int .u8 ((x.f 2).toNat : Int), .int .u8 ((x.f 3).toNat : Int), .int .u8 ((x.f 4).toNat : Int), .int .u8 ((x.f 5).toNat : Int), .int .u8 ((x.f 6).toNat : Int), .int .u8 ((x.f 7).toNat : Int), .int .i64 ma, .int .i64 he, .int .i64 de, .int .i64 ag, .slice none 0 0] 33))
  have hz2 : w.heap.size + 3 ≤ (w1.alloc (.cells #[.int .u8 ((x.f 0).toNat : Int), .int .u8 ((x.f 1).toNat : Int), .int .u8 ((x.f 2).toNat : Int), .int .u8 ((x.f 3).toNat : Int), .int .u8 ((x.f 4).toNat : Int), .int .u8 ((x.f 5).toNat : Int), .int .u8 ((x.f 6).toNat : Int), .int .u8 ((x.f 7).toNat : Int), .int .i64 ma, .int .i64 he, .int .i64 de, .int .i64 ag, .slice none 0 0] 33)).heap.size := by simp [hz1]
  clear q8 q9 q10 q11 hbc HX1 HR1 hb1 hz1
  generalize w1.alloc (.cells #[.int .u8 ((x.f 0).toNat : Int), .int .u8 ((x.f 1).toNat : Int), .int .u8 ((x.f 2).toNat : Int), .int .u8 ((x.f 3).toNat : Int), .int .u8 ((x.f 4).toNat : Int), .int .u8 ((x.f 5).toNat : Int), .int .u8 ((x.f 6).toNat : Int), .int .u8 ((x.f 7).toNat : Int), .int .i64 ma, .int .i64 he, .int .i64 de, .int .i64 ag, .slice none 0 0] 33) = w2 at *
  go_upto_region 3 with fail
  go_loopw [4] (fun i wr => ∃ (k : Nat) (pv : Value), k ≤ L.length ∧ i = .int .i64 k ∧ Hid (RowIs wr (w.heap.size + 2) 33 #[.int .u8 ((x.f 0).toNat : Int), .int .u8 ((x.f 1).toNat : Int), .int .u8 ((x.f 2).toNat : Int), .int .u8 ((x.f 3).toNat : Int), .int .u8 ((x.f 4).toNat : Int), .int .u8 ((x.f 5).toNat : Int), .int .u8 ((x.f 6).toNat : Int), .int .u8 ((x.f 7).toNat : Int), .int .i64 ma, .int .i64 he, .int .i64 de, .int .i64 ag, pv]) ∧ Hid (wr.ownsRow (w.heap.size + 3) 72 39 pv k (Cf.pvs (L.take k))) ∧ Hid (RowIs wr w.heap.size 25 #[.int .u8 ((x.f 0).toNat : Int), .int .u8 ((x.f 1).toNat : Int), .int .u8 ((x.f 2).toNat : Int), .int .u8 ((x.f 3).toNat : Int), .int .u8 ((x.f 4).toNat : Int), .int .u8 ((x.f 5).toNat : Int), .int .u8 ((x.f 6).toNat : Int), .int .u8 ((x.f 7).toNat : Int), .int .i64 ma, .int .i64 he, .int .i64 de, .int .i64 ag, .slice ao L.length cap]) ∧ Hid (RowIs wr (w.heap.size + 1) 33 #[.int .u8 0, .int .u8 0, .int .u8 0, .int .u8 0, .int .u8 0, .int .u8 0, .int .u8 0, .int .u8 0, .int .i64 0, .int .i64 0, .int .i64 0, .int .i64 0, .slice none 0 0]) ∧ Hid (Below w.heap.size w wr) ∧ w.heap.size + 3 ≤ wr.heap.size) (fun i _ => L.length - (RowKit.intOf i).toNat)
  case atStart => exact ⟨0, _, Nat.zero_le _, rfl, HB2, World.ownsRow_nil _ _ _ _, HX2, HR2, HBR2, hz2⟩
  case round =>
    rename World => wr
    clear HB2 HX2 HR2 HBR2 hz2
    obtain ⟨k, pv, hk, rfl, HB, HO, HX, HR, HBR, hsz2⟩ := hrel
    have d12 : wr.cell? ⟨w.heap.size, 12, none⟩ = some (.slice ao L.length cap) := HX.out.cell 12
    by_cases hlt : k < L.length
    · obtain rfl : ao = some ⟨b, off, none⟩ := hao.resolve_right (fun e => by rw [e] at hlt; exact absurd hlt (Nat.not_lt_zero _))
      have HLr := Lib.hid (HLL.out.after HBR.out)
      have hpin := Cf.pv_in hlt
      have HE := Lib.hid (HLr.out.1 k hlt)
      have HIN := Lib.hid (HLr.out.2.2 _ hpin)
      have HLN := Lib.hid (Cf.pvs_next hlt)
      obtain ⟨p, hp⟩ : ∃ p, L.getD k .zero = p := ⟨_, rfl⟩
      rw [hp] at HE HIN HLN
      clear hp hpin
      have HPL := Lib.hid HIN.out.2.2
      go_upto_region 6 with (first | ((with_reducible refine at_load 50 (.tmp 28) ?_); refine wpList_load_at rfl 50 (.tmp 28) rfl b (off + k * 39) rfl (Cf.pvc p) HE.out _ Tryz.underlying50 rfl (rpc_info HPL.out) ?_) | ((with_reducible refine at_alloc 50 ?_); refine wpList_alloc_port rfl 50 Cf.zport rfl rzport_is ?_) | ((with_reducible refine at_store 50 (.tmp 5) (.tmp 29) ?_); refine wpList_store_own rfl 50 (.tmp 5) (.tmp 29) rfl wr.heap.size (Cf.pvc p).toArray rfl rfl 50 _ (rowIs_new wr _ _) (rpc_info HPL.out) ?z1 (Cf.pvc_one p) w.heap.size (by omega) ?_))
      case z1 => simp [Cf.zport, Cf.pvc, byteVals_length, HPL.out, Cf.zeros]
      intro w3 hR hO hs hb
      have R5 := Lib.hid hR
      have hb3 : Below wr.heap.size wr w3 := ((Below.refl _ wr).alloc (Nat.le_refl _) _).trans ⟨hb.os, hb.tape, hb.output, by rw [hs]; simp, fun j hj => hO j (by omega)⟩
      have HBR3 := Lib.hid (HBR.out.trans (hb3.mono (by omega)))
      have HO3 := Lib.hid (owns_later HO.out hb3)
      have HB3 := Lib.hid (HB.out.kept hb3)
      have HX3 := Lib.hid (HX.out.kept hb3)
      have HR3 := Lib.hid (HR.out.kept hb3)
      have hz3 : w.heap.size + 3 ≤ w3.heap.size := Nat.le_trans hsz2 hb3.size
      clear hR hO hs hb HO HE HLr HIN hb3 HB HX HR HBR d12
      have e0 : w3.cell? ⟨wr.heap.size, 0, none⟩ = some (.int .i64 p.nat) := R5.out.cell 0
      have e1 : w3.cell? ⟨wr.heap.size, 1, none⟩ = some (.slice p.ta p.tags.length p.tc) := R5.out.cell 1
      have e2 : w3.cell? ⟨wr.heap.size, 2, none⟩ = some (.int .i64 p.ho) := R5.out.cell 2
      have e3 : w3.cell? ⟨wr.heap.size, 3, none⟩ = some (.int .i64 p.li) := R5.out.cell 3
      have e4 : w3.cell? ⟨wr.heap.size, 4, none⟩ = some (.bool p.link) := R5.out.cell 4
      have e5 : w3.cell? ⟨wr.heap.size, 5, none⟩ = some (.int .i64 p.rate) := R5.out.cell 5
      have e6 : w3.cell? ⟨wr.heap.size, 6, none⟩ = some (.bool p.greets) := R5.out.cell 6
      obtain ⟨fb, hfb⟩ : ∃ fb : Nat → UInt8, p.psk = (List.range 32).map fb := ⟨_, Cf.bytes_fn _ HPL.out⟩
      have HFB := Lib.hid hfb
      have hbp0 := run_build_cp p.nat p.ta p.tags.length p.tc p.ho p.li p.rate p.link p.greets fb
      have HPC : Hid ((Cf.pvc p).toArray = ((.int .i64 p.nat :: .slice p.ta p.tags.length p.tc :: .int .i64 p.ho :: .int .i64 p.li :: .bool p.link :: .int .i64 p.rate :: .bool p.greets :: byteVals ((List.range 32).map fb)).toArray)) := by show _ = _; unfold Cf.pvc; rw [hfb]
      have hl32 : (byteVals ((List.range 32).map fb)).length = 32 := rfl
      have HL32 := Lib.hid hl32
      rw [HPC.out] at R5
      have q12 : w3.cell? ⟨w.heap.size + 2, 12, none⟩ = some pv := HB3.out.cell 12
      clear hfb hl32
      obtain ⟨bq, hbq⟩ : ∃ q, byteVals ((List.range 32).map fb) = q := ⟨_, rfl⟩
      rw [hbq] at hbp0 HL32 R5
      have HBP := Lib.hid hbp0
      clear hbp0
      rw [hbq] at HPC
      clear hbq
      have HPCL : Hid (Cf.pvc p = (.int .i64 p.nat :: .slice p.ta p.tags.length p.tc :: .int .i64 p.ho :: .int .i64 p.li :: .bool p.link :: .int .i64 p.rate :: .bool p.greets :: bq)) := by show _ = _; have := congrArg Array.toList HPC.out; simpa using this
      have hone : (.int .i64 p.nat :: .slice p.ta p.tags.length p.tc :: .int .i64 p.ho :: .int .i64 p.li :: .bool p.link :: .int .i64 p.rate :: .bool p.greets :: bq).all (·.oneCell') = true := by rw [← HPCL.out]; have := Cf.pvc_one p; rwa [List.all_toArray] at this
      go_wp2_with (first
        | ((with_reducible refine at_load 48 (.tmp 48) ?_); refine wpList_load_part rfl 48 (.tmp 48) rfl wr.heap.size 7 rfl 50 _ R5.out bq (by show bq.take bq.length = _; exact List.take_length) _ Tryz.underlying48 rfl (by rw [HL32.out]; kernel_rfl) ?_)
        | ((with_reducible refine at_dst59 50 ?_); refine wpList_build5 rfl 72 _ _ _ _ _ rfl _ _ _ _ _ _ rfl rfl rfl rfl rfl (HBP.out _) ?_)
        | ((with_reducible refine at_dst59 51 ?_); refine wpList_build_one rfl 31 72 (.tmp 50) rfl (.int .i64 p.nat :: .slice p.ta p.tags.length p.tc :: .int .i64 p.ho :: .int .i64 p.li :: .bool p.link :: .int .i64 p.rate :: .bool p.greets :: bq).toArray rfl Tryz.underlying31 39 (by kernel_rfl) (by simp [HL32.out]) (by decide) (by decide) ?_)
        | (at_builtin; refine wpList_append_own _ rfl (.tmp 31) (.tmp 51) 31 rfl (w.heap.size + 3) 72 ri rz 39 104 Tryz.underlying31 HRI.out HRZ.out hr1 hr2 hr3 (by decide) _ k _ rfl (World.ownsRow.alloc HO3.out _) ⟨w3.heap.size, 0, none⟩ 1 1 (.int .i64 p.nat :: .slice p.ta p.tags.length p.tc :: .int .i64 p.ho :: .int .i64 p.li :: .bool p.link :: .int .i64 p.rate :: .bool p.greets :: bq) rfl (by simp [HL32.out]) (fun j u hj => by rw [addr_add, (rowIs_new w3 72 (.int .i64 p.nat :: .slice p.ta p.tags.length p.tc :: .int .i64 p.ho :: .int .i64 p.li :: .bool p.link :: .int .i64 p.rate :: .bool p.greets :: bq).toArray).cell j, ← Array.getElem?_toList]; exact hj) ?d2 ?d3 ?d4 ?d5 ?_))
      case d2 =>
        intro u hu
        exact List.all_eq_true.1 hone u hu
      case d3 => unfold maxLen; omega
      case d4 => omega
      case d5 => rw [World.size_alloc]; omega
      intro v' w4 hown hgrow _
      have HOUT : Hid (w4.ownsRow (w.heap.size + 3) 72 39 v' (k + 1) (Cf.pvs (L.take (k + 1)))) := by
        show World.ownsRow _ _ _ _ _ _ _
        rw [HLN.out, HPCL.out]
        exact hown
      have hlo : ∀ j, j < w.heap.size + 3 → w4.heap[j]? = w3.heap[j]? := fun j hj => (hgrow.block j (by rw [World.size_alloc]; omega) (fun e => by have := (Cf.owns_block' HO3.out e.symm).1; omega)).trans (Below.heap_alloc _ _ _ (by omega))
      have HB4 : Hid (RowIs w4 (w.heap.size + 2) 33 #[.int .u8 ((x.f 0).toNat : Int), .int .u8 ((x.f 1).toNat : Int), .int .u8 ((x.f 2).toNat : Int), .int .u8 ((x.f 3).toNat : Int), .int .u8 ((x.f 4).toNat : Int), .int .u8 ((x.f 5).toNat : Int), .int .u8 ((x.f 6).toNat : Int), .int .u8 ((x.f 7).toNat : Int), .int .i64 ma, .int .i64 he, .int .i64 de, .int .i64 ag, pv]) := (hlo _ (by omega)).trans HB3.out
      have HX4 : Hid (RowIs w4 w.heap.size 25 #[.int .u8 ((x.f 0).toNat : Int), .int .u8 ((x.f 1).toNat : Int), .int .u8 ((x.f 2).toNat : Int), .int .u8 ((x.f 3).toNat : Int), .int .u8 ((x.f 4).toNat : Int), .int .u8 ((x.f 5).toNat : Int), .int .u8 ((x.f 6).toNat : Int), .int .u8 ((x.f 7).toNat : Int), .int .i64 ma, .int .i64 he, .int .i64 de, .int .i64 ag, .slice (some ⟨b, off, none⟩) L.length cap]) := (hlo _ (by omega)).trans HX3.out
      have HR4 : Hid (RowIs w4 (w.heap.size + 1) 33 #[.int .u8 0, .int .u8 0, .int .u8 0, .int .u8 0, .int .u8 0, .int .u8 0, .int .u8 0, .int .u8 0, .int .i64 0, .int .i64 0, .int .i64 0, .int .i64 0, .slice none 0 0]) := (hlo _ (by omega)).trans HR3.out
      have HBR4 : Hid (Below w.heap.size w w4) := HBR3.out.trans (((Below.refl _ _).alloc (by omega) _).grown hgrow (by rw [World.size_alloc]; omega) (fun j e => by have := (Cf.owns_block' HO3.out e).1; omega))
      have hz4 : w.heap.size + 3 ≤ w4.heap.size := by have := hgrow.size; rw [World.size_alloc] at this; omega
      have hv1 := Cf.owns_one hown
      clear hown hgrow hlo HO3 HB3 HX3 HR3 HBR3 e0 e1 e2 e3 e4 e5 e6 R5 q12 HPC HPCL hone HBP
      go_wp2_with ((with_reducible refine at_store 31 (.tmp 53) (.tmp 52) ?_); refine wpList_store_cell rfl 31 (.tmp 53) (.tmp 52) rfl (w.heap.size + 2) 12 v' rfl rfl 33 _ HB4.out (by simp) (by kernel_rfl) hv1 w.heap.size (by omega) ?_)
      intro w5 hK hO hs hb
      have HB5 : Hid (RowIs w5 (w.heap.size + 2) 33 #[.int .u8 ((x.f 0).toNat : Int), .int .u8 ((x.f 1).toNat : Int), .int .u8 ((x.f 2).toNat : Int), .int .u8 ((x.f 3).toNat : Int), .int .u8 ((x.f 4).toNat : Int), .int .u8 ((x.f 5).toNat : Int), .int .u8 ((x.f 6).toNat : Int), .int .u8 ((x.f 7).toNat : Int), .int .i64 ma, .int .i64 he, .int .i64 de, .int .i64 ag, v']) := hK
      have HX5 : Hid (RowIs w5 w.heap.size 25 #[.int .u8 ((x.f 0).toNat : Int), .int .u8 ((x.f 1).toNat : Int), .int .u8 ((x.f 2).toNat : Int), .int .u8 ((x.f 3).toNat : Int), .int .u8 ((x.f 4).toNat : Int), .int .u8 ((x.f 5).toNat : Int), .int .u8 ((x.f 6).toNat : Int), .int .u8 ((x.f 7).toNat : Int), .int .i64 ma, .int .i64 he, .int .i64 de, .int .i64 ag, .slice (some ⟨b, off, none⟩) L.length cap]) := (hO _ (by omega)).trans HX4.out
      have HR5 : Hid (RowIs w5 (w.heap.size + 1) 33 #[.int .u8 0, .int .u8 0, .int .u8 0, .int .u8 0, .int .u8 0, .int .u8 0, .int .u8 0, .int .u8 0, .int .i64 0, .int .i64 0, .int .i64 0, .int .i64 0, .slice none 0 0]) := (hO _ (by omega)).trans HR4.out
      have HO5 := Lib.hid (owns_stored HOUT.out hO (by omega))
      have HBR5 := Lib.hid (HBR4.out.trans hb)
      have hz5 : w.heap.size + 3 ≤ w5.heap.size := by omega
      clear hK hO hs hb HB4 HX4 HR4 HOUT HBR4
      go_wp2_with fail
      exact ⟨⟨k + 1, v', by omega, by go_num, HB5, HO5, HX5, HR5, HBR5, hz5⟩, by simp [RowKit.intOf]; omega⟩
    · obtain rfl : k = L.length := by omega
      rw [List.take_length] at HO
      obtain ⟨ao2, b2, off2, cap2, rfl, _, _⟩ := Cf.pvs_in HO.out (fun p hp => (HLL.out.after HBR.out).2.2 p hp)
      have hbF := HBR.out
      go_wp2_with (first | ((with_reducible refine at_load 33 (.tmp 3) ?_); refine wpList_load_own rfl 33 (.tmp 3) rfl (w.heap.size + 2) rfl 33 _ _ HB.out Tryz.underlying33 rfl (by kernel_rfl) ?_) | ((with_reducible refine at_store 33 (.tmp 2) (.tmp 54) ?_); refine wpList_store_own rfl 33 (.tmp 2) (.tmp 54) rfl (w.heap.size + 1) #[.int .u8 ((x.f 0).toNat : Int), .int .u8 ((x.f 1).toNat : Int), .int .u8 ((x.f 2).toNat : Int), .int .u8 ((x.f 3).toNat : Int), .int .u8 ((x.f 4).toNat : Int), .int .u8 ((x.f 5).toNat : Int), .int .u8 ((x.f 6).toNat : Int), .int .u8 ((x.f 7).toNat : Int), .int .i64 ma, .int .i64 he, .int .i64 de, .int .i64 ag, (.slice ao2 L.length cap2)] rfl rfl 33 _ HR.out (by kernel_rfl) rfl (by simp [Value.oneCell']) (w.heap.size + 1) (Nat.le_refl _) ?_))
      intro w9 hR9 hO9 hs9 hb9
      have HR9 := Lib.hid hR9
      have HB9 := Lib.hid (hbF.trans (hb9.mono (by omega)))
      have ho9 := owns_stored HO.out hO9 (by omega)
      obtain ⟨ao3, b3, off3, cap3, hv3, hao3, hPI3⟩ := Cf.pvs_in ho9 (fun p hp => (HLL.out.after HB9.out).2.2 p hp)
      simp only [Value.slice.injEq] at hv3
      obtain ⟨rfl, _, rfl⟩ := hv3
      have HP9 := Lib.hid hPI3
      clear hR9 hO9 ho9 hPI3
      go_wp2_with fail
      refine bodyPost_ret (results_row Tryz.results10 _ _ (w.heap.size + 1) 33 _ _ rfl HR9.out Tryz.underlying33 rfl (by kernel_rfl)) rfl ?_
      exact ⟨⟨ao2, b3, off3, cap2, rfl, hao3, HP9.out⟩, HB9.out⟩
end Go.Proofs.YthfckdnennfnoaaGreatDoor
-- Same: is a configuration that of the document? By an AI agent. 
namespace Go.Proofs.YthfckdnennfnoaaGreatDoor
open Go.RowKit Go.WideShapes Go.Sort Grow
section
variable {P : Program} {md : Region.Mode} {ops : Array Oper} {Q : Exit → Act → World → Prop} {S : World → Prop} {fuel : Nat} {listed : Array Bool} {a : Act} {w : World}
theorem ar_alloc18 {i : Nat} {o : Oper} {is : List Nat} (ho : ops[i]? = some o) (hw : Region.wanted o (yielded ops a.tmps) = true) (t : TypeId) (hop : o.op = .alloc t) (cs : Array Value) (hi : ((P.info? t).bind fun i => i.zero.map (·.cells)) = some cs)
    (h : S (w.alloc (.cells cs t)) ∧ wpAnyH P md ops Q S fuel (listed.setIfInBounds i true) (a.put o.dst (.pointer (some ⟨w.heap.size, 0, none⟩))) (w.alloc (.cells cs t))) (more : AllReadyH P md ops Q S fuel listed a w is) : AllReadyH P md ops Q S fuel listed a w (i :: is) :=
  AllReadyH.cons ho (fun K hK => by
    rw [if_pos hw]
    obtain ⟨i, hi', hz'⟩ := Option.bind_eq_some_iff.1 hi
    obtain ⟨z, hz, rfl⟩ := Option.map_eq_some_iff.1 hz'
    clear hi hz'
    have hr : (Instr.alloc t true (.tuple #[])).run P w = .ok (.pointer (some ⟨w.heap.size, 0, none⟩)) (w.alloc (.cells z.cells t)) := by
      simp [Instr.alloc, zeroValue, typeInfo, hi', hz, newVar, newRow]
    unfold Oper.wp execOp
    simp only [hop, hr, Sem.run_bind, Sem.run_pure, Result.andThen_ok]
    exact hK.out _ _ h.1 (fun _ => h.2)) more
end
namespace Cf
/-- what the round looks at -/
def SameS (H b off b' off' k : Nat) (sa sb : Value) (ra rb : List Value) (w' : World) : Prop := w'.cell? ⟨H, 12, none⟩ = some sa ∧ w'.cell? ⟨H + 1, 12, none⟩ = some sb ∧ w'.rangeAt b (off + k * 39) ra ∧ w'.rangeAt b' (off' + k * 39) rb
theorem SameS.after {H b off b' off' k : Nat} {sa sb : Value} {ra rb : List Value} {w w' : World} (h : SameS H b off b' off' k sa sb ra rb w) (hb : Below w.heap.size w w') : SameS H b off b' off' k sa sb ra rb w' :=
  ⟨(hb.cell (block_lt_of_cell h.1)).trans h.1, (hb.cell (block_lt_of_cell h.2.1)).trans h.2.1, fun j v hj => (hb.cell (p := ⟨b, off + k * 39 + j, none⟩) (block_lt_of_cell (h.2.2.1 j v hj))).trans (h.2.2.1 j v hj), fun j v hj => (hb.cell (p := ⟨b', off' + k * 39 + j, none⟩) (block_lt_of_cell (h.2.2.2 j v hj))).trans (h.2.2.2 j v hj)⟩
theorem intsAt_at {w : World} {ao : Option Addr} {zs : List Int} (h : IntsAt w ao zs) {j : Nat} (hj : j < zs.length) : ∃ b off, ao = some ⟨b, off, none⟩ ∧ w.cell? ⟨b, off + j, none⟩ = some (.int .i64 (zs.getD j 0)) := by
  rcases h with h | ⟨b, off, e, hc⟩
  · rw [h] at hj; exact absurd hj (Nat.not_lt_zero _)
  · exact ⟨b, off, e, hc j hj⟩
theorem bare_at {L M : List Pv} (h : L.map Pv.bare = M.map Pv.bare) {k : Nat} (hk : k < L.length) : (L.getD k .zero).bare = (M.getD k .zero).bare := by
  have hm : k < M.length := by have := congrArg List.length h; simp only [List.length_map] at this; omega
  have e := congrArg (fun l => l[k]?) h
  simp only [List.getElem?_map, List.getElem?_eq_getElem hk, List.getElem?_eq_getElem hm, Option.map_some, Option.some.injEq] at e
  rw [List.getD_eq_getElem?_getD, List.getD_eq_getElem?_getD, List.getElem?_eq_getElem hk, List.getElem?_eq_getElem hm]
  exact e
end Cf
set_option maxRecDepth 20000 in
set_option maxHeartbeats 8000000 in
theorem same_any (x : Id8) (ma he de ag : Int) (b off cap b' off' cap' : Nat) (L M : List Cf.Pv) (w : World) (ao ao' : Option Addr) (hao : ao = some ⟨b, off, none⟩ ∨ L = []) (hL : Cf.PIn w b off L) (hao' : ao' = some ⟨b', off', none⟩ ∨ M = []) (hM : Cf.PIn w b' off' M) (hbare : L.map Cf.Pv.bare = M.map Cf.Pv.bare) (hn : L.length ≤ 10000) :
    Calls Tryz.prog 8 #[.agg #[.int .u8 ((x.f 0).toNat : Int), .int .u8 ((x.f 1).toNat : Int), .int .u8 ((x.f 2).toNat : Int), .int .u8 ((x.f 3).toNat : Int), .int .u8 ((x.f 4).toNat : Int), .int .u8 ((x.f 5).toNat : Int), .int .u8 ((x.f 6).toNat : Int), .int .u8 ((x.f 7).toNat : Int), .int .i64 ma, .int .i64 he, .int .i64 de, .int .i64 ag, .slice ao L.length cap], .agg #[.int .u8 ((x.f 0).toNat : Int), .int .u8 ((x.f 1).toNat : Int), .int .u8 ((x.f 2).toNat : Int), .int .u8 ((x.f 3).toNat : Int), .int .u8 ((x.f 4).toNat : Int), .int .u8 ((x.f 5).toNat : Int), .int .u8 ((x.f 6).toNat : Int), .int .u8 ((x.f 7).toNat : Int), .int .i64 ma, .int .i64 he, .int .i64 de, .int .i64 ag, .slice ao' L.length cap']] w fun e w' => e = .returned (.int .i64 1) ∧ Below w.heap.size w w' := by
  have hml : M.length = L.length := by have := congrArg List.length hbare; simpa using this.symm
  have HML := Lib.hid hml
  have HBA := Lib.hid hbare
  have HLL := Lib.hid hL
  have HMM := Lib.hid hM
  clear hL hM hml hbare
  have hid8 : ∀ w, (Op.equalIn 10000 28 (.agg #[.int .u8 ((x.f 0).toNat : Int), .int .u8 ((x.f 1).toNat : Int), .int .u8 ((x.f 2).toNat : Int), .int .u8 ((x.f 3).toNat : Int), .int .u8 ((x.f 4).toNat : Int), .int .u8 ((x.f 5).toNat : Int), .int .u8 ((x.f 6).toNat : Int), .int .u8 ((x.f 7).toNat : Int)]) (.agg #[.int .u8 ((x.f 0).toNat : Int), .int .u8 ((x.f 1).toNat : Int), .int .u8 ((x.f 2).toNat : Int), .int .u8 ((x.f 3).toNat : Int), .int .u8 ((x.f 4).toNat : Int), .int .u8 ((x.f 5).toNat : Int), .int .u8 ((x.f 6).toNat : Int), .int .u8 ((x.f 7).toNat : Int)])).run Tryz.prog w = .ok true w := fun w => by
    have h := run_equalIn_bytes 9998 8 Tryz.underlying28 x.l x.l rfl rfl w
    rw [show eqB x.l x.l = true from eqB_true.2 rfl] at h
    exact h
  go_enter Tryz.func8, Tryz.ntmps8
  go_upto_region 1 with fail
  have HA1 : Hid (RowIs ((w.alloc (.cells #[.int .u8 ((x.f 0).toNat : Int), .int .u8 ((x.f 1).toNat : Int), .int .u8 ((x.f 2).toNat : Int), .int .u8 ((x.f 3).toNat : Int), .int .u8 ((x.f 4).toNat : Int), .int .u8 ((x.f 5).toNat : Int), .int .u8 ((x.f 6).toNat : Int), .int .u8 ((x.f 7).toNat : Int), .int .i64 ma, .int .i64 he, .int .i64 de, .int .i64 ag, .slice ao L.length cap] 33)).alloc (.cells #[.int .u8 ((x.f 0).toNat : Int), .int .u8 ((x.f 1).toNat : Int), .int .u8 ((x.f 2).toNat : Int), .int .u8 ((x.f 3).toNat : Int), .int .u8 ((x.f 4).toNat : Int), .int .u8 ((x.f 5).toNat : Int), .int .u8 ((x.f 6).toNat : Int), .int .u8 ((x.f 7).toNat : Int), .int .i64 ma, .int .i64 he, .int .i64 de, .int .i64 ag, .slice ao' L.length cap'] 25)) w.heap.size 33 #[.int .u8 ((x.f 0).toNat : Int), .int .u8 ((x.f 1).toNat : Int), .int .u8 ((x.f 2).toNat : Int), .int .u8 ((x.f 3).toNat : Int), .int .u8 ((x.f 4).toNat : Int), .int .u8 ((x.f 5).toNat : Int), .int .u8 ((x.f 6).toNat : Int), .int .u8 ((x.f 7).toNat : Int), .int .i64 ma, .int .i64 he, .int .i64 de, .int .i64 ag, .slice ao L.length cap]) := by
    show RowIs _ _ _ _
    exact (rowIs_new w _ _).alloc _
  have HB1 : Hid (RowIs ((w.alloc (.cells #[.int .u8 ((x.f 0).toNat : Int), .int .u8 ((x.f 1).toNat : Int), .int .u8 ((x.f 2).toNat : Int), .int .u8 ((x.f 3).toNat : Int), .int .u8 ((x.f 4).toNat : Int), .int .u8 ((x.f 5).toNat : Int), .int .u8 ((x.f 6).toNat : Int), .int .u8 ((x.f 7).toNat : Int), .int .i64 ma, .int .i64 he, .int .i64 de, .int .i64 ag, .slice ao L.length cap] 33)).alloc (.cells #[.int .u8 ((x.f 0).toNat : Int), .int .u8 ((x.f 1).toNat : Int), .int .u8 ((x.f 2).toNat : Int), .int .u8 ((x.f 3).toNat : Int), .int .u8 ((x.f 4).toNat : Int), .int .u8 ((x.f 5).toNat : Int), .int .u8 ((x.f 6).toNat : Int), .int .u8 ((x.f 7).toNat : Int), .int .i64 ma, .int .i64 he, .int .i64 de, .int .i64 ag, .slice ao' L.length cap'] 25)) (w.heap.size + 1) 25 #[.int .u8 ((x.f 0).toNat : Int), .int .u8 ((x.f 1).toNat : Int), .int .u8 ((x.f 2).toNat : Int), .int .u8 ((x.f 3).toNat : Int), .int .u8 ((x.f 4).toNat : Int), .int .u8 ((x.f 5).toNat : Int), .int .u8 ((x.f 6).toNat : Int), .int .u8 ((x.f 7).toNat : Int), .int .i64 ma, .int .i64 he, .int .i64 de, .int .i64 ag, .slice ao' L.length cap']) := rowIs_new1 w _ _ _
  have hb1 : Below w.heap.size w ((w.alloc (.cells #[.int .u8 ((x.f 0).toNat : Int), .int .u8 ((x.f 1).toNat : Int), .int .u8 ((x.f 2).toNat : Int), .int .u8 ((x.f 3).toNat : Int), .int .u8 ((x.f 4).toNat : Int), .int .u8 ((x.f 5).toNat : Int), .int .u8 ((x.f 6).toNat : Int), .int .u8 ((x.f 7).toNat : Int), .int .i64 ma, .int .i64 he, .int .i64 de, .int .i64 ag, .slice ao L.length cap] 33)).alloc (.cells #[.int .u8 ((x.f 0).toNat : Int), .int .u8 ((x.f 1).toNat : Int), .int .u8 ((x.f 2).toNat : Int), .int .u8 ((x.f 3).toNat : Int), .int .u8 ((x.f 4).toNat : Int), .int .u8 ((x.f 5).toNat : Int), .int .u8 ((x.f 6).toNat : Int), .int .u8 ((x.f 7).toNat : Int), .int .i64 ma, .int .i64 he, .int .i64 de, .int .i64 ag, .slice ao' L.length cap'] 25)) := ((Below.refl _ _).alloc (Nat.le_refl _) _).alloc (by simp) _
  have hz1 : w.heap.size + 2 ≤ ((w.alloc (.cells #[.int .u8 ((x.f 0).toNat : Int), .int .u8 ((x.f 1).toNat : Int), .int .u8 ((x.f 2).toNat : Int), .int .u8 ((x.f 3).toNat : Int), .int .u8 ((x.f 4).toNat : Int), .int .u8 ((x.f 5).toNat : Int), .int .u8 ((x.f 6).toNat : Int), .int .u8 ((x.f 7).toNat : Int), .int .i64 ma, .int .i64 he, .int .i64 de, .int .i64 ag, .slice ao L.length cap] 33)).alloc (.cells #[.int .u8 ((x.f 0).toNat : Int), .int .u8 ((x.f 1).toNat : Int), .int .u8 ((x.f 2).toNat : Int), .int .u8 ((x.f 3).toNat : Int), .int .u8 ((x.f 4).toNat : Int), .int .u8 ((x.f 5).toNat : Int), .int .u8 ((x.f 6).toNat : Int), .int .u8 ((x.f 7).toNat : Int), .int .i64 ma, .int .i64 he, .int .i64 de, .int .i64 ag, .slice ao' L.length cap'] 25)).heap.size := by simp
  try simp only [World.size_alloc]
  generalize (w.alloc (.cells #[.int .u8 ((x.f 0).toNat : Int), .int .u8 ((x.f 1).toNat : Int), .int .u8 ((x.f 2).toNat : Int), .int .u8 ((x.f 3).toNat : Int), .int .u8 ((x.f 4).toNat : Int), .int .u8 ((x.f 5).toNat : Int), .int .u8 ((x.f 6).toNat : Int), .int .u8 ((x.f 7).toNat : Int), .int .i64 ma, .int .i64 he, .int .i64 de, .int .i64 ag, .slice ao L.length cap] 33)).alloc (.cells #[.int .u8 ((x.f 0).toNat : Int), .int .u8 ((x.f 1).toNat : Int), .int .u8 ((x.f 2).toNat : Int), .int .u8 ((x.f 3).toNat : Int), .int .u8 ((x.f 4).toNat : Int), .int .u8 ((x.f 5).toNat : Int), .int .u8 ((x.f 6).toNat : Int), .int .u8 ((x.f 7).toNat : Int), .int .i64 ma, .int .i64 he, .int .i64 de, .int .i64 ag, .slice ao' L.length cap'] 25) = w1 at *
  have a11 : w1.cell? ⟨w.heap.size, 11, none⟩ = some (.int .i64 ag) := HA1.out.cell 11
  have a12 : w1.cell? ⟨w.heap.size, 12, none⟩ = some (.slice ao L.length cap) := HA1.out.cell 12
  have q8 : w1.cell? ⟨w.heap.size + 1, 8, none⟩ = some (.int .i64 ma) := HB1.out.cell 8
  have q9 : w1.cell? ⟨w.heap.size + 1, 9, none⟩ = some (.int .i64 he) := HB1.out.cell 9
  have q10 : w1.cell? ⟨w.heap.size + 1, 10, none⟩ = some (.int .i64 de) := HB1.out.cell 10
  have q11 : w1.cell? ⟨w.heap.size + 1, 11, none⟩ = some (.int .i64 ag) := HB1.out.cell 11
  have q12 : w1.cell? ⟨w.heap.size + 1, 12, none⟩ = some (.slice ao' L.length cap') := HB1.out.cell 12
  go_upto_region 3 with (first
    | ((with_reducible refine at_load 28 (.tmp 9) ?_); refine wpList_load_part rfl 28 (.tmp 9) rfl w.heap.size 0 rfl 33 _ HA1.out [.int .u8 ((x.f 0).toNat : Int), .int .u8 ((x.f 1).toNat : Int), .int .u8 ((x.f 2).toNat : Int), .int .u8 ((x.f 3).toNat : Int), .int .u8 ((x.f 4).toNat : Int), .int .u8 ((x.f 5).toNat : Int), .int .u8 ((x.f 6).toNat : Int), .int .u8 ((x.f 7).toNat : Int)] rfl _ Tryz.underlying28 rfl (by kernel_rfl) ?_)
    | ((with_reducible refine at_load 22 (.tmp 11) ?_); refine wpList_load_part rfl 22 (.tmp 11) rfl (w.heap.size + 1) 0 rfl 25 _ HB1.out [.int .u8 ((x.f 0).toNat : Int), .int .u8 ((x.f 1).toNat : Int), .int .u8 ((x.f 2).toNat : Int), .int .u8 ((x.f 3).toNat : Int), .int .u8 ((x.f 4).toNat : Int), .int .u8 ((x.f 5).toNat : Int), .int .u8 ((x.f 6).toNat : Int), .int .u8 ((x.f 7).toNat : Int)] rfl _ Tryz.underlying22 rfl (by kernel_rfl) ?_)
    | ((with_reducible refine at_load 30 (.tmp 15) ?_); refine wpList_load_part rfl 30 (.tmp 15) rfl w.heap.size 8 rfl 33 _ HA1.out [.int .i64 ma, .int .i64 he, .int .i64 de] rfl _ Tryz.underlying30 rfl (by kernel_rfl) ?_))
  have HA := HA1
  have HB := HB1
  have HBR := Lib.hid hb1
  clear a11 a12 q8 q9 q10 q11 q12 HA1 HB1 hb1 hid8
  go_upto_region 4 with fail
  go_loopw [5] (fun i wr => ∃ k : Nat, k ≤ L.length ∧ i = .int .i64 k ∧ Hid (RowIs wr w.heap.size 33 #[.int .u8 ((x.f 0).toNat : Int), .int .u8 ((x.f 1).toNat : Int), .int .u8 ((x.f 2).toNat : Int), .int .u8 ((x.f 3).toNat : Int), .int .u8 ((x.f 4).toNat : Int), .int .u8 ((x.f 5).toNat : Int), .int .u8 ((x.f 6).toNat : Int), .int .u8 ((x.f 7).toNat : Int), .int .i64 ma, .int .i64 he, .int .i64 de, .int .i64 ag, .slice ao L.length cap]) ∧ Hid (RowIs wr (w.heap.size + 1) 25 #[.int .u8 ((x.f 0).toNat : Int), .int .u8 ((x.f 1).toNat : Int), .int .u8 ((x.f 2).toNat : Int), .int .u8 ((x.f 3).toNat : Int), .int .u8 ((x.f 4).toNat : Int), .int .u8 ((x.f 5).toNat : Int), .int .u8 ((x.f 6).toNat : Int), .int .u8 ((x.f 7).toNat : Int), .int .i64 ma, .int .i64 he, .int .i64 de, .int .i64 ag, .slice ao' L.length cap']) ∧ Hid (Below w.heap.size w wr) ∧ w.heap.size + 2 ≤ wr.heap.size) (fun i _ => L.length - (RowKit.intOf i).toNat)
  case atStart => exact ⟨0, Nat.zero_le _, rfl, HA, HB, HBR, hz1⟩
  case round =>
    rename World => wr
    clear HA HB HBR hz1
    obtain ⟨k, hk, rfl, HA, HB, HBR, hzr⟩ := hrel
    have q12 : wr.cell? ⟨w.heap.size + 1, 12, none⟩ = some (.slice ao' L.length cap') := HB.out.cell 12
    by_cases hlt : k < L.length
    · have a12 : wr.cell? ⟨w.heap.size, 12, none⟩ = some (.slice ao L.length cap) := HA.out.cell 12
      obtain rfl : ao = some ⟨b, off, none⟩ := hao.resolve_right (fun e => by rw [e] at hlt; exact absurd hlt (Nat.not_lt_zero _))
      have hltm : k < M.length := by rw [HML.out]; exact hlt
      obtain rfl : ao' = some ⟨b', off', none⟩ := hao'.resolve_right (fun e => by rw [e] at hltm; exact absurd hltm (Nat.not_lt_zero _))
      have hLr := HLL.out.after HBR.out
      have hMr := HMM.out.after HBR.out
      have hE := hLr.1 k hlt
      have hE' := hMr.1 k hltm
      have hin := hLr.2.2 _ (Cf.pv_in hlt)
      have hin' := hMr.2.2 _ (Cf.pv_in hltm)
      have hbe := Cf.bare_at HBA.out hlt
      generalize L.getD k .zero = p at *
      generalize M.getD k .zero = q at *
      obtain ⟨pn, pta, ptags, ptc, ph, pl, plk, pra, pgr, ppsk⟩ := p
      obtain ⟨qn, qta, qtags, qtc, qh, ql, qlk, qra, qgr, qpsk⟩ := q
      simp only [Cf.Pv.bare, Cf.Pv.mk.injEq, true_and] at hbe
      obtain ⟨rfl, rfl, rfl, rfl, rfl, rfl, rfl, rfl⟩ := hbe
      have HIN := Lib.hid hin
      have HIN' := Lib.hid hin'
      have HPL : Hid (pn = pn ∧ ppsk.length = 32) := ⟨rfl, hin.2.2⟩
      have RD0 : Cf.SameS w.heap.size b off b' off' k (.slice (some ⟨b, off, none⟩) L.length cap) (.slice (some ⟨b', off', none⟩) L.length cap') (Cf.pvc ⟨pn, pta, ptags, ptc, ph, pl, plk, pra, pgr, ppsk⟩) (Cf.pvc ⟨pn, qta, ptags, qtc, ph, pl, plk, pra, pgr, ppsk⟩) wr.drew := ⟨a12, q12, hE, hE'⟩
      clear hLr hMr hE hE' hin hin'
      go_upto_region 6 with fail
      go_cut [6, 7] (fun v6 v7 wx => ∃ b6 b7, v6 = .pointer (some ⟨b6, 0, none⟩) ∧ v7 = .pointer (some ⟨b7, 0, none⟩) ∧ RowIs wx b6 72 ((Cf.pvc ⟨pn, pta, ptags, ptc, ph, pl, plk, pra, pgr, ppsk⟩).toArray) ∧ RowIs wx b7 50 ((Cf.pvc ⟨pn, qta, ptags, qtc, ph, pl, plk, pra, pgr, ppsk⟩).toArray) ∧ Below wr.heap.size wr wx)
      case first =>
        clear a12 q12
        refine wp_region_held (S := Cf.SameS w.heap.size b off b' off' k (.slice (some ⟨b, off, none⟩) L.length cap) (.slice (some ⟨b', off', none⟩) L.length cap') (Cf.pvc ⟨pn, pta, ptags, ptc, ph, pl, plk, pra, pgr, ppsk⟩) (Cf.pvc ⟨pn, qta, ptags, qtc, ph, pl, plk, pra, pgr, ppsk⟩)) (by kernel_rfl) ?_
        change wpAnyH _ _ _ _ _ _ _ _ wr.drew
        have hbd : Below wr.heap.size wr wr.drew := (Below.refl _ _).drew
        have RD := RD0
        generalize wr.drew = wd at *
        refine wpAnyH_take (i := 0) (v := .pointer (some ⟨w.heap.size, 12, none⟩)) rfl (by kernel_rfl) (by kernel_rfl) (by kernel_rfl) (fun _ _ _ h => h) (Or.inl ⟨by rfl, fun w' hS' => by clear hS'; go_simp⟩) RD ?_
        (try simp only [Act.put, List.getElem_toArray, List.getElem_cons_succ, List.getElem_cons_zero, List.setIfInBounds_toArray, List.set])
        refine wpAnyH_take (i := 1) (v := .slice (some ⟨b, off, none⟩) L.length cap) rfl (by kernel_rfl) (by kernel_rfl) (by kernel_rfl) (fun _ _ _ h => h) (Or.inl ⟨by rfl, fun w' hS' => by have hk := hS'.1; clear hS'; go_simp⟩) RD ?_
        (try simp only [Act.put, List.getElem_toArray, List.getElem_cons_succ, List.getElem_cons_zero, List.setIfInBounds_toArray, List.set])
        refine wpAnyH_take (i := 2) (v := .int .i64 k) rfl (by kernel_rfl) (by kernel_rfl) (by kernel_rfl) (fun _ _ _ h => h) (Or.inl ⟨by rfl, fun w' hS' => by clear hS'; go_simp⟩) RD ?_
        (try simp only [Act.put, List.getElem_toArray, List.getElem_cons_succ, List.getElem_cons_zero, List.setIfInBounds_toArray, List.set])
        refine wpAnyH_take (i := 3) (v := .pointer (some ⟨b, off + k * 39, none⟩)) rfl (by kernel_rfl) (by kernel_rfl) (by kernel_rfl) (fun _ _ _ h => h) (Or.inl ⟨by rfl, fun w' hS' => by clear hS'; go_simp⟩) RD ?_
        (try simp only [Act.put, List.getElem_toArray, List.getElem_cons_succ, List.getElem_cons_zero, List.setIfInBounds_toArray, List.set])
        refine wpAnyH_take (i := 4) (v := .agg ((Cf.pvc ⟨pn, pta, ptags, ptc, ph, pl, plk, pra, pgr, ppsk⟩).toArray)) rfl (by kernel_rfl) (by kernel_rfl) (by kernel_rfl) (fun _ _ _ h => h) (yieldsIf_load_mid rfl _ _ rfl b (off + k * 39) rfl (Cf.pvc ⟨pn, pta, ptags, ptc, ph, pl, plk, pra, pgr, ppsk⟩) _ (fun w' hS' => hS'.2.2.1) Tryz.underlying72 rfl (pc_info HPL.out.2)) RD ?_
        (try simp only [Act.put, List.getElem_toArray, List.getElem_cons_succ, List.getElem_cons_zero, List.setIfInBounds_toArray, List.set])
        refine wpAnyH_take (i := 5) (v := .pointer (some ⟨w.heap.size + 1, 12, none⟩)) rfl (by kernel_rfl) (by kernel_rfl) (by kernel_rfl) (fun _ _ _ h => h) (Or.inl ⟨by rfl, fun w' hS' => by clear hS'; go_simp⟩) RD ?_
        (try simp only [Act.put, List.getElem_toArray, List.getElem_cons_succ, List.getElem_cons_zero, List.setIfInBounds_toArray, List.set])
        refine wpAnyH_take (i := 6) (v := .slice (some ⟨b', off', none⟩) L.length cap') rfl (by kernel_rfl) (by kernel_rfl) (by kernel_rfl) (fun _ _ _ h => h) (Or.inl ⟨by rfl, fun w' hS' => by have hk := hS'.2.1; clear hS'; go_simp⟩) RD ?_
        (try simp only [Act.put, List.getElem_toArray, List.getElem_cons_succ, List.getElem_cons_zero, List.setIfInBounds_toArray, List.set])
        refine wpAnyH_take (i := 7) (v := .int .i64 k) rfl (by kernel_rfl) (by kernel_rfl) (by kernel_rfl) (fun _ _ _ h => h) (Or.inl ⟨by rfl, fun w' hS' => by clear hS'; go_simp⟩) RD ?_
        (try simp only [Act.put, List.getElem_toArray, List.getElem_cons_succ, List.getElem_cons_zero, List.setIfInBounds_toArray, List.set])
        refine wpAnyH_take (i := 8) (v := .pointer (some ⟨b', off' + k * 39, none⟩)) rfl (by kernel_rfl) (by kernel_rfl) (by kernel_rfl) (fun _ _ _ h => h) (Or.inl ⟨by rfl, fun w' hS' => by clear hS'; go_simp⟩) RD ?_
        (try simp only [Act.put, List.getElem_toArray, List.getElem_cons_succ, List.getElem_cons_zero, List.setIfInBounds_toArray, List.set])
        refine wpAnyH_take (i := 9) (v := .agg ((Cf.pvc ⟨pn, qta, ptags, qtc, ph, pl, plk, pra, pgr, ppsk⟩).toArray)) rfl (by kernel_rfl) (by kernel_rfl) (by kernel_rfl) (fun _ _ _ h => h) (yieldsIf_load_mid rfl _ _ rfl b' (off' + k * 39) rfl (Cf.pvc ⟨pn, qta, ptags, qtc, ph, pl, plk, pra, pgr, ppsk⟩) _ (fun w' hS' => hS'.2.2.2) Tryz.underlying50 rfl (rpc_info HPL.out.2)) RD ?_
        (try simp only [Act.put, List.getElem_toArray, List.getElem_cons_succ, List.getElem_cons_zero, List.setIfInBounds_toArray, List.set])
        refine wpAnyH_ready (rs := [10, 11]) (by kernel_rfl) (by simp) ?_
        refine ar_alloc18 (by first | (simp only [List.getElem?_toArray, List.getElem?_cons_succ, List.getElem?_cons_zero]; done) | (simp only [List.getElem?_toArray, List.getElem?_cons_succ, List.getElem?_cons_zero]; rfl)) (by rfl) 72 (by rfl) Cf.zport zport_is ?br10 ?more1
        case br10 =>
          have ha1 : Below wd.heap.size wd (wd.alloc (.cells Cf.zport 72)) := (Below.refl _ _).alloc (Nat.le_refl _) _
          refine ⟨RD.after ha1, ?_⟩
          (try simp only [Act.put, List.getElem_toArray, List.getElem_cons_succ, List.getElem_cons_zero, List.setIfInBounds_toArray, List.set])
          refine wpAnyH_ready (rs := [11]) (by kernel_rfl) (by simp) ?_
          refine ar_alloc18 (by first | (simp only [List.getElem?_toArray, List.getElem?_cons_succ, List.getElem?_cons_zero]; done) | (simp only [List.getElem?_toArray, List.getElem?_cons_succ, List.getElem?_cons_zero]; rfl)) (by rfl) 50 (by rfl) Cf.zport rzport_is ?_ AllReadyH.nil
          have ha2 : Below wd.heap.size wd ((wd.alloc (.cells Cf.zport 72)).alloc (.cells Cf.zport 50)) := ha1.alloc (by simp) _
          refine ⟨RD.after ha2, ?_⟩
          (try simp only [Act.put, List.getElem_toArray, List.getElem_cons_succ, List.getElem_cons_zero, List.setIfInBounds_toArray, List.set])
          simp only [World.size_alloc]
          have r1 : RowIs ((wd.alloc (.cells Cf.zport 72)).alloc (.cells Cf.zport 50)) wd.heap.size 72 Cf.zport := by show RowIs _ _ _ _; exact (rowIs_new wd _ _).alloc _
          have r2 : RowIs ((wd.alloc (.cells Cf.zport 72)).alloc (.cells Cf.zport 50)) (wd.heap.size + 1) 50 Cf.zport := rowIs_new1 wd _ _ _
          have hz2 : ((wd.alloc (.cells Cf.zport 72)).alloc (.cells Cf.zport 50)).heap.size = wd.heap.size + 2 := by simp
          generalize ((wd.alloc (.cells Cf.zport 72)).alloc (.cells Cf.zport 50)) = we at *
          have ha3 := below_setRow (B := wd.heap.size) ha2 (show wd.heap.size ≤ wd.heap.size by omega) ((Cf.pvc ⟨pn, pta, ptags, ptc, ph, pl, plk, pra, pgr, ppsk⟩).toArray)
          have s6 : RowIs (we.setRow wd.heap.size ((Cf.pvc ⟨pn, pta, ptags, ptc, ph, pl, plk, pra, pgr, ppsk⟩).toArray)) wd.heap.size 72 ((Cf.pvc ⟨pn, pta, ptags, ptc, ph, pl, plk, pra, pgr, ppsk⟩).toArray) := setRow_heap _ _ _ _ _ (0, 0) r1
          have s7 : RowIs (we.setRow wd.heap.size ((Cf.pvc ⟨pn, pta, ptags, ptc, ph, pl, plk, pra, pgr, ppsk⟩).toArray)) (wd.heap.size + 1) 50 Cf.zport := (setRow_other _ wd.heap.size (wd.heap.size + 1) _ (by omega)).trans r2
          refine wpAnyH_ready (rs := [12]) (by kernel_rfl) (by simp) ?_
          refine AllReadyH.cons (by first | (simp only [List.getElem?_toArray, List.getElem?_cons_succ, List.getElem?_cons_zero]; done) | (simp only [List.getElem?_toArray, List.getElem?_cons_succ, List.getElem?_cons_zero]; rfl)) (fun K hK => ?_) AllReadyH.nil
          rw [if_pos (by rfl)]
          refine wp_store_row 72 _ _ rfl wd.heap.size ((Cf.pvc ⟨pn, pta, ptags, ptc, ph, pl, plk, pra, pgr, ppsk⟩).toArray) rfl rfl 72 Cf.zport r1 (pc_info HPL.out.2) (by rw [Cf.rz_is]; simp [Cf.pvc, byteVals_length, HPL.out.2, Cf.zeros]) (Cf.pvc_one _) ?_
          refine hK.out _ _ (RD.after ha3) (fun _ => ?_)
          clear hK K
          (try simp only [Act.put, List.getElem_toArray, List.getElem_cons_succ, List.getElem_cons_zero, List.setIfInBounds_toArray, List.set])
          have ha4 := below_setRow (B := wd.heap.size) ha3 (show wd.heap.size ≤ (wd.heap.size + 1) by omega) ((Cf.pvc ⟨pn, qta, ptags, qtc, ph, pl, plk, pra, pgr, ppsk⟩).toArray)
          have s72 : RowIs ((we.setRow wd.heap.size ((Cf.pvc ⟨pn, pta, ptags, ptc, ph, pl, plk, pra, pgr, ppsk⟩).toArray)).setRow (wd.heap.size + 1) ((Cf.pvc ⟨pn, qta, ptags, qtc, ph, pl, plk, pra, pgr, ppsk⟩).toArray)) (wd.heap.size + 1) 50 ((Cf.pvc ⟨pn, qta, ptags, qtc, ph, pl, plk, pra, pgr, ppsk⟩).toArray) := setRow_heap _ _ _ _ _ (0, 0) s7
          have s62 : RowIs ((we.setRow wd.heap.size ((Cf.pvc ⟨pn, pta, ptags, ptc, ph, pl, plk, pra, pgr, ppsk⟩).toArray)).setRow (wd.heap.size + 1) ((Cf.pvc ⟨pn, qta, ptags, qtc, ph, pl, plk, pra, pgr, ppsk⟩).toArray)) wd.heap.size 72 ((Cf.pvc ⟨pn, pta, ptags, ptc, ph, pl, plk, pra, pgr, ppsk⟩).toArray) := (setRow_other _ (wd.heap.size + 1) wd.heap.size _ (by omega)).trans s6
          refine wpAnyH_ready (rs := [13]) (by kernel_rfl) (by simp) ?_
          refine AllReadyH.cons (by first | (simp only [List.getElem?_toArray, List.getElem?_cons_succ, List.getElem?_cons_zero]; done) | (simp only [List.getElem?_toArray, List.getElem?_cons_succ, List.getElem?_cons_zero]; rfl)) (fun K hK => ?_) AllReadyH.nil
          rw [if_pos (by rfl)]
          refine wp_store_row 50 _ _ rfl (wd.heap.size + 1) ((Cf.pvc ⟨pn, qta, ptags, qtc, ph, pl, plk, pra, pgr, ppsk⟩).toArray) rfl rfl 50 Cf.zport s7 (rpc_info HPL.out.2) (by rw [Cf.rz_is]; simp [Cf.pvc, byteVals_length, HPL.out.2, Cf.zeros]) (Cf.pvc_one _) ?_
          refine hK.out _ _ (RD.after ha4) (fun _ => ?_)
          clear hK K
          (try simp only [Act.put, List.getElem_toArray, List.getElem_cons_succ, List.getElem_cons_zero, List.setIfInBounds_toArray, List.set])
          refine wpAnyH_done (by kernel_rfl) ?_ _
          (try simp only [Act.put, List.getElem_toArray, List.getElem_cons_succ, List.getElem_cons_zero, List.setIfInBounds_toArray, List.set])
          try (go_wp2_with fail)
          go_meet
          exact ⟨wd.heap.size, (wd.heap.size + 1), rfl, rfl, s62, s72, hbd.trans (ha4.mono hbd.size)⟩
        case more1 =>
          refine ar_alloc18 (by first | (simp only [List.getElem?_toArray, List.getElem?_cons_succ, List.getElem?_cons_zero]; done) | (simp only [List.getElem?_toArray, List.getElem?_cons_succ, List.getElem?_cons_zero]; rfl)) (by rfl) 50 (by rfl) Cf.zport rzport_is ?br11 AllReadyH.nil
          case br11 =>
            have ha1 : Below wd.heap.size wd (wd.alloc (.cells Cf.zport 50)) := (Below.refl _ _).alloc (Nat.le_refl _) _
            refine ⟨RD.after ha1, ?_⟩
            (try simp only [Act.put, List.getElem_toArray, List.getElem_cons_succ, List.getElem_cons_zero, List.setIfInBounds_toArray, List.set])
            refine wpAnyH_ready (rs := [10]) (by kernel_rfl) (by simp) ?_
            refine ar_alloc18 (by first | (simp only [List.getElem?_toArray, List.getElem?_cons_succ, List.getElem?_cons_zero]; done) | (simp only [List.getElem?_toArray, List.getElem?_cons_succ, List.getElem?_cons_zero]; rfl)) (by rfl) 72 (by rfl) Cf.zport zport_is ?_ AllReadyH.nil
            have ha2 : Below wd.heap.size wd ((wd.alloc (.cells Cf.zport 50)).alloc (.cells Cf.zport 72)) := ha1.alloc (by simp) _
            refine ⟨RD.after ha2, ?_⟩
            (try simp only [Act.put, List.getElem_toArray, List.getElem_cons_succ, List.getElem_cons_zero, List.setIfInBounds_toArray, List.set])
            simp only [World.size_alloc]
            have r1 : RowIs ((wd.alloc (.cells Cf.zport 50)).alloc (.cells Cf.zport 72)) wd.heap.size 50 Cf.zport := by show RowIs _ _ _ _; exact (rowIs_new wd _ _).alloc _
            have r2 : RowIs ((wd.alloc (.cells Cf.zport 50)).alloc (.cells Cf.zport 72)) (wd.heap.size + 1) 72 Cf.zport := rowIs_new1 wd _ _ _
            have hz2 : ((wd.alloc (.cells Cf.zport 50)).alloc (.cells Cf.zport 72)).heap.size = wd.heap.size + 2 := by simp
            generalize ((wd.alloc (.cells Cf.zport 50)).alloc (.cells Cf.zport 72)) = we at *
            have ha3 := below_setRow (B := wd.heap.size) ha2 (show wd.heap.size ≤ (wd.heap.size + 1) by omega) ((Cf.pvc ⟨pn, pta, ptags, ptc, ph, pl, plk, pra, pgr, ppsk⟩).toArray)
            have s6 : RowIs (we.setRow (wd.heap.size + 1) ((Cf.pvc ⟨pn, pta, ptags, ptc, ph, pl, plk, pra, pgr, ppsk⟩).toArray)) (wd.heap.size + 1) 72 ((Cf.pvc ⟨pn, pta, ptags, ptc, ph, pl, plk, pra, pgr, ppsk⟩).toArray) := setRow_heap _ _ _ _ _ (0, 0) r2
            have s7 : RowIs (we.setRow (wd.heap.size + 1) ((Cf.pvc ⟨pn, pta, ptags, ptc, ph, pl, plk, pra, pgr, ppsk⟩).toArray)) wd.heap.size 50 Cf.zport := (setRow_other _ (wd.heap.size + 1) wd.heap.size _ (by omega)).trans r1
            refine wpAnyH_ready (rs := [12]) (by kernel_rfl) (by simp) ?_
            refine AllReadyH.cons (by first | (simp only [List.getElem?_toArray, List.getElem?_cons_succ, List.getElem?_cons_zero]; done) | (simp only [List.getElem?_toArray, List.getElem?_cons_succ, List.getElem?_cons_zero]; rfl)) (fun K hK => ?_) AllReadyH.nil
            rw [if_pos (by rfl)]
            refine wp_store_row 72 _ _ rfl (wd.heap.size + 1) ((Cf.pvc ⟨pn, pta, ptags, ptc, ph, pl, plk, pra, pgr, ppsk⟩).toArray) rfl rfl 72 Cf.zport r2 (pc_info HPL.out.2) (by rw [Cf.rz_is]; simp [Cf.pvc, byteVals_length, HPL.out.2, Cf.zeros]) (Cf.pvc_one _) ?_
            refine hK.out _ _ (RD.after ha3) (fun _ => ?_)
            clear hK K
            (try simp only [Act.put, List.getElem_toArray, List.getElem_cons_succ, List.getElem_cons_zero, List.setIfInBounds_toArray, List.set])
            have ha4 := below_setRow (B := wd.heap.size) ha3 (show wd.heap.size ≤ wd.heap.size by omega) ((Cf.pvc ⟨pn, qta, ptags, qtc, ph, pl, plk, pra, pgr, ppsk⟩).toArray)
            have s72 : RowIs ((we.setRow (wd.heap.size + 1) ((Cf.pvc ⟨pn, pta, ptags, ptc, ph, pl, plk, pra, pgr, ppsk⟩).toArray)).setRow wd.heap.size ((Cf.pvc ⟨pn, qta, ptags, qtc, ph, pl, plk, pra, pgr, ppsk⟩).toArray)) wd.heap.size 50 ((Cf.pvc ⟨pn, qta, ptags, qtc, ph, pl, plk, pra, pgr, ppsk⟩).toArray) := setRow_heap _ _ _ _ _ (0, 0) s7
            have s62 : RowIs ((we.setRow (wd.heap.size + 1) ((Cf.pvc ⟨pn, pta, ptags, ptc, ph, pl, plk, pra, pgr, ppsk⟩).toArray)).setRow wd.heap.size ((Cf.pvc ⟨pn, qta, ptags, qtc, ph, pl, plk, pra, pgr, ppsk⟩).toArray)) (wd.heap.size + 1) 72 ((Cf.pvc ⟨pn, pta, ptags, ptc, ph, pl, plk, pra, pgr, ppsk⟩).toArray) := (setRow_other _ wd.heap.size (wd.heap.size + 1) _ (by omega)).trans s6
            refine wpAnyH_ready (rs := [13]) (by kernel_rfl) (by simp) ?_
            refine AllReadyH.cons (by first | (simp only [List.getElem?_toArray, List.getElem?_cons_succ, List.getElem?_cons_zero]; done) | (simp only [List.getElem?_toArray, List.getElem?_cons_succ, List.getElem?_cons_zero]; rfl)) (fun K hK => ?_) AllReadyH.nil
            rw [if_pos (by rfl)]
            refine wp_store_row 50 _ _ rfl wd.heap.size ((Cf.pvc ⟨pn, qta, ptags, qtc, ph, pl, plk, pra, pgr, ppsk⟩).toArray) rfl rfl 50 Cf.zport s7 (rpc_info HPL.out.2) (by rw [Cf.rz_is]; simp [Cf.pvc, byteVals_length, HPL.out.2, Cf.zeros]) (Cf.pvc_one _) ?_
            refine hK.out _ _ (RD.after ha4) (fun _ => ?_)
            clear hK K
            (try simp only [Act.put, List.getElem_toArray, List.getElem_cons_succ, List.getElem_cons_zero, List.setIfInBounds_toArray, List.set])
            refine wpAnyH_done (by kernel_rfl) ?_ _
            (try simp only [Act.put, List.getElem_toArray, List.getElem_cons_succ, List.getElem_cons_zero, List.setIfInBounds_toArray, List.set])
            try (go_wp2_with fail)
            go_meet
            exact ⟨(wd.heap.size + 1), wd.heap.size, rfl, rfl, s62, s72, hbd.trans (ha4.mono hbd.size)⟩
      case rest =>
        obtain ⟨b6, b7, rfl, rfl, h6, h7, hb⟩ := hcut
        rename World => w3
        have HA3 := Lib.hid (HA.out.kept hb)
        have HB3 := Lib.hid (HB.out.kept hb)
        have HBR3 := Lib.hid (HBR.out.trans (hb.mono (by omega)))
        have hz3 : w.heap.size + 2 ≤ w3.heap.size := Nat.le_trans hzr hb.size
        have R6 := Lib.hid h6
        have R7 := Lib.hid h7
        have hi1 := HIN.out.1.after hb
        have hi2 := HIN'.out.1.after hb
        have HI1 := Lib.hid hi1
        have HI2 := Lib.hid hi2
        have htl := HIN.out.2.1
        clear hi1 hi2 HIN HIN' HA HB HBR hb h6 h7 RD0 a12 q12
        have e0 : w3.cell? ⟨b6, 0, none⟩ = some (.int .i64 pn) := R6.out.cell 0
        have e1 : w3.cell? ⟨b6, 1, none⟩ = some (.slice pta ptags.length ptc) := R6.out.cell 1
        have e2 : w3.cell? ⟨b6, 2, none⟩ = some (.int .i64 ph) := R6.out.cell 2
        have e3 : w3.cell? ⟨b6, 3, none⟩ = some (.int .i64 pl) := R6.out.cell 3
        have e4 : w3.cell? ⟨b6, 4, none⟩ = some (.bool plk) := R6.out.cell 4
        have e5 : w3.cell? ⟨b6, 5, none⟩ = some (.int .i64 pra) := R6.out.cell 5
        have e6 : w3.cell? ⟨b6, 6, none⟩ = some (.bool pgr) := R6.out.cell 6
        have f0 : w3.cell? ⟨b7, 0, none⟩ = some (.int .i64 pn) := R7.out.cell 0
        have f1 : w3.cell? ⟨b7, 1, none⟩ = some (.slice qta ptags.length qtc) := R7.out.cell 1
        have f2 : w3.cell? ⟨b7, 2, none⟩ = some (.int .i64 ph) := R7.out.cell 2
        have f3 : w3.cell? ⟨b7, 3, none⟩ = some (.int .i64 pl) := R7.out.cell 3
        have f4 : w3.cell? ⟨b7, 4, none⟩ = some (.bool plk) := R7.out.cell 4
        have f5 : w3.cell? ⟨b7, 5, none⟩ = some (.int .i64 pra) := R7.out.cell 5
        have f6 : w3.cell? ⟨b7, 6, none⟩ = some (.bool pgr) := R7.out.cell 6
        have hk := run_equalIn_bytes 9998 32 Tryz.underlying70 ppsk ppsk HPL.out.2 HPL.out.2
        rw [show eqB ppsk ppsk = true from eqB_true.2 rfl] at hk
        go_upto_region 9 with (first
          | ((with_reducible refine at_load 70 (.tmp 79) ?_); refine wpList_load_part rfl 70 (.tmp 79) rfl b6 7 rfl 72 _ R6.out (byteVals ppsk) (by show (byteVals ppsk).take (byteVals ppsk).length = _; exact List.take_length) _ Tryz.underlying70 rfl (by rw [byteVals_length, HPL.out.2]; kernel_rfl) ?_)
          | ((with_reducible refine at_load 48 (.tmp 81) ?_); refine wpList_load_part rfl 48 (.tmp 81) rfl b7 7 rfl 50 _ R7.out (byteVals ppsk) (by show (byteVals ppsk).take (byteVals ppsk).length = _; exact List.take_length) _ Tryz.underlying48 rfl (by rw [byteVals_length, HPL.out.2]; kernel_rfl) ?_))
        clear e0 e2 e3 e4 e5 e6 f0 f2 f3 f4 f5 f6 hk
        have hb6 := R6.out.lt
        have hb7 := R7.out.lt
        have HP1 := Lib.hid (fun j (hj : j < ptags.length) => Cf.intsAt_at HI1.out hj)
        have HP2 := Lib.hid (fun j (hj : j < ptags.length) => Cf.intsAt_at HI2.out hj)
        clear R6 R7 HI1 HI2 HPL
        go_upto_region 10 with fail
        go_loopw [8] (fun i wy => ∃ j : Nat, j ≤ ptags.length ∧ i = .int .i64 j ∧ Hid (Below w3.heap.size w3 wy)) (fun i _ => ptags.length - (RowKit.intOf i).toNat)
        case atStart => exact ⟨0, Nat.zero_le _, rfl, Below.refl _ _⟩
        case round =>
          rename World => wy
          obtain ⟨j, hj, rfl, HBY⟩ := hrel
          have e1 := (HBY.out.cell (p := ⟨b6, 1, none⟩) hb6).trans e1
          have f1 := (HBY.out.cell (p := ⟨b7, 1, none⟩) hb7).trans f1
          by_cases hjl : j < ptags.length
          · obtain ⟨t1, o1, rfl, ht1⟩ := HP1.out j hjl
            obtain ⟨t2, o2, rfl, ht2⟩ := HP2.out j hjl
            have g1 := (HBY.out.cell (p := ⟨t1, o1 + j, none⟩) (block_lt_of_cell ht1)).trans ht1
            have g2 := (HBY.out.cell (p := ⟨t2, o2 + j, none⟩) (block_lt_of_cell ht2)).trans ht2
            generalize ptags.getD j 0 = z at *
            have k1 := cell_regrown e1
            have k2 := cell_regrown f1
            have k3 := cell_regrown g1
            have k4 := cell_regrown g2
            have hne : (z != z) = false := bne_self_eq_false _
            go_upto_region 12 with fail
            refine wp_region_quiet_below (by kernel_rfl) (by kernel_rfl) ?_
            repeat (quiet_step (fail))
            refine wpQuiet_nil ?_
            intro _ hw'
            obtain ⟨⟨dq, osq⟩, hw''⟩ := hw'
            subst hw''
            have hbq := below_regrown wy dq osq
            have HBY2 := Lib.hid (HBY.out.trans (hbq.mono HBY.out.size))
            clear hbq k1 k2 k3 k4 g1 g2 ht1 ht2
            generalize grow (redrawn wy dq) osq = wz at *
            go_wp2_with fail
            exact ⟨⟨j + 1, by omega, by go_num, HBY2⟩, by simp [RowKit.intOf]; omega⟩
          · obtain rfl : j = ptags.length := by omega
            have HA4 := Lib.hid (HA3.out.kept HBY.out)
            have HB4 := Lib.hid (HB3.out.kept HBY.out)
            have HBR4 := Lib.hid (HBR3.out.trans (HBY.out.mono (by omega)))
            have hz4 : w.heap.size + 2 ≤ wy.heap.size := Nat.le_trans hz3 HBY.out.size
            clear HA3 HB3 HBR3 HBY
            go_wp2_with fail
            exact ⟨⟨k + 1, by omega, by go_num, HA4, HB4, HBR4, hz4⟩, by simp [RowKit.intOf]; omega⟩
    · obtain rfl : k = L.length := by omega
      have hbF := HBR.out
      go_wp2_with fail
      go_ret
      exact ⟨rfl, hbF⟩
end Go.Proofs.YthfckdnennfnoaaGreatDoor
