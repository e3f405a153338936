/- conf.Right. By an AI agent. -/
import Derived.Test.YthfckdnennfnoaaGreatDoorConfD
import Derived.Test.YthfckdnennfnoaaGreatDoorConfSpan
namespace Go.Proofs.YthfckdnennfnoaaGreatDoor
open Go.RowKit Go.WideShapes Go.Sort Grow
theorem flat_getC {α : Type} {enc : α → List Value} {k : Nat} (hk : ∀ a, (enc a).length = k) : ∀ (ds : List α) (i j : Nat) (hi : i < ds.length), j < k → (ds.flatMap enc)[i * k + j]? = (enc ds[i])[j]?
  | [], i, j, hi, _ => absurd hi (Nat.not_lt_zero _)
  | d :: ds, 0, j, _, hj => by
    rw [List.flatMap_cons, Nat.zero_mul, Nat.zero_add, List.getElem?_append_left (by rw [hk]; exact hj)]
    rfl
  | d :: ds, i + 1, j, hi, hj => by
    have e : (i + 1) * k + j = (enc d).length + (i * k + j) := by rw [hk, Nat.succ_mul]; omega
    rw [List.flatMap_cons, e, List.getElem?_append_right (by omega), Nat.add_sub_cancel_left, flat_getC hk ds i j (by simpa using hi) hj]
    rfl

namespace Cf
/-- a port of a configuration, as memory has it -/
structure Pv where
  nat : Int
  ta : Option Addr
  tags : List Int
  tc : Nat
  ho : Int
  li : Int
  link : Bool
  rate : Int
  greets : Bool
  psk : List UInt8
def Pv.zero : Pv := ⟨0, none, [], 0, 0, 0, false, 0, false, []⟩
def Pv.rv (p : Pv) : Rv := ⟨p.nat, p.ta, p.tags, p.tc, p.ho, p.li⟩
def pvc (p : Pv) : List Value := .int .i64 p.nat :: .slice p.ta p.tags.length p.tc :: .int .i64 p.ho :: .int .i64 p.li :: .bool p.link :: .int .i64 p.rate :: .bool p.greets :: byteVals p.psk
def Pv.ok (p : Pv) : Bool := portOk p.link p.rate p.greets p.psk
def confOk (L : List Pv) (ag ma he de : Int) : Bool := L.all Pv.ok && (relayOk (L.map Pv.rv) ag && SpN.rightT ma he de)
/-- ports in a slice -/
def PIn (w : World) (b off : Nat) (L : List Pv) : Prop := (∀ i, i < L.length → ∀ j v, (pvc (L.getD i .zero))[j]? = some v → w.cell? ⟨b, off + i * 39 + j, none⟩ = some v) ∧ (0 < L.length → b < w.heap.size) ∧ (∀ p ∈ L, IntsAt w p.ta p.tags ∧ p.tags.length ≤ 1000000 ∧ p.psk.length = 32)
theorem PIn.after {w w' : World} {b off : Nat} {L : List Pv} (h : PIn w b off L) (hb : Below w.heap.size w w') : PIn w' b off L :=
  ⟨fun i hi j v hj => by rw [hb.cell (p := ⟨b, off + i * 39 + j, none⟩) (h.2.1 (by omega))]; exact h.1 i hi j v hj, fun h0 => Nat.lt_of_lt_of_le (h.2.1 h0) hb.size, fun p hp => ⟨(h.2.2 p hp).1.after hb, (h.2.2 p hp).2⟩⟩
theorem pv_next {L : List Pv} {k : Nat} (hk : k < L.length) (h : (L.take k).all Pv.ok = true) (hp : (L.getD k .zero).ok = true) : (L.take (k + 1)).all Pv.ok = true := by
  rw [List.take_succ_eq_append_getElem hk, List.all_append, h]
  rw [List.getD_eq_getElem?_getD, List.getElem?_eq_getElem hk, Option.getD_some] at hp
  simp [hp]
theorem pv_bad {L : List Pv} {k : Nat} (hk : k < L.length) (hp : (L.getD k .zero).ok = false) (ag ma he de : Int) : confOk L ag ma he de = false := by
  unfold confOk
  rw [List.getD_eq_getElem?_getD, List.getElem?_eq_getElem hk, Option.getD_some] at hp
  have : L.all Pv.ok = false := by
    rw [List.all_eq_false]
    exact ⟨L[k], List.getElem_mem hk, by rw [hp]; simp⟩
  rw [this]
  rfl
theorem pv_in {L : List Pv} {k : Nat} (hk : k < L.length) : L.getD k .zero ∈ L := by
  rw [List.getD_eq_getElem?_getD, List.getElem?_eq_getElem hk, Option.getD_some]
  exact List.getElem_mem hk
def rcs (L : List Pv) : List Value := L.flatMap fun p => rvc p.rv
theorem pvc_one (p : Pv) : (pvc p).toArray.all (·.oneCell') = true := pc_one rfl
theorem rcs_next {L : List Pv} {k : Nat} (hk : k < L.length) : rcs (L.take (k + 1)) = rcs (L.take k) ++ rvc (L.getD k .zero).rv := by
  unfold rcs
  rw [List.take_succ_eq_append_getElem hk, List.flatMap_append, List.flatMap_singleton, List.getD_eq_getElem?_getD, List.getElem?_eq_getElem hk]
  rfl
/-- what was gathered, as the relay takes it -/
theorem rin_of {w : World} {base : Nat} {v : Value} {L : List Pv} (h : w.ownsRow base 69 4 v L.length (rcs L)) (hL : ∀ p ∈ L, IntsAt w p.ta p.tags ∧ p.tags.length ≤ 1000000) : ∃ ao b off cap, v = .slice ao L.length cap ∧ (ao = some ⟨b, off, none⟩ ∨ L.map Pv.rv = []) ∧ RIn w b off (L.map Pv.rv) := by
  have hP : ∀ p ∈ L.map Pv.rv, IntsAt w p.ta p.tags ∧ p.tags.length ≤ 1000000 := fun p hp => by
    obtain ⟨q, hq, rfl⟩ := List.mem_map.1 hp
    exact hL q hq
  rcases h.2 with ⟨rfl, h0⟩ | ⟨g, cap, cur, rfl, hb, hc, _⟩
  · have hn : L = [] := List.length_eq_zero_iff.1 h0
    subst hn
    exact ⟨none, 0, 0, 0, rfl, .inr rfl, fun i hi => absurd hi (Nat.not_lt_zero _), fun h => absurd h (Nat.lt_irrefl _), fun p hp => (by cases hp)⟩
  · refine ⟨some ⟨g, 0, none⟩, g, 0, cap, rfl, .inl rfl, fun i hi j v hj => ?_, fun _ => (Array.getElem?_eq_some_iff.1 hc).1, hP⟩
    rw [List.length_map] at hi
    have hj4 : j < 4 := (List.getElem?_eq_some_iff.1 hj).1
    rw [World.ownsRow.cellAt h (0 + i * 4 + j) (by omega), Nat.zero_add]
    have e := flat_getC (enc := fun p : Pv => rvc p.rv) (k := 4) (fun _ => rfl) L i j hi hj4
    refine e.trans ?_
    rw [← hj]
    congr 2
    rw [List.getD_eq_getElem?_getD, List.getElem?_map, List.getElem?_eq_getElem hi]
    rfl
end Cf

theorem span_any (id : Id8) (ao : Option Addr) (cap : Nat) (ma he de : Int) (w : World) (h : IntsAt w ao [1]) :
    Calls Tryz.prog 29 #[.agg #[.int .u8 ((id.f 0).toNat : Int), .int .u8 ((id.f 1).toNat : Int), .int .u8 ((id.f 2).toNat : Int), .int .u8 ((id.f 3).toNat : Int), .int .u8 ((id.f 4).toNat : Int), .int .u8 ((id.f 5).toNat : Int), .int .u8 ((id.f 6).toNat : Int), .int .u8 ((id.f 7).toNat : Int)], .slice ao 1 cap, .agg #[.int .i64 ma, .int .i64 he, .int .i64 de]] w fun e w' => (∃ v, e = .returned (.tuple #[v, .int .i64 (if SpN.rightT ma he de then 0 else 1)])) ∧ Below w.heap.size w w' := by
  cases hr : SpN.rightT ma he de with
  | true => exact (SpN.new_good id ao [1] cap ma he de w h (by unfold SpN.newOk; rw [hr]; rfl)).mono fun e w' ⟨S, g, cp, pbs, he, _, hb⟩ => ⟨⟨_, he⟩, hb⟩
  | false => exact (SpN.new_bad id ao [1] cap ma he de w h (by decide) (by unfold SpN.newOk; rw [hr]; rfl)).mono fun e w' ⟨he, hb⟩ => ⟨⟨_, he⟩, hb⟩

set_option maxRecDepth 20000 in
set_option maxHeartbeats 8000000 in
theorem cright_any (id : Id8) (ma he de ag : Int) (b off cap : Nat) (L : List Cf.Pv) (w : World) (ao : Option Addr) (hao : ao = some ⟨b, off, none⟩ ∨ L = []) (hL : Cf.PIn w b off L) (hn : L.length ≤ 10000) :
    Calls Tryz.prog 12 #[.agg #[.int .u8 ((id.f 0).toNat : Int), .int .u8 ((id.f 1).toNat : Int), .int .u8 ((id.f 2).toNat : Int), .int .u8 ((id.f 3).toNat : Int), .int .u8 ((id.f 4).toNat : Int), .int .u8 ((id.f 5).toNat : Int), .int .u8 ((id.f 6).toNat : Int), .int .u8 ((id.f 7).toNat : Int), .int .i64 ma, .int .i64 he, .int .i64 de, .int .i64 ag, .slice ao L.length cap]] w fun e w' => e = .returned (.bool (Cf.confOk L ag ma he de)) ∧ Below w.heap.size w w' := by
  obtain ⟨ri, rz, hri, hrz, hr1, hr2, hr3⟩ := Cf.info_rport
  have HRI := Lib.hid hri
  have HRZ := Lib.hid hrz
  have HLL := Lib.hid hL
  clear hri hrz hL
  go_enter Tryz.func12, Tryz.ntmps12
  go_upto_region 1 with fail
  have HX : Hid (RowIs (w.alloc (.cells #[.int .u8 ((id.f 0).toNat : Int), .int .u8 ((id.f 1).toNat : Int), .int .u8 ((id.f 2).toNat : Int), .int .u8 ((id.f 3).toNat : Int), .int .u8 ((id.f 4).toNat : Int), .int .u8 ((id.f 5).toNat : Int), .int .u8 ((id.f 6).toNat : Int), .int .u8 ((id.f 7).toNat : Int), .int .i64 ma, .int .i64 he, .int .i64 de, .int .i64 ag, .slice ao L.length cap] 33)) w.heap.size 33 #[.int .u8 ((id.f 0).toNat : Int), .int .u8 ((id.f 1).toNat : Int), .int .u8 ((id.f 2).toNat : Int), .int .u8 ((id.f 3).toNat : Int), .int .u8 ((id.f 4).toNat : Int), .int .u8 ((id.f 5).toNat : Int), .int .u8 ((id.f 6).toNat : Int), .int .u8 ((id.f 7).toNat : Int), .int .i64 ma, .int .i64 he, .int .i64 de, .int .i64 ag, .slice ao L.length cap]) := by show RowIs _ _ _ _; exact rowIs_new w _ _
  have hbx : Below w.heap.size w (w.alloc (.cells #[.int .u8 ((id.f 0).toNat : Int), .int .u8 ((id.f 1).toNat : Int), .int .u8 ((id.f 2).toNat : Int), .int .u8 ((id.f 3).toNat : Int), .int .u8 ((id.f 4).toNat : Int), .int .u8 ((id.f 5).toNat : Int), .int .u8 ((id.f 6).toNat : Int), .int .u8 ((id.f 7).toNat : Int), .int .i64 ma, .int .i64 he, .int .i64 de, .int .i64 ag, .slice ao L.length cap] 33)) := (Below.refl _ _).alloc (Nat.le_refl _) _
  have hzx : (w.alloc (.cells #[.int .u8 ((id.f 0).toNat : Int), .int .u8 ((id.f 1).toNat : Int), .int .u8 ((id.f 2).toNat : Int), .int .u8 ((id.f 3).toNat : Int), .int .u8 ((id.f 4).toNat : Int), .int .u8 ((id.f 5).toNat : Int), .int .u8 ((id.f 6).toNat : Int), .int .u8 ((id.f 7).toNat : Int), .int .i64 ma, .int .i64 he, .int .i64 de, .int .i64 ag, .slice ao L.length cap] 33)).heap.size = w.heap.size + 1 := by simp
  generalize w.alloc (.cells #[.int .u8 ((id.f 0).toNat : Int), .int .u8 ((id.f 1).toNat : Int), .int .u8 ((id.f 2).toNat : Int), .int .u8 ((id.f 3).toNat : Int), .int .u8 ((id.f 4).toNat : Int), .int .u8 ((id.f 5).toNat : Int), .int .u8 ((id.f 6).toNat : Int), .int .u8 ((id.f 7).toNat : Int), .int .i64 ma, .int .i64 he, .int .i64 de, .int .i64 ag, .slice ao L.length cap] 33) = w1 at *
  have c12 : w1.cell? ⟨w.heap.size, 12, none⟩ = some (.slice ao L.length cap) := HX.out.cell 12
  go_upto_region 3 with fail
  clear c12
  go_loopw [3, 5, 13] (fun v3 _ i wr => ∃ k : Nat, k ≤ L.length ∧ i = .int .i64 k ∧ Hid (wr.ownsRow (w.heap.size + 1) 69 4 v3 k (Cf.rcs (L.take k))) ∧ Hid ((L.take k).all Cf.Pv.ok = true) ∧ Below (w.heap.size + 1) w1 wr) (fun _ _ i _ => L.length - (RowKit.intOf i).toNat)
  case atStart => exact ⟨0, Nat.zero_le _, rfl, World.ownsRow_nil _ _ _ _, rfl, Below.refl _ _⟩
  case round =>
    rename World => wr
    obtain ⟨k, hk, rfl, HO, HG, hbr⟩ := hrel
    have hszr := hbr.size
    have hsz1 : w.heap.size + 1 ≤ wr.heap.size := by omega
    have hbw : Below w.heap.size w wr := hbx.trans (hbr.mono (by omega))
    by_cases hlt : k < L.length
    · obtain rfl : ao = some ⟨b, off, none⟩ := hao.resolve_right (fun e => by rw [e] at hlt; exact absurd hlt (Nat.not_lt_zero _))
      have HLr := Lib.hid (HLL.out.after hbw)
      have hpin := Cf.pv_in hlt
      have HE := Lib.hid (HLr.out.1 k hlt)
      have HIN := Lib.hid (HLr.out.2.2 _ hpin)
      have HAN := Lib.hid (fun h2 => Cf.pv_next hlt HG.out h2)
      have HAB := Lib.hid (fun h2 => Cf.pv_bad hlt h2 ag ma he de)
      have HLN := Lib.hid (Cf.rcs_next hlt)
      obtain ⟨p, hp⟩ : ∃ p, L.getD k .zero = p := ⟨_, rfl⟩
      rw [hp] at HE HIN HAN HAB HLN
      clear hp hpin
      have hpl := HIN.out.2.2
      have HPL := Lib.hid hpl
      clear hpl
      go_upto_region 5 with (first | ((with_reducible refine at_load 72 (.tmp 15) ?_); refine wpList_load_at rfl 72 (.tmp 15) rfl b (off + k * 39) rfl (Cf.pvc p) HE.out _ Tryz.underlying72 rfl (pc_info HPL.out) ?_) | ((with_reducible refine at_alloc 72 ?_); refine wpList_alloc_port rfl 72 Cf.zport rfl zport_is ?_) | ((with_reducible refine at_store 72 (.tmp 5) (.tmp 16) ?_); refine wpList_store_own rfl 72 (.tmp 5) (.tmp 16) rfl wr.heap.size (Cf.pvc p).toArray rfl rfl 72 _ (rowIs_new wr _ _) (pc_info HPL.out) ?z1 (Cf.pvc_one p) w.heap.size (by omega) ?_))
      case z1 => simp [Cf.zport, Cf.pvc, byteVals_length, HPL.out, Cf.zeros]
      intro w2 hR hO hs hb
      have R5 := Lib.hid hR
      have hb2 : Below wr.heap.size wr w2 := ((Below.refl _ wr).alloc (Nat.le_refl _) _).trans ⟨hb.os, hb.tape, hb.output, by rw [hs]; simp, fun j hj => hO j (by omega)⟩
      have hbr2 := hbr.trans (hb2.mono hsz1)
      have HO2 := Lib.hid (owns_later HO.out hb2)
      have hzw2 : w2.heap.size = wr.heap.size + 1 := by simpa using hs
      clear hR hO hs hb HO HE HLr HIN hb2
      go_wp2_with ((with_reducible refine at_load 72 (.tmp 5) ?_); refine wpList_load_own rfl 72 (.tmp 5) rfl wr.heap.size rfl 72 _ _ R5.out Tryz.underlying72 rfl (pc_info HPL.out) ?_)
      refine (pright_any (.int .i64 p.nat) (.slice p.ta p.tags.length p.tc) (.int .i64 p.ho) (.int .i64 p.li) rfl p.link p.rate p.greets p.psk HPL.out _).mono ?_
      rintro e w3 ⟨rfl, hb3⟩
      have hbr3 := hbr2.trans (hb3.mono (by omega))
      have R6 := Lib.hid (R5.out.kept hb3)
      have HO3 := Lib.hid (owns_later HO2.out hb3)
      have hz3 := hb3.size
      clear HO2 R5 hb3 hbr hbr2 hbw
      have hbw3 : Below w.heap.size w w3 := hbx.trans (hbr3.mono (by omega))
      have hOK : p.ok = Cf.portOk p.link p.rate p.greets p.psk := rfl
      cases hv : Cf.portOk p.link p.rate p.greets p.psk with
      | false =>
        have HN := Lib.hid (HAB.out (hOK.trans hv))
        clear hOK hv
        go_wp2_with fail
        go_ret
        exact ⟨by rw [HN.out]; rfl, hbw3⟩
      | true =>
        have HAL := Lib.hid (HAN.out (hOK.trans hv))
        clear hOK hv
        go_wp2_with (first
          | ((with_reducible refine at_load 69 (.tmp 21) ?_); refine wpList_load_part rfl 69 (.tmp 21) rfl wr.heap.size 0 rfl 72 _ R6.out [.int .i64 p.nat, .slice p.ta p.tags.length p.tc, .int .i64 p.ho, .int .i64 p.li] rfl _ Tryz.underlying69 rfl (by kernel_rfl) ?_)
          | (at_builtin; refine wpList_append_own _ rfl (.tmp 20) (.tmp 23) 86 rfl (w.heap.size + 1) 69 ri rz 4 48 Tryz.underlying86 HRI.out HRZ.out hr1 hr2 hr3 (by decide) _ k _ rfl (World.ownsRow.alloc HO3.out _) ⟨w3.heap.size, 0, none⟩ 1 1 [.int .i64 p.nat, .slice p.ta p.tags.length p.tc, .int .i64 p.ho, .int .i64 p.li] rfl rfl (fun j u hj => by rw [addr_add, (rowIs_new w3 69 #[.int .i64 p.nat, .slice p.ta p.tags.length p.tc, .int .i64 p.ho, .int .i64 p.li]).cell j, ← Array.getElem?_toList]; exact hj) ?d2 ?d3 ?d4 ?d5 ?_))
        case d2 =>
          intro u hu
          simp at hu
          rcases hu with rfl | rfl | rfl | rfl <;> rfl
        case d3 => simp [maxLen]; omega
        case d4 => omega
        case d5 => have := hbr3.size; simp; omega
        intro v' w' ho hg _
        have HOUT : Hid (w'.ownsRow (w.heap.size + 1) 69 4 v' (k + 1) (Cf.rcs (L.take (k + 1)))) := by
          show World.ownsRow _ _ _ _ _ _ _
          rw [HLN.out]
          exact ho
        have hbq : Below (w.heap.size + 1) w1 w' := hbr3.trans (((Below.refl _ _).alloc (by have := hbr3.size; omega) _).grown hg (by have := hbr3.size; simp; omega) (fun k e => (HO3.out.lt k e).1))
        clear ho hg HO3
        go_wp2_with fail
        refine ⟨⟨k + 1, by omega, by go_num, HOUT, HAL, hbq⟩, by simp [RowKit.intOf]; omega⟩
    · obtain rfl : k = L.length := by omega
      rw [List.take_length] at HO HG
      have HXr := Lib.hid (HX.out.below hbr (by omega))
      have c11 : wr.cell? ⟨w.heap.size, 11, none⟩ = some (.int .i64 ag) := HXr.out.cell 11
      obtain ⟨ao2, b2, off2, cap2, rfl, hao2, hRI⟩ := Cf.rin_of HO.out (fun p hp => ⟨((HLL.out.2.2 p hp).1.after hbw), (HLL.out.2.2 p hp).2.1⟩)
      have hrc := relay_any b2 off2 cap2 (L.map Cf.Pv.rv) ag wr ao2 hao2 hRI (by rw [List.length_map]; exact hn)
      rw [List.length_map] at hrc
      have HRel := Lib.hid hrc
      clear hrc
      have HCO : Hid (Cf.confOk L ag ma he de = (Cf.relayOk (L.map Cf.Pv.rv) ag && SpN.rightT ma he de)) := by show _ = _; unfold Cf.confOk; rw [HG.out, Bool.true_and]
      clear hao2 hRI HO HG
      go_wp2_with fail
      refine HRel.out.mono ?_
      rintro e w4 ⟨hans, hb4⟩
      obtain ⟨v4, rfl⟩ := hans
      have HX4 := Lib.hid (HXr.out.kept hb4)
      have hbw4 := hbw.trans (hb4.mono (by have := hbw.size; omega))
      clear c11 HXr HRel hb4
      generalize hrel : Cf.relayOk (L.map Cf.Pv.rv) ag = rok at *
      clear hrel
      obtain ⟨sok, hsok⟩ : ∃ s, SpN.rightT ma he de = s := ⟨_, rfl⟩
      rw [hsok] at HCO
      have HSP := Lib.hid (fun ao cap w h => hsok ▸ span_any id ao cap ma he de w h)
      clear hsok
      cases rok <;> cases sok
      all_goals
        go_wp2_with (first
          | ((with_reducible refine at_load 28 (.tmp 34) ?_); refine wpList_load_part rfl 28 (.tmp 34) rfl w.heap.size 0 rfl 33 _ HX4.out [.int .u8 ((id.f 0).toNat : Int), .int .u8 ((id.f 1).toNat : Int), .int .u8 ((id.f 2).toNat : Int), .int .u8 ((id.f 3).toNat : Int), .int .u8 ((id.f 4).toNat : Int), .int .u8 ((id.f 5).toNat : Int), .int .u8 ((id.f 6).toNat : Int), .int .u8 ((id.f 7).toNat : Int)] rfl _ Tryz.underlying28 rfl (by kernel_rfl) ?_)
          | ((with_reducible refine at_load 30 (.tmp 37) ?_); refine wpList_load_part rfl 30 (.tmp 37) rfl w.heap.size 8 rfl 33 _ (HX4.out.alloc _) [.int .i64 ma, .int .i64 he, .int .i64 de] rfl _ Tryz.underlying30 rfl (by kernel_rfl) ?_))
        refine (HSP.out (some ⟨w4.heap.size, 0, none⟩) 1 _ (.inr ⟨_, 0, rfl, fun i hi => ?_⟩)).mono ?_
        · obtain rfl : i = 0 := by simpa using hi
          exact (rowIs_new w4 _ _).cell 0
        rintro e w5 ⟨⟨v5, rfl⟩, hb5⟩
        have hbw5 := (hbw4.alloc hbw4.size (.cells #[.int .i64 1] 3)).trans (hb5.mono (by have := hbw4.size; simp; omega))
        clear hb5
        go_wp2_with fail
        go_ret
        exact ⟨by rw [HCO.out]; rfl, hbw5⟩
end Go.Proofs.YthfckdnennfnoaaGreatDoor
