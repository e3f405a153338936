/- relay.New. By an AI agent. -/
import Derived.Test.YthfckdnennfnoaaGreatDoorConfC
import Derived.Test.YthfckdnennfnoaaGreatDoorVlan
import Derived.Test.YthfckdnennfnoaaGreatDoorLearnNew
import Derived.Test.YthfckdnennfnoaaGreatDoorConf4
import Derived.Test.YthfckdnennfnoaaGreatDoorBuildOne
import Derived.Deep.OwnRows
namespace Go.Proofs.YthfckdnennfnoaaGreatDoor
open Go.RowKit Go.WideShapes Go.Sort Grow

namespace Cf
/-- a port of a relay -/
structure Rv where
  nat : Int
  ta : Option Addr
  tags : List Int
  tc : Nat
  ho : Int
  li : Int
def rvc (p : Rv) : List Value := [.int .i64 p.nat, .slice p.ta p.tags.length p.tc, .int .i64 p.ho, .int .i64 p.li]
def rvOk (p : Rv) : Bool := Vlan.right p.nat p.tags && (decide (0 ≤ p.ho) && decide (p.ho ≤ 255))
def lims (L : List Rv) : List Int := L.map (·.li)
def relayOk (L : List Rv) (ag : Int) : Bool := L.all rvOk && (decide (1 ≤ ag) && (decide (ag ≤ 1000000) && (decide (L.length ≤ 32) && (!anyBad (lims L) && decide (1 ≤ L.length)))))
def RelAns (good : Bool) (e : Ending) : Prop := ∃ v, e = .returned (.tuple #[v, .int .i64 (if good then 0 else 1)])
theorem relAns_bad {good : Bool} {v : Value} (h : good = false) : RelAns good (.returned (.tuple #[v, .int .i64 1])) := by subst h; exact ⟨v, rfl⟩
theorem relAns_good {good : Bool} {v : Value} (h : good = true) : RelAns good (.returned (.tuple #[v, .int .i64 0])) := by subst h; exact ⟨v, rfl⟩
theorem info_rport : ∃ i z, Tryz.prog.info? 69 = some i ∧ i.zero = some z ∧ i.size = 4 ∧ i.bytes = 48 ∧ z.cells.size = 4 := by
  have h : (Tryz.prog.info? 69).map (fun i => (i.zero.map (·.cells.size), i.size, i.bytes)) = some (some 4, 4, 48) := by kernel_rfl
  obtain ⟨i, hi, h⟩ := Option.map_eq_some_iff.1 h
  simp only [Prod.mk.injEq] at h
  obtain ⟨z, hz, h18⟩ := Option.map_eq_some_iff.1 h.1
  exact ⟨i, z, hi, hz, h.2.1, h.2.2, h18⟩
theorem owns_block' {w : World} {base : Nat} {e : TypeId} {size n : Nat} {v : Value} {xs : List Value} (h : w.ownsRow base e size v n xs) {k : Nat} (hk : v.ownBlock = some k) : base ≤ k ∧ k < w.heap.size := by
  rcases h.2 with ⟨rfl, _⟩ | ⟨g, cap, cur, rfl, hb, hc, _⟩
  · simp [Value.ownBlock] at hk
  · obtain rfl : g = k := by simpa [Value.ownBlock] using hk
    exact ⟨hb, (Array.getElem?_eq_some_iff.1 hc).1⟩
theorem owns_above {w w' : World} {base X : Nat} {e : TypeId} {size n : Nat} {v : Value} {xs : List Value} (h : w.ownsRow base e size v n xs) (hO : ∀ j, j ≠ X → w'.heap[j]? = w.heap[j]?) (hne : ∀ k, v.ownBlock = some k → k ≠ X) : w'.ownsRow base e size v n xs := by
  refine ⟨h.1, ?_⟩
  rcases h.2 with h | ⟨g, cap, cur, hv, hb, hc, h⟩
  · exact .inl h
  · exact .inr ⟨g, cap, cur, hv, hb, (hO g (hne g (by rw [hv]; rfl))).trans hc, h⟩
theorem owns_one' {w : World} {base : Nat} {e : TypeId} {size n : Nat} {v : Value} {xs : List Value} (h : w.ownsRow base e size v n xs) : v.oneCell' = true := by
  rcases h.2 with ⟨rfl, _⟩ | ⟨g, cap, cur, rfl, _⟩ <;> rfl
/-- ports in a slice -/
def RIn (w : World) (b off : Nat) (L : List Rv) : Prop := (∀ i, i < L.length → ∀ j v, (rvc (L.getD i ⟨0, none, [], 0, 0, 0⟩))[j]? = some v → w.cell? ⟨b, off + i * 4 + j, none⟩ = some v) ∧ (0 < L.length → b < w.heap.size) ∧ (∀ p ∈ L, IntsAt w p.ta p.tags ∧ p.tags.length ≤ 1000000)
theorem RIn.after {w w' : World} {b off : Nat} {L : List Rv} (h : RIn w b off L) (hb : Below w.heap.size w w') : RIn w' b off L :=
  ⟨fun i hi j v hj => by rw [hb.cell (p := ⟨b, off + i * 4 + j, none⟩) (h.2.1 (by omega))]; exact h.1 i hi j v hj, fun h0 => Nat.lt_of_lt_of_le (h.2.1 h0) hb.size, fun p hp => ⟨(h.2.2 p hp).1.after hb, (h.2.2 p hp).2⟩⟩
theorem all_next {L : List Rv} {k : Nat} (hk : k < L.length) (h : (L.take k).all rvOk = true) (hp : rvOk (L.getD k ⟨0, none, [], 0, 0, 0⟩) = true) : (L.take (k + 1)).all rvOk = true := by
  rw [List.take_succ_eq_append_getElem hk, List.all_append, h]
  rw [List.getD_eq_getElem?_getD, List.getElem?_eq_getElem hk, Option.getD_some] at hp
  simp [hp]
theorem all_bad {L : List Rv} {k : Nat} (hk : k < L.length) (hp : rvOk (L.getD k ⟨0, none, [], 0, 0, 0⟩) = false) (ag : Int) : relayOk L ag = false := by
  unfold relayOk
  rw [List.getD_eq_getElem?_getD, List.getElem?_eq_getElem hk, Option.getD_some] at hp
  have : L.all rvOk = false := by
    rw [List.all_eq_false]
    exact ⟨L[k], List.getElem_mem hk, by rw [hp]; simp⟩
  rw [this]
  rfl
theorem lims_next {L : List Rv} {k : Nat} (hk : k < L.length) : lims (L.take (k + 1)) = lims (L.take k) ++ [(L.getD k ⟨0, none, [], 0, 0, 0⟩).li] := by
  unfold lims
  rw [List.take_succ_eq_append_getElem hk, List.map_append, List.getD_eq_getElem?_getD, List.getElem?_eq_getElem hk]
  rfl
theorem getD_in {L : List Rv} {k : Nat} (hk : k < L.length) : L.getD k ⟨0, none, [], 0, 0, 0⟩ ∈ L := by
  rw [List.getD_eq_getElem?_getD, List.getElem?_eq_getElem hk, Option.getD_some]
  exact List.getElem_mem hk
end Cf
theorem outInts_form {w : World} {base : Nat} {v : Value} {zs : List Int} (h : OutInts w base v zs) : ∃ ao cap, v = .slice ao zs.length cap ∧ IntsAt w ao zs := by
  rcases h.2 with ⟨rfl, h0⟩ | ⟨g, cap, cur, rfl, _⟩
  · rw [h0]
    exact ⟨none, 0, rfl, .inl (List.length_eq_zero_iff.1 h0)⟩
  · refine ⟨_, cap, rfl, .inr ⟨g, 0, rfl, fun i hi => ?_⟩⟩
    rw [Nat.zero_add, World.ownsRow.cellAt h i (by omega)]
    simp [List.getD, hi]

theorem hush_some (x : Int) (w : World) : Calls Tryz.prog 49 #[.int .i64 x] w fun e w' => (∃ v r, e = .returned (.tuple #[v, .int .i64 r])) ∧ Below w.heap.size w w' := (hush_any x w).mono fun e w' ⟨⟨v, h⟩, hb⟩ => ⟨⟨_, _, h⟩, hb⟩
theorem hush_ok (x : Int) (h : 1 ≤ x ∧ x ≤ 1000000) (w : World) : Calls Tryz.prog 49 #[.int .i64 x] w fun e w' => (∃ v, e = .returned (.tuple #[.pointer v, .int .i64 0])) ∧ Below w.heap.size w w' := (hush_any x w).mono fun e w' ⟨⟨v, h1⟩, hb⟩ => ⟨⟨v, by rw [h1, if_pos h]⟩, hb⟩
section
variable {P : Program}
theorem step_load_row {o : Oper} {a : Act} {w : World} {ys : Nat → Option Bool} {K : Act → World → Prop} {Q : Exit → Act → World → Prop} {C : Prop} (hg : o.guard = none) (ty : TypeId) (x : Operand) (ho : o.op = .load ty x)
    (g : Nat) (hx : a.eval x = .pointer (some ⟨g, 0, none⟩)) (t : TypeId) (cs : Array Value) (d : TypeDesc) (hR : RowIs w g t cs)
    (hu : P.underlying ty = some d) (hd : (match d with | .struct _ | .array _ _ => true | _ => false) = true) (hi : (P.info? ty).map (·.size) = some cs.size)
    (h : K (a.put o.dst (.agg cs)) w) : if Region.wanted o ys = true then Oper.wp P o a w K Q else C := by
  rw [if_pos (by simp [Region.wanted, hg])]
  exact wp_load_row ty x ho g hx t cs (0, 0) d hR hu hd hi h
/-- a struct in a slice, loaded -/
theorem wpList_load_at {ops : Array Oper} {rest : List Oper} {op : Oper} {a : Act} {w : World} {Q : Exit → Act → World → Prop} (hgd : Region.wanted op (yielded ops a.tmps) = true) (ty : TypeId) (x : Operand) (ho : op.op = .load ty x)
    (b o : Nat) (hx : a.eval x = .pointer (some ⟨b, o, none⟩)) (cs : List Value) (hcs : ∀ j v, cs[j]? = some v → w.cell? ⟨b, o + j, none⟩ = some v) (d : TypeDesc)
    (hu : P.underlying ty = some d) (hd : d.isRow = true) (hi : (P.info? ty).map (·.size) = some cs.length)
    (h : wpList P ops Q rest (a.put op.dst (.agg cs.toArray)) w) : wpList P ops Q (op :: rest) a w :=
  BigFrame.wpList_want hgd fun _ hK => wp_load_mid ty x ho b o hx cs d hcs hu hd hi (hK _ _ h)
end

set_option maxRecDepth 20000 in
set_option maxHeartbeats 8000000 in
theorem relay_any (b off cap : Nat) (L : List Cf.Rv) (ag : Int) (w : World) (ao : Option Addr) (hao : ao = some ⟨b, off, none⟩ ∨ L = []) (hL : Cf.RIn w b off L) (hn : L.length ≤ 10000) :
    Calls Tryz.prog 28 #[.slice ao L.length cap, .int .i64 ag] w fun e w' => Cf.RelAns (Cf.relayOk L ag) e ∧ Below w.heap.size w w' := by
  obtain ⟨ti, tz, hi, hz, hz1, hz2, hz3⟩ := info_int
  have HI := Lib.hid hi
  have HZ := Lib.hid hz
  have HLL := Lib.hid hL
  clear hi hz hL
  go_enter Tryz.func28, Tryz.ntmps28
  go_upto_region 3 with fail
  go_loopw [6, 8, 18] (fun v6 _ i wr => ∃ k : Nat, k ≤ L.length ∧ i = .int .i64 k ∧ Hid (OutInts wr w.heap.size v6 (Cf.lims (L.take k))) ∧ Hid ((L.take k).all Cf.rvOk = true) ∧ Below w.heap.size w wr) (fun _ _ i _ => L.length - (RowKit.intOf i).toNat)
  case atStart => exact ⟨0, Nat.zero_le _, rfl, outInts_nil _ _, rfl, Below.refl _ _⟩
  case round =>
    rename_i wr
    obtain ⟨k, hk, rfl, HO, HG, hbr⟩ := hrel
    have hszr := hbr.size
    by_cases hlt : k < L.length
    · obtain rfl : ao = some ⟨b, off, none⟩ := hao.resolve_right (fun e => by rw [e] at hlt; exact absurd hlt (Nat.not_lt_zero _))
      have HLr := Lib.hid (HLL.out.after hbr)
      have hpin := Cf.getD_in hlt
      have HE := Lib.hid (HLr.out.1 k hlt)
      have HIN := Lib.hid (HLr.out.2.2 _ hpin)
      have HAN := Lib.hid (fun h2 => Cf.all_next hlt HG.out h2)
      have HAB := Lib.hid (fun h2 => Cf.all_bad hlt h2 ag)
      have HLN := Lib.hid (Cf.lims_next hlt)
      obtain ⟨p, hp⟩ : ∃ p, L.getD k ⟨0, none, [], 0, 0, 0⟩ = p := ⟨_, rfl⟩
      rw [hp] at HE HIN HAN HAB HLN
      clear hp hpin
      go_upto_region 5 with (first | ((with_reducible refine at_load 69 (.tmp 20) ?_); refine wpList_load_at rfl 69 (.tmp 20) rfl b (off + k * 4) rfl (Cf.rvc p) HE.out _ Tryz.underlying69 rfl (by kernel_rfl) ?_) | ((with_reducible refine at_store 69 (.tmp 8) (.tmp 21) ?_); refine wpList_store_own rfl 69 (.tmp 8) (.tmp 21) rfl wr.heap.size (Cf.rvc p).toArray rfl rfl 69 _ (rowIs_new wr _ _) (by kernel_rfl) rfl (by simp [Cf.rvc, Value.oneCell']) w.heap.size hszr ?_))
      intro w2 hR hO hs hb
      have R8 := Lib.hid hR
      have hb2 : Below wr.heap.size wr w2 := ((Below.refl _ wr).alloc (Nat.le_refl _) _).trans ⟨hb.os, hb.tape, hb.output, by rw [hs]; simp, fun j hj => hO j (by omega)⟩
      have hbr2 := hbr.trans (hb2.mono hszr)
      have HO2 := Lib.hid (HO.out.later hb2)
      have HV := Lib.hid (right_any p.nat p.ta p.tags p.tc w2 (HIN.out.1.after hb2) HIN.out.2)
      have hzw2 : w2.heap.size = wr.heap.size + 1 := by simpa using hs
      clear hR hO hs hb HO HE HLr HIN
      go_wp2_with ((with_reducible refine at_load 67 (.tmp 22) ?_); refine wpList_load_part rfl 67 (.tmp 22) rfl wr.heap.size 0 rfl 69 _ R8.out [.int .i64 p.nat, .slice p.ta p.tags.length p.tc] rfl _ Tryz.underlying67 rfl (by kernel_rfl) ?_)
      refine HV.out.mono ?_
      rintro e w3 ⟨rfl, hb3⟩
      have hbr3 := hbr2.trans (hb3.mono hbr2.size)
      have R8' := Lib.hid (R8.out.kept hb3)
      have HO3 := Lib.hid (HO2.out.later hb3)
      have hz3' : wr.heap.size < w3.heap.size := R8'.out.lt
      clear HO2 R8 HV hb3
      have c2 : w3.cell? ⟨wr.heap.size, 2, none⟩ = some (.int .i64 p.ho) := R8'.out.cell 2
      have c3 : w3.cell? ⟨wr.heap.size, 3, none⟩ = some (.int .i64 p.li) := R8'.out.cell 3
      have hOK : Cf.rvOk p = (Vlan.right p.nat p.tags && (decide (0 ≤ p.ho) && decide (p.ho ≤ 255))) := rfl
      cases hv : Vlan.right p.nat p.tags with
      | false =>
        have HN := Lib.hid (HAB.out (by rw [hOK, hv]; rfl))
        go_wp2_with fail
        go_ret2
        exact ⟨Cf.relAns_bad HN.out, hbr3⟩
      | true =>
        by_cases h0 : p.ho < 0
        · have HN := Lib.hid (HAB.out (by rw [hOK, hv, decide_eq_false (show ¬ 0 ≤ p.ho by omega)]; rfl))
          have g1 : decide (p.ho < 0) = true := decide_eq_true h0
          go_wp2_with fail
          go_ret2
          exact ⟨Cf.relAns_bad HN.out, hbr3⟩
        · have g1 : decide (p.ho < 0) = false := decide_eq_false h0
          by_cases h1 : 255 < p.ho
          · have HN := Lib.hid (HAB.out (by rw [hOK, hv, decide_eq_false (show ¬ p.ho ≤ 255 by omega), Bool.and_false, Bool.and_false]))
            have g2 : decide (255 < p.ho) = true := decide_eq_true h1
            go_wp2_with fail
            go_ret2
            exact ⟨Cf.relAns_bad HN.out, hbr3⟩
          · have g2 : decide (255 < p.ho) = false := decide_eq_false h1
            have HAL := Lib.hid (HAN.out (by rw [hOK, hv, decide_eq_true (show 0 ≤ p.ho by omega), decide_eq_true (show p.ho ≤ 255 by omega)]; rfl))
            have hll : (Cf.lims (L.take k)).length = k := by unfold Cf.lims; rw [List.length_map, List.length_take]; omega
            have HLLn := Lib.hid hll
            clear hll hOK
            go_wp2_with (at_builtin; refine wpList_append_own _ rfl (.tmp 36) (.tmp 39) 47 rfl w.heap.size 3 ti tz 1 8 Tryz.underlying47 HI.out HZ.out hz1 hz2 hz3 (by decide) _ (Cf.lims (L.take k)).length _ rfl (World.ownsRow.alloc HO3.out _) ⟨w3.heap.size, 0, none⟩ 1 1 [.int .i64 p.li] rfl rfl (fun j u hj => by rw [addr_add, (rowIs_new w3 3 #[.int .i64 p.li]).cell j, ← Array.getElem?_toList]; exact hj) ?d2 ?d3 ?d4 ?d5 ?_)
            case d2 =>
              intro u hu
              simp at hu
              subst hu
              rfl
            case d3 => rw [HLLn.out]; simp [maxLen]; omega
            case d4 => rw [HLLn.out]; omega
            case d5 => first | exact hbr3.size | omega | (have := hbr3.size; simp; omega)
            intro v' w' ho hg _
            have HOUT : Hid (OutInts w' w.heap.size v' (Cf.lims (L.take (k + 1)))) := by
              show OutInts _ _ _ _
              rw [HLN.out]
              unfold OutInts
              simpa using ho
            have hbw : Below w.heap.size w w' := hbr3.trans (((Below.refl _ _).alloc hbr3.size _).grown hg (by have := hbr3.size; simp; omega) (fun k e => (HO3.out.lt k e).1))
            clear ho hg HO3
            go_wp2_with fail
            refine ⟨⟨k + 1, by omega, by go_num, HOUT, HAL, hbw⟩, by simp [RowKit.intOf]; omega⟩
    · obtain rfl : k = L.length := by omega
      rw [List.take_length] at HO HG
      have hbad : ∀ (e1 : Bool), (decide (1 ≤ ag) && (decide (ag ≤ 1000000) && (decide (L.length ≤ 32) && (!anyBad (Cf.lims L) && decide (1 ≤ L.length))))) = e1 → Cf.relayOk L ag = e1 := fun e1 h => by
        unfold Cf.relayOk
        rw [HG.out, Bool.true_and, h]
      have HBAD := Lib.hid hbad
      clear hbad
      have hll : (Cf.lims L).length = L.length := by unfold Cf.lims; rw [List.length_map]
      obtain ⟨la, lc, rfl, hI⟩ := outInts_form HO.out
      have HIA := Lib.hid hI
      clear hI
      by_cases hok : (1 ≤ ag ∧ ag ≤ 1000000) ∧ (L.length ≤ 32 ∧ anyBad (Cf.lims L) = false)
      case neg =>
        have HNB := Lib.hid (new_bad ag la (Cf.lims L) lc wr HIA.out (by rw [hll]; omega) (by
          rw [hll]
          by_cases h1 : ag < 1
          · exact .inl h1
          by_cases h2 : 1000000 < ag
          · exact .inr (.inl h2)
          by_cases h3 : 32 < L.length
          · exact .inr (.inr (.inl h3))
          refine .inr (.inr (.inr ?_))
          cases hb : anyBad (Cf.lims L) with
          | true => rfl
          | false => exact absurd ⟨⟨by omega, by omega⟩, by omega, hb⟩ hok))
        have HN := Lib.hid (HBAD.out false (by
          rw [Bool.eq_false_iff]
          intro h
          simp only [Bool.and_eq_true, decide_eq_true_eq, Bool.not_eq_true'] at h
          exact hok ⟨⟨h.1, h.2.1⟩, h.2.2.1, h.2.2.2.1⟩))
        rw [hll] at HNB
        have hH := Lib.hid (hush_some ag)
        clear hok
        go_wp2_with fail
        refine HNB.out.mono ?_
        rintro e w4 ⟨rfl, rfl⟩
        go_wp2_with fail
        refine (hH.out _).mono ?_
        rintro e w5 ⟨⟨v, r, rfl⟩, hb5⟩
        go_wp2_with fail
        go_ret2
        exact ⟨Cf.relAns_bad HN.out, hbr.trans (hb5.mono hszr)⟩
      case pos =>
        obtain ⟨⟨ha1, ha2⟩, hl1, hab⟩ := hok
        have HNB := Lib.hid (new_ok ag ⟨ha1, ha2⟩ la (Cf.lims L) lc wr HIA.out (by rw [hll]; exact hl1) hab)
        have hH := Lib.hid (hush_ok ag ⟨ha1, ha2⟩)
        rw [hll] at HNB
        have HBAD2 := Lib.hid (fun (b2 : Bool) (h2 : decide (1 ≤ L.length) = b2) => HBAD.out b2 (by rw [decide_eq_true ha1, decide_eq_true ha2, decide_eq_true hl1, hab, h2]; rfl))
        clear hab
        go_wp2_with fail
        refine HNB.out.mono ?_
        rintro e w4 ⟨T, M, rfl, -, hb4⟩
        go_wp2_with fail
        refine (hH.out _).mono ?_
        rintro e w5 ⟨⟨v, rfl⟩, hb5⟩
        have hbr5 := (hbr.trans (hb4.mono hszr)).trans (hb5.mono (Nat.le_trans hszr hb4.size))
        by_cases h0 : L = []
        · subst h0
          have HN := Lib.hid (HBAD2.out false rfl)
          go_wp2_with fail
          go_ret2
          exact ⟨Cf.relAns_bad HN.out, hbr5⟩
        · have hl0 : 1 ≤ L.length := by cases L with | nil => exact absurd rfl h0 | cons a l => simp
          obtain rfl : ao = some ⟨b, off, none⟩ := hao.resolve_right h0
          have dl : ((L.length : Int) == 0) = false := by rw [beq_eq_false_iff_ne]; omega
          have HN := Lib.hid (HBAD2.out true (decide_eq_true hl0))
          clear HBAD2 HBAD HNB hH hb4 hb5 hbr
          have hmk := run_make_row' (P := Tryz.prog) 47 3 (.int .i64 0) 8 Tryz.underlying47 (by kernel_rfl) rfl .i64 .i64 L.length (by omega) (by omega)
          go_upto_region 14 with fail
          have hs5 := hbr5.size
          have HR6 : Hid (RowIs ((w5.alloc (.cells (madeCells #[.int .i64 0] L.length) 3)).alloc (.cells #[.slice none 0 0, .slice (some ⟨w5.heap.size, 0, none⟩) L.length L.length, .pointer (some ⟨T, 0, none⟩), .pointer v, .int .i64 0, .int .i64 0, .int .i64 0, .int .i64 0, .int .i64 0] 129)) (w5.heap.size + 1) 129 #[.slice none 0 0, .slice (some ⟨w5.heap.size, 0, none⟩) L.length L.length, .pointer (some ⟨T, 0, none⟩), .pointer v, .int .i64 0, .int .i64 0, .int .i64 0, .int .i64 0, .int .i64 0]) := by show RowIs _ _ _ _; exact rowIs_new1 w5 _ _ _
          have hbr6 : Below w.heap.size w ((w5.alloc (.cells (madeCells #[.int .i64 0] L.length) 3)).alloc (.cells #[.slice none 0 0, .slice (some ⟨w5.heap.size, 0, none⟩) L.length L.length, .pointer (some ⟨T, 0, none⟩), .pointer v, .int .i64 0, .int .i64 0, .int .i64 0, .int .i64 0, .int .i64 0] 129)) := (hbr5.alloc hs5 _).alloc (by simp; omega) _
          have hz6 : ((w5.alloc (.cells (madeCells #[.int .i64 0] L.length) 3)).alloc (.cells #[.slice none 0 0, .slice (some ⟨w5.heap.size, 0, none⟩) L.length L.length, .pointer (some ⟨T, 0, none⟩), .pointer v, .int .i64 0, .int .i64 0, .int .i64 0, .int .i64 0, .int .i64 0] 129)).heap.size = w5.heap.size + 2 := by simp
          generalize (w5.alloc (.cells (madeCells #[.int .i64 0] L.length) 3)).alloc (.cells #[.slice none 0 0, .slice (some ⟨w5.heap.size, 0, none⟩) L.length L.length, .pointer (some ⟨T, 0, none⟩), .pointer v, .int .i64 0, .int .i64 0, .int .i64 0, .int .i64 0, .int .i64 0] 129) = w6 at *
          generalize Value.slice (some ⟨w5.heap.size, 0, none⟩) L.length L.length = sv at *
          obtain ⟨G, hG⟩ : ∃ G, w5.heap.size + 1 = G := ⟨_, rfl⟩
          rw [hG] at HR6
          simp only [hG]
          have hGw : w.heap.size ≤ G := by omega
          have hG6 : w6.heap.size = G + 1 := by omega
          clear hmk hz6 hG hbr5 hs5
          obtain ⟨ri, rz, hri, hrz, hr1, hr2, hr3⟩ := Cf.info_rport
          go_upto_region 15 with fail
          go_loopw [15, 73] (fun _ i wr => ∃ (j : Nat) (pv : Value) (xs : List Value), j ≤ L.length ∧ i = .int .i64 j ∧ Hid (RowIs wr G 129 #[pv, sv, .pointer (some ⟨T, 0, none⟩), .pointer v, .int .i64 0, .int .i64 0, .int .i64 0, .int .i64 0, .int .i64 0]) ∧ Hid (wr.ownsRow (G + 1) 69 4 pv j xs) ∧ Below w.heap.size w wr ∧ G + 1 ≤ wr.heap.size) (fun _ i _ => L.length - (RowKit.intOf i).toNat)
          case atStart => exact ⟨0, _, [], Nat.zero_le _, rfl, HR6, World.ownsRow_nil _ _ _ _, hbr6, by omega⟩
          case round =>
            clear HR6 hbr6 hG6
            rename World => wq
            obtain ⟨j, pv, xs, hj, rfl, HR, HO, hbq, hgq⟩ := hrel
            have hszq := hbq.size
            have HGL := Lib.hid (fun k (hk : pv.ownBlock = some k) => (Cf.owns_block' HO.out hk).2)
            by_cases hlt : j < L.length
            · have HLr := Lib.hid (HLL.out.after hbq)
              have hpin := Cf.getD_in hlt
              have HE := Lib.hid (HLr.out.1 j hlt)
              have HIN := Lib.hid (HLr.out.2.2 _ hpin)
              obtain ⟨p, hp⟩ : ∃ p, L.getD j ⟨0, none, [], 0, 0, 0⟩ = p := ⟨_, rfl⟩
              rw [hp] at HE HIN
              clear hp hpin
              go_upto_region 17 with (first | ((with_reducible refine at_load 69 (.tmp 75) ?_); refine wpList_load_at rfl 69 (.tmp 75) rfl b (off + j * 4) rfl (Cf.rvc p) HE.out _ Tryz.underlying69 rfl (by kernel_rfl) ?_) | ((with_reducible refine at_store 69 (.tmp 15) (.tmp 76) ?_); refine wpList_store_own rfl 69 (.tmp 15) (.tmp 76) rfl wq.heap.size (Cf.rvc p).toArray rfl rfl 69 _ (rowIs_new wq _ _) (by kernel_rfl) rfl (by simp [Cf.rvc, Value.oneCell']) w.heap.size hszq ?_))
              intro w2 hR hO hs hb
              have R8 := Lib.hid hR
              have hb2 : Below wq.heap.size wq w2 := ((Below.refl _ wq).alloc (Nat.le_refl _) _).trans ⟨hb.os, hb.tape, hb.output, by rw [hs]; simp, fun j hj => hO j (by omega)⟩
              have hbq2 := hbq.trans (hb2.mono hszq)
              have HR2 := Lib.hid (HR.out.kept hb2)
              have HO2 := Lib.hid (owns_later HO.out hb2)
              have HV := Lib.hid (clone_any p.ta p.tags p.tc w2 (HIN.out.1.after hb2) HIN.out.2)
              have c1 : w2.cell? ⟨wq.heap.size, 1, none⟩ = some (.slice p.ta p.tags.length p.tc) := R8.out.cell 1
              have hzw2 : w2.heap.size = wq.heap.size + 1 := by simpa using hs
              clear hR hO hs hb HO HE HLr HIN HR hbq
              go_wp2_with fail
              refine HV.out.mono ?_
              rintro e w3 ⟨la2, lc2, rfl, -, hb3⟩
              have hbq3 := hbq2.trans (hb3.mono hbq2.size)
              have R9 := Lib.hid (R8.out.kept hb3)
              have HO3 := Lib.hid (owns_later HO2.out hb3)
              have HR3 := Lib.hid (HR2.out.kept hb3)
              clear HO2 R8 HV HR2 c1
              go_wp2_with ((with_reducible refine at_store 47 (.tmp 82) (.tmp 80) ?_); refine wpList_store_cell rfl 47 (.tmp 82) (.tmp 80) rfl wq.heap.size 1 _ rfl rfl 69 _ R9.out (by show 1 < 4; decide) (by kernel_rfl) rfl w.heap.size hszq ?_)
              intro w4' hR hO hs hb
              have R10 : Hid (RowIs w4' wq.heap.size 69 #[.int .i64 p.nat, .slice la2 p.tags.length lc2, .int .i64 p.ho, .int .i64 p.li]) := hR
              have HR4 := Lib.hid (show RowIs w4' G 129 _ from (hO _ (by omega)).trans HR3.out)
              have HO4 := Lib.hid (Cf.owns_above HO3.out hO (fun k hk => by have := HGL.out k hk; omega))
              have hbq4 := hbq3.trans hb
              have hgw4 : G + 1 ≤ w4'.heap.size := by have := hb3.size; omega
              clear hR hO hs hb R9 HO3 HR3 hbq3 hb3
              clear HGL
              go_upto_region 18 with fail
              refine wp_region_any (by kernel_rfl) ?_
              try (change wpAny _ _ _ _ _ _ _ (World.drew _))
              have R10 := Lib.hid (show RowIs w4'.drew _ _ _ from R10.out)
              have HR4 := Lib.hid (show RowIs w4'.drew _ _ _ from HR4.out)
              have HO4 := Lib.hid (show w4'.drew.ownsRow _ _ _ _ _ _ from HO4.out)
              have hbq4 : Below w.heap.size w w4'.drew := hbq4.trans ⟨rfl, rfl, rfl, Nat.le_refl _, fun _ _ => rfl⟩
              have hgw4 : G + 1 ≤ w4'.drew.heap.size := hgw4
              generalize w4'.drew = W at *
              have c0 : W.cell? ⟨G, 0, none⟩ = some pv := HR4.out.cell 0
              refine wpAny_take (i := 0) (v := .pointer (some ⟨G, 0, none⟩)) rfl (by kernel_rfl) (by kernel_rfl) (by kernel_rfl) (fun _ _ _ h => h) (Or.inl ⟨by rfl, ?_⟩) ?_
              · (intro w; go_simp)
              refine wpAny_take (i := 1) (v := .pointer (some ⟨G, 0, none⟩)) rfl (by kernel_rfl) (by kernel_rfl) (by kernel_rfl) (fun _ _ _ h => h) (Or.inl ⟨by rfl, ?_⟩) ?_
              · (intro w; go_simp)
              refine wpAny_take (i := 2) (v := .pointer (some ⟨G, 0, none⟩)) rfl (by kernel_rfl) (by kernel_rfl) (by kernel_rfl) (fun _ _ _ h => h) (Or.inl ⟨by rfl, ?_⟩) ?_
              · (intro w; go_simp)
              refine wpAny_take (i := 3) (v := .pointer (some ⟨G, 0, none⟩)) rfl (by kernel_rfl) (by kernel_rfl) (by kernel_rfl) (fun _ _ _ h => h) (Or.inl ⟨by rfl, ?_⟩) ?_
              · (intro w; go_simp)
              refine wpAny_ready (rs := [4, 5]) (by kernel_rfl) (by simp) ?_
              refine AllReady.cons (by first | (simp only [List.getElem?_toArray, List.getElem?_cons_succ, List.getElem?_cons_zero]; done) | (simp only [List.getElem?_toArray, List.getElem?_cons_succ, List.getElem?_cons_zero]; rfl)) (fun K hK => ?_) ?_
              case refine_1 =>
                go_simp
                refine hK _ _ ?_
                clear hK K
                try simp only [Act.put, List.getElem_toArray, List.getElem_cons_succ, List.getElem_cons_zero, List.setIfInBounds_toArray, List.set]
                refine wpAny_ready (rs := [5]) (by kernel_rfl) (by simp) ?_
                refine AllReady.cons (by first | (simp only [List.getElem?_toArray, List.getElem?_cons_succ, List.getElem?_cons_zero]; done) | (simp only [List.getElem?_toArray, List.getElem?_cons_succ, List.getElem?_cons_zero]; rfl)) (fun K hK => ?_) AllReady.nil
                refine step_load_row rfl 69 (.tmp 15) rfl wq.heap.size rfl 69 #[.int .i64 p.nat, .slice la2 p.tags.length lc2, .int .i64 p.ho, .int .i64 p.li] _ R10.out Tryz.underlying69 rfl (by kernel_rfl) ?_
                refine hK _ _ ?_
                clear hK K
                try simp only [Act.put, List.getElem_toArray, List.getElem_cons_succ, List.getElem_cons_zero, List.setIfInBounds_toArray, List.set]
                refine wpAny_ready (rs := [6]) (by kernel_rfl) (by simp) ?_
                refine AllReady.cons (by first | (simp only [List.getElem?_toArray, List.getElem?_cons_succ, List.getElem?_cons_zero]; done) | (simp only [List.getElem?_toArray, List.getElem?_cons_succ, List.getElem?_cons_zero]; rfl)) (fun K hK => ?_) AllReady.nil
                refine step_build_one rfl 86 69 (.tmp 88) rfl #[.int .i64 p.nat, .slice la2 p.tags.length lc2, .int .i64 p.ho, .int .i64 p.li] rfl Tryz.underlying86 4 (by kernel_rfl) rfl (by decide) (by decide) ?_
                have c0 : (W.alloc (.cells #[.int .i64 p.nat, .slice la2 p.tags.length lc2, .int .i64 p.ho, .int .i64 p.li] 69)).cell? ⟨G, 0, none⟩ = some pv := (HR4.out.alloc _).cell 0
                refine hK _ _ ?_
                clear hK K
                try simp only [Act.put, List.getElem_toArray, List.getElem_cons_succ, List.getElem_cons_zero, List.setIfInBounds_toArray, List.set]
                refine wpAny_ready (rs := [7]) (by kernel_rfl) (by simp) ?_
                refine AllReady.cons (by first | (simp only [List.getElem?_toArray, List.getElem?_cons_succ, List.getElem?_cons_zero]; done) | (simp only [List.getElem?_toArray, List.getElem?_cons_succ, List.getElem?_cons_zero]; rfl)) (fun K hK => ?_) AllReady.nil
                refine step_append_own rfl (.tmp 87) (.tmp 89) 86 rfl (G + 1) 69 ri rz 4 48 Tryz.underlying86 hri hrz hr1 hr2 hr3 (by decide) pv j _ rfl (World.ownsRow.alloc HO4.out _) ⟨W.heap.size, 0, none⟩ 1 1 [.int .i64 p.nat, .slice la2 p.tags.length lc2, .int .i64 p.ho, .int .i64 p.li] rfl rfl (fun j u hj => by rw [addr_add, (rowIs_new W 69 #[.int .i64 p.nat, .slice la2 p.tags.length lc2, .int .i64 p.ho, .int .i64 p.li]).cell j, ← Array.getElem?_toList]; exact hj) (by simp [Value.oneCell']) (by unfold maxLen; omega) (by omega) (by rw [World.size_alloc]; omega) ?_
                intro v' w7 hown' hgrow
                have hge : ∀ k, pv.ownBlock = some k → G + 1 ≤ k ∧ k < W.heap.size := fun k hk => Cf.owns_block' HO4.out hk
                have HR7 := Lib.hid (show RowIs w7 G 129 _ from (hgrow.block G (by rw [World.size_alloc]; omega) (fun e => by have := (hge G e.symm).1; omega)).trans (HR4.out.alloc _))
                have hb7 : Below w.heap.size w w7 := hbq4.trans (((Below.refl _ _).alloc (by omega) _).grown hgrow (by rw [World.size_alloc]; omega) (fun k e => by have := (hge k e).1; omega))
                have hg7 : G + 1 ≤ w7.heap.size := by have := hgrow.size; rw [World.size_alloc] at this; omega
                have HOW7 := Lib.hid hown'
                clear hown' hgrow hge
                refine hK _ _ ?_
                clear hK K
                try simp only [Act.put, List.getElem_toArray, List.getElem_cons_succ, List.getElem_cons_zero, List.setIfInBounds_toArray, List.set]
                refine wpAny_take (i := 8) (v := .pointer (some ⟨G, 0, none⟩)) rfl (by kernel_rfl) (by kernel_rfl) (by kernel_rfl) (fun _ _ _ h => h) (Or.inl ⟨by rfl, ?_⟩) ?_
                · (intro w; go_simp)
                refine wpAny_take (i := 9) (v := .pointer (some ⟨G, 0, none⟩)) rfl (by kernel_rfl) (by kernel_rfl) (by kernel_rfl) (fun _ _ _ h => h) (Or.inl ⟨by rfl, ?_⟩) ?_
                · (intro w; go_simp)
                try simp only [Act.put, List.getElem_toArray, List.getElem_cons_succ, List.getElem_cons_zero, List.setIfInBounds_toArray, List.set]
                refine wpAny_ready (rs := [10]) (by kernel_rfl) (by simp) ?_
                refine AllReady.cons (by first | (simp only [List.getElem?_toArray, List.getElem?_cons_succ, List.getElem?_cons_zero]; done) | (simp only [List.getElem?_toArray, List.getElem?_cons_succ, List.getElem?_cons_zero]; rfl)) (fun K hK => ?_) AllReady.nil
                refine step_store_cell rfl 86 (.tmp 92) (.tmp 90) rfl G 0 v' rfl rfl 129 _ HR7.out (by show 0 < 9; decide) (by kernel_rfl) (Cf.owns_one' HOW7.out) w.heap.size hGw ?_
                intro w8 hR hO hs hb
                have HR8 : Hid (RowIs w8 G 129 #[v', sv, .pointer (some ⟨T, 0, none⟩), .pointer v, .int .i64 0, .int .i64 0, .int .i64 0, .int .i64 0, .int .i64 0]) := hR
                have HO8 := Lib.hid (Cf.owns_above HOW7.out hO (fun k hk => by have := (Cf.owns_block' HOW7.out hk).1; omega))
                have hb8 := hb7.trans hb
                have hg8 : G + 1 ≤ w8.heap.size := by omega
                clear hR hO hs hb
                refine hK _ _ ?_
                clear hK K
                try simp only [Act.put, List.getElem_toArray, List.getElem_cons_succ, List.getElem_cons_zero, List.setIfInBounds_toArray, List.set]
                refine wpAny_done (by kernel_rfl) ?_ _
                go_wp2_with fail
                refine ⟨⟨j + 1, v', _, by omega, by go_num, HR8, HO8, hb8, hg8⟩, by simp [RowKit.intOf]; omega⟩
              refine AllReady.cons (by first | (simp only [List.getElem?_toArray, List.getElem?_cons_succ, List.getElem?_cons_zero]; done) | (simp only [List.getElem?_toArray, List.getElem?_cons_succ, List.getElem?_cons_zero]; rfl)) (fun K hK => ?_) AllReady.nil
              refine step_load_row rfl 69 (.tmp 15) rfl wq.heap.size rfl 69 #[.int .i64 p.nat, .slice la2 p.tags.length lc2, .int .i64 p.ho, .int .i64 p.li] _ R10.out Tryz.underlying69 rfl (by kernel_rfl) ?_
              refine hK _ _ ?_
              clear hK K
              try simp only [Act.put, List.getElem_toArray, List.getElem_cons_succ, List.getElem_cons_zero, List.setIfInBounds_toArray, List.set]
              refine wpAny_ready (rs := [4, 6]) (by kernel_rfl) (by simp) ?_
              refine AllReady.cons (by first | (simp only [List.getElem?_toArray, List.getElem?_cons_succ, List.getElem?_cons_zero]; done) | (simp only [List.getElem?_toArray, List.getElem?_cons_succ, List.getElem?_cons_zero]; rfl)) (fun K hK => ?_) ?_
              case refine_1 =>
                go_simp
                refine hK _ _ ?_
                clear hK K
                try simp only [Act.put, List.getElem_toArray, List.getElem_cons_succ, List.getElem_cons_zero, List.setIfInBounds_toArray, List.set]
                refine wpAny_ready (rs := [6]) (by kernel_rfl) (by simp) ?_
                refine AllReady.cons (by first | (simp only [List.getElem?_toArray, List.getElem?_cons_succ, List.getElem?_cons_zero]; done) | (simp only [List.getElem?_toArray, List.getElem?_cons_succ, List.getElem?_cons_zero]; rfl)) (fun K hK => ?_) AllReady.nil
                refine step_build_one rfl 86 69 (.tmp 88) rfl #[.int .i64 p.nat, .slice la2 p.tags.length lc2, .int .i64 p.ho, .int .i64 p.li] rfl Tryz.underlying86 4 (by kernel_rfl) rfl (by decide) (by decide) ?_
                have c0 : (W.alloc (.cells #[.int .i64 p.nat, .slice la2 p.tags.length lc2, .int .i64 p.ho, .int .i64 p.li] 69)).cell? ⟨G, 0, none⟩ = some pv := (HR4.out.alloc _).cell 0
                refine hK _ _ ?_
                clear hK K
                try simp only [Act.put, List.getElem_toArray, List.getElem_cons_succ, List.getElem_cons_zero, List.setIfInBounds_toArray, List.set]
                refine wpAny_ready (rs := [7]) (by kernel_rfl) (by simp) ?_
                refine AllReady.cons (by first | (simp only [List.getElem?_toArray, List.getElem?_cons_succ, List.getElem?_cons_zero]; done) | (simp only [List.getElem?_toArray, List.getElem?_cons_succ, List.getElem?_cons_zero]; rfl)) (fun K hK => ?_) AllReady.nil
                refine step_append_own rfl (.tmp 87) (.tmp 89) 86 rfl (G + 1) 69 ri rz 4 48 Tryz.underlying86 hri hrz hr1 hr2 hr3 (by decide) pv j _ rfl (World.ownsRow.alloc HO4.out _) ⟨W.heap.size, 0, none⟩ 1 1 [.int .i64 p.nat, .slice la2 p.tags.length lc2, .int .i64 p.ho, .int .i64 p.li] rfl rfl (fun j u hj => by rw [addr_add, (rowIs_new W 69 #[.int .i64 p.nat, .slice la2 p.tags.length lc2, .int .i64 p.ho, .int .i64 p.li]).cell j, ← Array.getElem?_toList]; exact hj) (by simp [Value.oneCell']) (by unfold maxLen; omega) (by omega) (by rw [World.size_alloc]; omega) ?_
                intro v' w7 hown' hgrow
                have hge : ∀ k, pv.ownBlock = some k → G + 1 ≤ k ∧ k < W.heap.size := fun k hk => Cf.owns_block' HO4.out hk
                have HR7 := Lib.hid (show RowIs w7 G 129 _ from (hgrow.block G (by rw [World.size_alloc]; omega) (fun e => by have := (hge G e.symm).1; omega)).trans (HR4.out.alloc _))
                have hb7 : Below w.heap.size w w7 := hbq4.trans (((Below.refl _ _).alloc (by omega) _).grown hgrow (by rw [World.size_alloc]; omega) (fun k e => by have := (hge k e).1; omega))
                have hg7 : G + 1 ≤ w7.heap.size := by have := hgrow.size; rw [World.size_alloc] at this; omega
                have HOW7 := Lib.hid hown'
                clear hown' hgrow hge
                refine hK _ _ ?_
                clear hK K
                try simp only [Act.put, List.getElem_toArray, List.getElem_cons_succ, List.getElem_cons_zero, List.setIfInBounds_toArray, List.set]
                refine wpAny_take (i := 8) (v := .pointer (some ⟨G, 0, none⟩)) rfl (by kernel_rfl) (by kernel_rfl) (by kernel_rfl) (fun _ _ _ h => h) (Or.inl ⟨by rfl, ?_⟩) ?_
                · (intro w; go_simp)
                refine wpAny_take (i := 9) (v := .pointer (some ⟨G, 0, none⟩)) rfl (by kernel_rfl) (by kernel_rfl) (by kernel_rfl) (fun _ _ _ h => h) (Or.inl ⟨by rfl, ?_⟩) ?_
                · (intro w; go_simp)
                try simp only [Act.put, List.getElem_toArray, List.getElem_cons_succ, List.getElem_cons_zero, List.setIfInBounds_toArray, List.set]
                refine wpAny_ready (rs := [10]) (by kernel_rfl) (by simp) ?_
                refine AllReady.cons (by first | (simp only [List.getElem?_toArray, List.getElem?_cons_succ, List.getElem?_cons_zero]; done) | (simp only [List.getElem?_toArray, List.getElem?_cons_succ, List.getElem?_cons_zero]; rfl)) (fun K hK => ?_) AllReady.nil
                refine step_store_cell rfl 86 (.tmp 92) (.tmp 90) rfl G 0 v' rfl rfl 129 _ HR7.out (by show 0 < 9; decide) (by kernel_rfl) (Cf.owns_one' HOW7.out) w.heap.size hGw ?_
                intro w8 hR hO hs hb
                have HR8 : Hid (RowIs w8 G 129 #[v', sv, .pointer (some ⟨T, 0, none⟩), .pointer v, .int .i64 0, .int .i64 0, .int .i64 0, .int .i64 0, .int .i64 0]) := hR
                have HO8 := Lib.hid (Cf.owns_above HOW7.out hO (fun k hk => by have := (Cf.owns_block' HOW7.out hk).1; omega))
                have hb8 := hb7.trans hb
                have hg8 : G + 1 ≤ w8.heap.size := by omega
                clear hR hO hs hb
                refine hK _ _ ?_
                clear hK K
                try simp only [Act.put, List.getElem_toArray, List.getElem_cons_succ, List.getElem_cons_zero, List.setIfInBounds_toArray, List.set]
                refine wpAny_done (by kernel_rfl) ?_ _
                go_wp2_with fail
                refine ⟨⟨j + 1, v', _, by omega, by go_num, HR8, HO8, hb8, hg8⟩, by simp [RowKit.intOf]; omega⟩
              refine AllReady.cons (by first | (simp only [List.getElem?_toArray, List.getElem?_cons_succ, List.getElem?_cons_zero]; done) | (simp only [List.getElem?_toArray, List.getElem?_cons_succ, List.getElem?_cons_zero]; rfl)) (fun K hK => ?_) AllReady.nil
              refine step_build_one rfl 86 69 (.tmp 88) rfl #[.int .i64 p.nat, .slice la2 p.tags.length lc2, .int .i64 p.ho, .int .i64 p.li] rfl Tryz.underlying86 4 (by kernel_rfl) rfl (by decide) (by decide) ?_
              have c0 : (W.alloc (.cells #[.int .i64 p.nat, .slice la2 p.tags.length lc2, .int .i64 p.ho, .int .i64 p.li] 69)).cell? ⟨G, 0, none⟩ = some pv := (HR4.out.alloc _).cell 0
              refine hK _ _ ?_
              clear hK K
              try simp only [Act.put, List.getElem_toArray, List.getElem_cons_succ, List.getElem_cons_zero, List.setIfInBounds_toArray, List.set]
              refine wpAny_ready (rs := [4]) (by kernel_rfl) (by simp) ?_
              refine AllReady.cons (by first | (simp only [List.getElem?_toArray, List.getElem?_cons_succ, List.getElem?_cons_zero]; done) | (simp only [List.getElem?_toArray, List.getElem?_cons_succ, List.getElem?_cons_zero]; rfl)) (fun K hK => ?_) AllReady.nil
              go_simp
              refine hK _ _ ?_
              clear hK K
              try simp only [Act.put, List.getElem_toArray, List.getElem_cons_succ, List.getElem_cons_zero, List.setIfInBounds_toArray, List.set]
              refine wpAny_ready (rs := [7]) (by kernel_rfl) (by simp) ?_
              refine AllReady.cons (by first | (simp only [List.getElem?_toArray, List.getElem?_cons_succ, List.getElem?_cons_zero]; done) | (simp only [List.getElem?_toArray, List.getElem?_cons_succ, List.getElem?_cons_zero]; rfl)) (fun K hK => ?_) AllReady.nil
              refine step_append_own rfl (.tmp 87) (.tmp 89) 86 rfl (G + 1) 69 ri rz 4 48 Tryz.underlying86 hri hrz hr1 hr2 hr3 (by decide) pv j _ rfl (World.ownsRow.alloc HO4.out _) ⟨W.heap.size, 0, none⟩ 1 1 [.int .i64 p.nat, .slice la2 p.tags.length lc2, .int .i64 p.ho, .int .i64 p.li] rfl rfl (fun j u hj => by rw [addr_add, (rowIs_new W 69 #[.int .i64 p.nat, .slice la2 p.tags.length lc2, .int .i64 p.ho, .int .i64 p.li]).cell j, ← Array.getElem?_toList]; exact hj) (by simp [Value.oneCell']) (by unfold maxLen; omega) (by omega) (by rw [World.size_alloc]; omega) ?_
              intro v' w7 hown' hgrow
              have hge : ∀ k, pv.ownBlock = some k → G + 1 ≤ k ∧ k < W.heap.size := fun k hk => Cf.owns_block' HO4.out hk
              have HR7 := Lib.hid (show RowIs w7 G 129 _ from (hgrow.block G (by rw [World.size_alloc]; omega) (fun e => by have := (hge G e.symm).1; omega)).trans (HR4.out.alloc _))
              have hb7 : Below w.heap.size w w7 := hbq4.trans (((Below.refl _ _).alloc (by omega) _).grown hgrow (by rw [World.size_alloc]; omega) (fun k e => by have := (hge k e).1; omega))
              have hg7 : G + 1 ≤ w7.heap.size := by have := hgrow.size; rw [World.size_alloc] at this; omega
              have HOW7 := Lib.hid hown'
              clear hown' hgrow hge
              refine hK _ _ ?_
              clear hK K
              try simp only [Act.put, List.getElem_toArray, List.getElem_cons_succ, List.getElem_cons_zero, List.setIfInBounds_toArray, List.set]
              refine wpAny_take (i := 8) (v := .pointer (some ⟨G, 0, none⟩)) rfl (by kernel_rfl) (by kernel_rfl) (by kernel_rfl) (fun _ _ _ h => h) (Or.inl ⟨by rfl, ?_⟩) ?_
              · (intro w; go_simp)
              refine wpAny_take (i := 9) (v := .pointer (some ⟨G, 0, none⟩)) rfl (by kernel_rfl) (by kernel_rfl) (by kernel_rfl) (fun _ _ _ h => h) (Or.inl ⟨by rfl, ?_⟩) ?_
              · (intro w; go_simp)
              try simp only [Act.put, List.getElem_toArray, List.getElem_cons_succ, List.getElem_cons_zero, List.setIfInBounds_toArray, List.set]
              refine wpAny_ready (rs := [10]) (by kernel_rfl) (by simp) ?_
              refine AllReady.cons (by first | (simp only [List.getElem?_toArray, List.getElem?_cons_succ, List.getElem?_cons_zero]; done) | (simp only [List.getElem?_toArray, List.getElem?_cons_succ, List.getElem?_cons_zero]; rfl)) (fun K hK => ?_) AllReady.nil
              refine step_store_cell rfl 86 (.tmp 92) (.tmp 90) rfl G 0 v' rfl rfl 129 _ HR7.out (by show 0 < 9; decide) (by kernel_rfl) (Cf.owns_one' HOW7.out) w.heap.size hGw ?_
              intro w8 hR hO hs hb
              have HR8 : Hid (RowIs w8 G 129 #[v', sv, .pointer (some ⟨T, 0, none⟩), .pointer v, .int .i64 0, .int .i64 0, .int .i64 0, .int .i64 0, .int .i64 0]) := hR
              have HO8 := Lib.hid (Cf.owns_above HOW7.out hO (fun k hk => by have := (Cf.owns_block' HOW7.out hk).1; omega))
              have hb8 := hb7.trans hb
              have hg8 : G + 1 ≤ w8.heap.size := by omega
              clear hR hO hs hb
              refine hK _ _ ?_
              clear hK K
              try simp only [Act.put, List.getElem_toArray, List.getElem_cons_succ, List.getElem_cons_zero, List.setIfInBounds_toArray, List.set]
              refine wpAny_done (by kernel_rfl) ?_ _
              go_wp2_with fail
              refine ⟨⟨j + 1, v', _, by omega, by go_num, HR8, HO8, hb8, hg8⟩, by simp [RowKit.intOf]; omega⟩
            · obtain rfl : j = L.length := by omega
              go_wp2_with fail
              go_ret2
              exact ⟨Cf.relAns_good HN.out, hbq⟩
end Go.Proofs.YthfckdnennfnoaaGreatDoor
