/- vlan.Both: the VLANs of which two ports are members, sorted. By an AI agent. -/
import Derived.Test.YtnglpoognlegfaaSortInt
import Derived.Test.YtnglpoognlegfaaVlanIn
import Derived.Test.YtnglpoognlegfaaGrowKit
import Derived.Laws.AppendOwnNone
import Derived.Deep.DeepCutAuto
namespace Go.Proofs.Ytnglpoognlegfaa
open Go.RowKit Go.Sort Go.Lib

theorem info_int : ∃ i z, Try.prog.info? 3 = some i ∧ i.zero = some z ∧ i.size = 1 ∧ i.bytes = 8 ∧ z.cells.size = 1 := by
  have h : (Try.prog.info? 3).map (fun i => (i.zero.map (·.cells.size), i.size, i.bytes)) = some (some 1, 1, 8) := by kernel_rfl
  obtain ⟨i, hi, h⟩ := Option.map_eq_some_iff.1 h
  simp only [Prod.mk.injEq] at h
  obtain ⟨z, hz, h18⟩ := Option.map_eq_some_iff.1 h.1
  exact ⟨i, z, hi, hz, h.2.1, h.2.2, h18⟩

/-- a slice of the call's own that holds the numbers -/
def OutInts (w : World) (base : Nat) (v : Value) (zs : List Int) : Prop := w.ownsRow base 3 1 v zs.length (zs.map (Value.int .i64))
theorem outInts_nil (w : World) (base : Nat) : OutInts w base (.slice none 0 0) [] := World.ownsRow_nil _ _ _ _
theorem OutInts.later {w w' : World} {base : Nat} {v : Value} {zs : List Int} (h : OutInts w base v zs) (hb : Below w.heap.size w w') : OutInts w' base v zs := by
  refine ⟨h.1, ?_⟩
  rcases h.2 with h2 | ⟨g, cap, cur, e1, e2, e3, e4⟩
  · exact .inl h2
  · exact .inr ⟨g, cap, cur, e1, e2, (hb.block g (Array.getElem?_eq_some_iff.1 e3).1).trans e3, e4⟩
theorem OutInts.form {w : World} {base : Nat} {v : Value} {zs : List Int} (h : OutInts w base v zs) : ∃ ao cap, v = .slice ao zs.length cap ∧ IntsAt w ao zs := by
  rcases h.2 with ⟨rfl, h0⟩ | ⟨g, cap, cur, rfl, _⟩
  · rw [h0]
    exact ⟨none, 0, rfl, .inl (List.length_eq_zero_iff.1 h0)⟩
  · refine ⟨_, cap, rfl, .inr ⟨g, 0, rfl, fun i hi => ?_⟩⟩
    rw [Nat.zero_add, World.ownsRow.cellAt h i (by omega)]
    simp [List.getD, hi]

namespace Vlan
def inBoth (n1 : Int) (zs : List Int) (n2 : Int) (ys : List Int) (v : Int) : Bool := member n1 zs v && member n2 ys v
def both (n1 : Int) (zs : List Int) (n2 : Int) (ys : List Int) : List Int := sortZ ((n1 :: zs).filter (inBoth n1 zs n2 ys))
end Vlan
theorem take_filter {α : Type} (f : α → Bool) (ds : List α) (i : Nat) (hi : i < ds.length) : (ds.take (i + 1)).filter f = (ds.take i).filter f ++ (if f ds[i] then [ds[i]] else []) := by
  rw [List.take_succ_eq_append_getElem hi, List.filter_append]
  congr 1
  cases h : f ds[i] <;> simp [h]

set_option maxRecDepth 20000 in
set_option maxHeartbeats 4000000 in
theorem both_any (n1 n2 : Int) (a1 a2 : Option Addr) (zs ys : List Int) (c1 c2 : Nat) (w : World) (h1 : IntsAt w a1 zs) (h2 : IntsAt w a2 ys) (hz : zs.length ≤ 1000) (hy : ys.length ≤ 1000) (hcap : a1 = none → c1 = 0) :
    Calls Try.prog 19 #[.agg #[.int .i64 n1, .slice a1 zs.length c1], .agg #[.int .i64 n2, .slice a2 ys.length c2]] w fun e w' => ∃ v, e = .returned v ∧ OutInts w' w.heap.size v (Vlan.both n1 zs n2 ys) ∧ Below w.heap.size w w' := by
  have HZ := Lib.hid h1
  have HY := Lib.hid h2
  obtain ⟨ti, tz, hi, hzz, hz1, hz2, hz3⟩ := info_int
  have HI := Lib.hid hi
  have HZZ := Lib.hid hzz
  have HCAP := Lib.hid hcap
  clear h1 h2 hi hzz hcap
  go_enter Try.func19, Try.ntmps19
  go_upto_region 2 with fail
  generalize hW : (w.alloc _).alloc _ = W
  have hbW : Below w.heap.size w W := by rw [← hW]; exact ((Below.refl _ _).alloc (Nat.le_refl _) _).alloc (by simp) _
  have R1 : Hid (RowIs W w.heap.size 24 #[.int .i64 n1, .slice a1 zs.length c1]) := by
    show RowIs _ _ _ _
    rw [← hW]
    exact (rowIs_new w 24 _).alloc _
  have R2 : Hid (RowIs W (w.heap.size + 1) 24 #[.int .i64 n2, .slice a2 ys.length c2]) := by
    show RowIs _ _ _ _
    rw [← hW]
    exact rowIs_new1 w _ 24 _
  clear hW
  have HM1 := Lib.hid (fun (v : Int) (W' : World) (h : Below w.heap.size w W') => member_any n1 a1 zs c1 v W' (HZ.out.after h) (by omega))
  have HM2 := Lib.hid (fun (v : Int) (W' : World) (h : Below w.heap.size w W') => member_any n2 a2 ys c2 v W' (HY.out.after h) (by omega))
  have q0 : W.cell? ⟨w.heap.size, 0, none⟩ = some (.int .i64 n1) := R1.out.cell 0
  have q1 : ∀ o, (W.alloc o).cell? ⟨w.heap.size, 1, none⟩ = some (.slice a1 zs.length c1) := fun o => (R1.out.alloc o).cell 1
  have HOWN := Lib.hid (World.ownsRow_lit (base := W.heap.size) (e := 3) (size := 1) W #[.int .i64 n1] 1 (Nat.le_refl _) (by decide) rfl)
  have HSZ := Lib.hid (Nat.le_refl W.heap.size)
  go_cut [13, 14, 15] (fun v13 v14 v15 wx => Hid (OutInts wx W.heap.size v13 (n1 :: zs)) ∧ v14 = .int .i64 ((zs.length : Int) + 1) ∧ v15 = .int .i64 0 ∧ Below W.heap.size W wx)
  case first =>
    rcases (show a1 = none ∨ ∃ ad, a1 = some ad from by cases a1; exact .inl rfl; exact .inr ⟨_, rfl⟩) with rfl | ⟨ad, rfl⟩
    · have hc := HCAP.out rfl
      have hzs : zs = [] := by
        rcases HZ.out with h | ⟨_, _, h, _⟩
        · exact h
        · cases h
      subst hc hzs
      go_wp2_with (at_builtin; refine wpList_append_own_none rfl (.tmp 10) (.tmp 12) 22 rfl W.heap.size 3 ti 1 Try.underlying22 HI.out _ 1 _ rfl HOWN.out rfl ?_)
      go_meet
      exact ⟨HOWN.out, rfl, rfl, (Below.refl _ _).alloc (Nat.le_refl _) _⟩
    · have HC : Hid (∀ (j : Nat) (u : Value), (zs.map (Value.int .i64))[j]? = some u → (W.alloc (.cells #[.int .i64 n1] 3)).cell? (ad.add j) = some u) := by
        intro j u hj
        rw [List.getElem?_map] at hj
        obtain ⟨x, hx, rfl⟩ := Option.map_eq_some_iff.1 hj
        have hjl := (List.getElem?_eq_some_iff.1 hx).1
        rcases (HZ.out.after (hbW.alloc hbW.size (.cells #[.int .i64 n1] 3))) with h | ⟨b, off, h, hc⟩
        · rw [h] at hjl
          exact absurd hjl (Nat.not_lt_zero _)
        · cases h
          have := hc j hjl
          rw [show (⟨b, off, none⟩ : Addr).add j = ⟨b, off + j, none⟩ from by simp [Addr.add], this]
          simp [List.getD, hx]
      go_wp2_with (at_builtin; refine wpList_append_own _ rfl (.tmp 10) (.tmp 12) 22 rfl W.heap.size 3 ti tz 1 8 Try.underlying22 HI.out HZZ.out hz1 hz2 hz3 (by decide) _ 1 _ rfl HOWN.out ad zs.length c1 (zs.map (Value.int .i64)) rfl (by simp) ?c1 ?c2 ?c3 ?c4 ?c5 ?_)
      case c1 => exact fun j a ha => HC.out j _ (by rw [List.getElem?_map, ha]; rfl)
      case c2 =>
        intro u hu
        rfl
      case c3 => simp [maxLen]; omega
      case c4 => omega
      intro v' w' ho hg _
      have HO := Lib.hid (show OutInts w' W.heap.size v' (n1 :: zs) from by
        unfold OutInts
        rw [List.length_cons, Nat.add_comm]
        exact ho)
      have hbw : Below W.heap.size W w' := ((Below.refl _ _).alloc (Nat.le_refl _) _).grown hg (by simp) (fun k e => (HOWN.out.lt k e).1)
      obtain ⟨ao, cap, rfl, _⟩ := HO.out.form
      clear ho hg
      go_wp2_with fail
      go_meet
      exact ⟨HO, by simp, rfl, hbw⟩
  case rest =>
    obtain ⟨HO, rfl, rfl, hb2⟩ := hcut
    generalize wc = w2 at *
    obtain ⟨ao, cap, rfl, hI⟩ := HO.out.form
    have HL := Lib.hid hI
    have hbW2 := hbW.trans (hb2.mono hbW.size)
    have HR1 := Lib.hid (R1.out.kept hb2)
    have HR2 := Lib.hid (R2.out.kept hb2)
    clear hI hb2 R1 R2 q0 q1 HOWN HO HSZ HZ HY HCAP
    generalize hl : n1 :: zs = l at *
    have hll : (l.length : Int) = (zs.length : Int) + 1 := by rw [← hl]; simp
    rw [← hll]
    have hlen : l.length ≤ 1001 := by rw [← hl]; simp; omega
    have HBO : Hid (Vlan.both n1 zs n2 ys = sortZ (l.filter (Vlan.inBoth n1 zs n2 ys))) := by
      show _ = _
      rw [← hl]
      rfl
    clear hl hll
    go_upto_region 3 with fail
    go_loopw [5, 15] (fun s5 s15 wr => ∃ i : Nat, i ≤ l.length ∧ s15 = .int .i64 i ∧ Hid (OutInts wr w2.heap.size s5 ((l.take i).filter (Vlan.inBoth n1 zs n2 ys))) ∧ Below w2.heap.size w2 wr) (fun _ s15 _ => l.length - (intOf s15).toNat)
    case atStart => exact ⟨0, Nat.zero_le _, rfl, outInts_nil _ _, Below.refl _ _⟩
    case round =>
      rename_i wr
      obtain ⟨i, hi, rfl, HOUT, hbR⟩ := hrel
      have hbr := hbW2.trans (hbR.mono hbW2.size)
      by_cases hlt : i < l.length
      · obtain ⟨b, off, hao, hcell⟩ : ∃ b off, ao = some ⟨b, off, none⟩ ∧ wr.cell? ⟨b, off + i, none⟩ = some (.int .i64 l[i]) := by
          rcases HL.out.after hbR with h | ⟨b, off, h1, h2⟩
          · rw [h] at hlt
            exact absurd hlt (Nat.not_lt_zero _)
          · refine ⟨b, off, h1, ?_⟩
            rw [h2 i hlt]
            simp [List.getD, hlt]
        subst hao
        have HT := Lib.hid (take_filter (Vlan.inBoth n1 zs n2 ys) l i hlt)
        have hk1 : ((l.take i).filter (Vlan.inBoth n1 zs n2 ys)).length ≤ 1001 := Nat.le_trans (List.length_filter_le _ _) (by rw [List.length_take]; omega)
        have HIB : Hid (Vlan.inBoth n1 zs n2 ys l[i] = (Vlan.member n1 zs l[i] && Vlan.member n2 ys l[i])) := rfl
        generalize l[i] = x at *
        generalize (l.take i).filter (Vlan.inBoth n1 zs n2 ys) = outs at *
        have HRa := Lib.hid (HR1.out.kept hbR)
        have HRb := Lib.hid (HR2.out.kept hbR)
        have HC1 := Lib.hid (HM1.out x wr hbr)
        have HC2 := Lib.hid (fun W' (h : Below wr.heap.size wr W') => HM2.out x W' (hbr.trans (h.mono hbr.size)))
        have q0 : wr.cell? ⟨w.heap.size, 0, none⟩ = some (.int .i64 n1) := HRa.out.cell 0
        have q1 : wr.cell? ⟨w.heap.size, 1, none⟩ = some (.slice a1 zs.length c1) := HRa.out.cell 1
        generalize Vlan.member n1 zs x = m1 at *
        generalize Vlan.member n2 ys x = m2 at *
        generalize Vlan.inBoth n1 zs n2 ys x = ib at *
        have hib := HIB.out
        subst hib
        go_upto_region 5 with fail
        clear hcell
        go_cut [26] (fun v wx => v = .bool (m1 && m2) ∧ Below wr.heap.size wr wx)
        case first =>
          cases m1
          · go_wp2_with fail
            refine HC1.out.mono ?_
            rintro e w3 ⟨rfl, hb3⟩
            go_wp2_with fail
            go_meet
            exact ⟨rfl, hb3⟩
          · go_wp2_with fail
            refine HC1.out.mono ?_
            rintro e w3 ⟨rfl, hb3⟩
            have HRc := Lib.hid (HRb.out.kept hb3)
            have q2 : w3.cell? ⟨w.heap.size + 1, 0, none⟩ = some (.int .i64 n2) := HRc.out.cell 0
            have q3 : w3.cell? ⟨w.heap.size + 1, 1, none⟩ = some (.slice a2 ys.length c2) := HRc.out.cell 1
            go_wp2_with fail
            refine (HC2.out _ hb3).mono ?_
            rintro e w4 ⟨rfl, hb4⟩
            have hb4 := hb3.trans (hb4.mono hb3.size)
            go_wp2_with fail
            go_meet
            exact ⟨by cases m2 <;> rfl, hb4⟩
        case rest =>
          obtain ⟨rfl, hb3⟩ := hcut
          generalize wc = w3 at *
          have HOUT := Lib.hid (HOUT.out.later hb3)
          have hbR3 := hbR.trans (hb3.mono hbR.size)
          have hsz3 : w2.heap.size ≤ w3.heap.size := hbR3.size
          clear q0 q1 HC1 HC2 HRa HRb hb3 hbr
          generalize (m1 && m2) = mm at *
          cases mm
          · have HOUT : Hid (OutInts w3 w2.heap.size u5 ((l.take (i + 1)).filter (Vlan.inBoth n1 zs n2 ys))) := by
              show OutInts _ _ _ _
              rw [HT.out]
              simpa using HOUT.out
            clear HT
            go_wp2_with fail
            refine ⟨⟨i + 1, by omega, by go_num, HOUT, hbR3⟩, by simp [intOf]; omega⟩
          · obtain ⟨ap, kp, rfl, _⟩ := HOUT.out.form
            have HO4 := Lib.hid (World.ownsRow.alloc HOUT.out (.cells #[.int .i64 x] 3))
            clear HOUT
            go_wp2_with (at_builtin; refine wpList_append_own _ rfl (.tmp 27) (.tmp 29) 22 rfl w2.heap.size 3 ti tz 1 8 Try.underlying22 HI.out HZZ.out hz1 hz2 hz3 (by decide) _ outs.length _ rfl HO4.out ⟨w3.heap.size, 0, none⟩ 1 1 [.int .i64 x] rfl rfl (fun j u hj => by rw [addr_add, (rowIs_new w3 3 #[.int .i64 x]).cell j, ← Array.getElem?_toList]; exact hj) ?d2 ?d3 ?d4 ?d5 ?_)
            case d2 => rfl
            case d3 => simp [maxLen]; omega
            case d4 => omega
            case d5 => first | exact hsz3 | omega | (simp; omega)
            intro v' w' ho hg _
            have HOUT : Hid (OutInts w' w2.heap.size v' ((l.take (i + 1)).filter (Vlan.inBoth n1 zs n2 ys))) := by
              show OutInts _ _ _ _
              rw [HT.out]
              unfold OutInts
              simpa using ho
            have hbw : Below w2.heap.size w2 w' := hbR3.trans (((Below.refl _ _).alloc hsz3 _).grown hg (by simp; omega) (fun k e => (HO4.out.lt k e).1))
            clear ho hg HT HO4
            go_wp2_with fail
            refine ⟨⟨i + 1, by omega, by go_num, HOUT, hbw⟩, by simp [intOf]; omega⟩
      · obtain rfl : i = l.length := by omega
        rw [List.take_length] at HOUT
        have HS := Lib.hid (sort_own w2.heap.size _ _ wr HOUT.out (Nat.le_trans (List.length_filter_le _ _) (by omega)))
        go_wp2_with fail
        refine HS.out.mono ?_
        rintro e w4 ⟨rfl, ho4, hb4⟩
        have HFIN : Hid (OutInts w4 w.heap.size u5 (Vlan.both n1 zs n2 ys)) := by
          show OutInts _ _ _ _
          rw [HBO.out]
          unfold OutInts
          rw [sortZ_len]
          exact Go.Joins.ownsRow_le ho4 hbW2.size
        have hbf := hbr.trans ((hbR.trans hb4).mono hbW2.size |>.mono (Nat.le_refl _) |> fun _ => hb4.mono hbW2.size)
        clear ho4 hb4 HS HOUT
        go_wp2_with fail
        go_ret
        exact ⟨_, rfl, HFIN.out, hbf⟩
end Go.Proofs.Ytnglpoognlegfaa
