/- The walk of VlanCounts. By an AI agent. -/
import Derived.Test.YtnglpoognlegfaaVlanBothP
import Derived.Test.YtnglpoognlegfaaVlanMembers
namespace Go.Proofs.Ytnglpoognlegfaa
open Go.RowKit Go.Sort Go.Lib

namespace Vlan
/-- how many of the first k numbers from -2 on are members -/
def cnt (n1 : Int) (zs : List Int) (k : Nat) : Nat := ((List.range k).filter fun (j : Nat) => member n1 zs ((j : Int) - 2)).length
theorem cnt_zero (n1 : Int) (zs : List Int) : cnt n1 zs 0 = 0 := rfl
theorem cnt_next (n1 : Int) (zs : List Int) (k : Nat) : cnt n1 zs (k + 1) = cnt n1 zs k + (if member n1 zs ((k : Int) - 2) = true then 1 else 0) := by
  unfold cnt
  rw [List.range_succ, List.filter_append, List.length_append]
  congr 1
  cases h : member n1 zs ((k : Int) - 2) <;> simp [h]
theorem cnt_le (n1 : Int) (zs : List Int) (k : Nat) : cnt n1 zs k ≤ k := by
  unfold cnt
  exact Nat.le_trans (List.length_filter_le _ _) (by simp)
theorem member_wrong {n1 : Int} {zs : List Int} (h : right n1 zs = false) (v : Int) : member n1 zs v = false := by
  unfold member
  rw [h]
  rfl
theorem rightFrom_sorted (native : Int) : ∀ (zs : List Int) (last : Int), rightFrom native last zs = true → zs.Pairwise (fun a b => a < b) ∧ (∀ v ∈ zs, last < v)
  | [], _, _ => ⟨.nil, fun v hv => by cases hv⟩
  | z :: zs, last, h => by
    rw [rightFrom_cons, Bool.and_eq_true] at h
    obtain ⟨h1, h2⟩ := h
    obtain ⟨k1, k2⟩ := rightFrom_sorted native zs z h2
    have hl : last < z := by
      unfold bad at h1
      simp at h1
      omega
    refine ⟨List.pairwise_cons.2 ⟨k2, k1⟩, fun v hv => ?_⟩
    rcases List.mem_cons.1 hv with rfl | hv
    · exact hl
    · have := k2 v hv
      omega
theorem right_true {n1 : Int} {zs : List Int} (h : right n1 zs = true) : 0 ≤ n1 ∧ n1 ≤ 4094 ∧ zs.length ≤ 64 ∧ rightFrom n1 0 zs = true := by
  unfold right at h
  simpa [and_assoc] using h
/-- the members of a right port: its native VLAN, if it has one, and the tagged ones -/
def all (n1 : Int) (zs : List Int) : List Int := if n1 = 0 then zs else n1 :: zs
theorem mem_all {n1 : Int} {zs : List Int} (h : right n1 zs = true) (v : Int) : member n1 zs v = true ↔ v ∈ all n1 zs := by
  obtain ⟨h1, h2, h3, h4⟩ := right_true h
  have hb := rightFrom_bounds n1 zs 0 (Int.le_refl 0) h4
  unfold member all
  rw [h]
  by_cases h0 : n1 = 0
  · rw [if_pos h0]
    constructor
    · intro hm
      simp only [Bool.true_and, Bool.and_eq_true, Bool.not_eq_true', Bool.or_eq_true, beq_iff_eq, beq_eq_false_iff_ne, decide_eq_true_eq] at hm
      rcases hm.2 with e | e
      · exact absurd (e.trans h0) hm.1
      · exact e
    · intro hm
      have := hb v hm
      simp only [Bool.true_and, Bool.and_eq_true, Bool.not_eq_true', Bool.or_eq_true, beq_iff_eq, beq_eq_false_iff_ne, decide_eq_true_eq]
      exact ⟨by omega, .inr hm⟩
  · rw [if_neg h0, List.mem_cons]
    simp only [Bool.true_and, Bool.and_eq_true, Bool.not_eq_true', Bool.or_eq_true, beq_iff_eq, beq_eq_false_iff_ne, decide_eq_true_eq]
    constructor
    · exact fun hm => hm.2
    · intro hm
      refine ⟨?_, hm⟩
      rcases hm with e | e
      · omega
      · have := hb v e
        omega
theorem all_nodup {n1 : Int} {zs : List Int} (h : right n1 zs = true) : (all n1 zs).Nodup := by
  obtain ⟨h1, h2, h3, h4⟩ := right_true h
  have hb := rightFrom_bounds n1 zs 0 (Int.le_refl 0) h4
  have hs := (rightFrom_sorted n1 zs 0 h4).1
  have hn : zs.Nodup := hs.imp fun {a b} h => by omega
  unfold all
  split
  · exact hn
  · exact List.nodup_cons.2 ⟨fun hm => (hb n1 hm).2.2 rfl, hn⟩
theorem all_length (n1 : Int) (zs : List Int) : (all n1 zs).length = zs.length + (if n1 = 0 then 0 else 1) := by
  unfold all
  split <;> simp
theorem cnt_all {n1 : Int} {zs : List Int} (h : right n1 zs = true) : cnt n1 zs 4100 = (all n1 zs).length := by
  have hp : ((List.range 4100).filter fun (j : Nat) => member n1 zs ((j : Int) - 2)).Perm ((all n1 zs).map fun v => (v + 2).toNat) := by
    refine (List.perm_ext_iff_of_nodup (List.Pairwise.filter _ List.nodup_range) ?_).2 fun a => ?_
    · show List.Pairwise _ _
      rw [List.pairwise_map]
      refine List.Pairwise.imp_of_mem (fun {x y} hx hy hxy => ?_) (all_nodup h)
      have b1 := member_bounds ((mem_all h x).2 hx)
      have b2 := member_bounds ((mem_all h y).2 hy)
      intro e
      exact hxy (by omega)
    · rw [List.mem_filter, List.mem_map, List.mem_range]
      constructor
      · rintro ⟨h1, h2⟩
        exact ⟨(a : Int) - 2, (mem_all h _).1 h2, by omega⟩
      · rintro ⟨v, hv, rfl⟩
        have hm := (mem_all h v).2 hv
        have b1 := member_bounds hm
        refine ⟨by omega, ?_⟩
        rw [show (((v + 2).toNat : Nat) : Int) - 2 = v by omega]
        exact hm
  unfold cnt
  rw [hp.length_eq, List.length_map]
theorem both_self_len {n1 : Int} {zs : List Int} (h : right n1 zs = true) : (both n1 zs n1 zs).length = (all n1 zs).length := by
  unfold both
  rw [sortZ_len]
  have e : ((n1 :: zs).filter (inBoth n1 zs n1 zs)).Perm (all n1 zs) := by
    obtain ⟨h1, h2, h3, h4⟩ := right_true h
    have hb := rightFrom_bounds n1 zs 0 (Int.le_refl 0) h4
    have hs := (rightFrom_sorted n1 zs 0 h4).1
    have hn : (n1 :: zs).Nodup := List.nodup_cons.2 ⟨fun hm => (hb n1 hm).2.2 rfl, hs.imp fun {a b} h => by omega⟩
    refine (List.perm_ext_iff_of_nodup (List.Pairwise.filter _ hn) (all_nodup h)).2 fun a => ?_
    rw [List.mem_filter]
    unfold inBoth
    rw [Bool.and_self]
    constructor
    · exact fun hm => (mem_all h a).1 hm.2
    · intro hm
      refine ⟨?_, (mem_all h a).2 hm⟩
      unfold all at hm
      split at hm
      · exact List.mem_cons_of_mem _ hm
      · exact hm
  exact e.length_eq
theorem both_wrong {n1 : Int} {zs : List Int} (h : right n1 zs = false) : (both n1 zs n1 zs).length = 0 := by
  unfold both
  rw [sortZ_len]
  have e : (n1 :: zs).filter (inBoth n1 zs n1 zs) = [] := by
    refine List.filter_eq_nil_iff.2 fun a _ => ?_
    unfold inBoth
    rw [member_wrong h]
    simp
  rw [e]
  rfl
theorem cnt_wrong {n1 : Int} {zs : List Int} (h : right n1 zs = false) : cnt n1 zs 4100 = 0 := by
  unfold cnt
  have e : (List.range 4100).filter (fun (j : Nat) => member n1 zs ((j : Int) - 2)) = [] := by
    refine List.filter_eq_nil_iff.2 fun a _ => ?_
    rw [member_wrong h]
    simp
  rw [e]
  rfl
end Vlan

set_option maxRecDepth 20000 in
set_option maxHeartbeats 4000000 in
theorem vlanCounts_walk (n1 : Int) (a1 : Option Addr) (zs : List Int) (c1 : Nat) (w : World) (h : IntsAt w a1 zs) (hz : zs.length ≤ 9223372036854775807) (hcap : a1 = none → c1 = 0) :
    Calls Try.prog 8 #[.agg #[.int .i64 n1, .slice a1 zs.length c1]] w fun e w' => e = .returned (.bool true) ∧ Below w.heap.size w w' := by
  have HZ := Lib.hid h
  have HCAP := Lib.hid hcap
  clear h hcap
  go_enter Try.func8, Try.ntmps8
  go_upto_region 1 with fail
  generalize hW : w.alloc _ = W
  have hbW : Below w.heap.size w W := by rw [← hW]; exact (Below.refl _ _).alloc (Nat.le_refl _) _
  have R1 : Hid (RowIs W w.heap.size 24 #[.int .i64 n1, .slice a1 zs.length c1]) := by
    show RowIs _ _ _ _
    rw [← hW]
    exact rowIs_new w 24 _
  clear hW
  go_wp2_with fail
  refine (awake_any _).mono ?_
  rintro e w1 ⟨rfl, hb1⟩
  have hbW1 := hbW.trans (hb1.mono hbW.size)
  have R2 := Lib.hid (R1.out.kept hb1)
  have q0 : w1.cell? ⟨w.heap.size, 0, none⟩ = some (.int .i64 n1) := R2.out.cell 0
  have q1 : w1.cell? ⟨w.heap.size, 1, none⟩ = some (.slice a1 zs.length c1) := R2.out.cell 1
  clear R1 hb1 hbW
  go_wp2_with fail
  refine (few_any n1 n1 a1 a1 zs zs c1 c1 w1 hz hz).mono ?_
  rintro e w2 ⟨rfl, hb2⟩
  have hbW2 := hbW1.trans (hb2.mono hbW1.size)
  have R3 := Lib.hid (R2.out.kept hb2)
  clear R2 hb2 q0 q1 hbW1
  by_cases h200 : zs.length ≤ 200
  · rw [decide_eq_true h200]
    have HM := Lib.hid (fun (v : Int) (W' : World) (h : Below w.heap.size w W') => member_any n1 a1 zs c1 v W' (HZ.out.after h) (by omega))
    go_upto_region 5 with fail
    go_loopw [3, 4] (fun s3 s4 wr => ∃ k : Nat, k ≤ 4100 ∧ s4 = .int .i64 ((k : Int) - 2) ∧ s3 = .int .i64 (Vlan.cnt n1 zs k : Nat) ∧ Below w2.heap.size w2 wr) (fun _ s4 _ => (4098 - intOf s4).toNat)
    case atStart => exact ⟨0, Nat.zero_le _, rfl, rfl, Below.refl _ _⟩
    case round =>
      rename_i wr
      obtain ⟨k, hk, rfl, rfl, hbR⟩ := hrel
      have hbr := hbW2.trans (hbR.mono hbW2.size)
      have RR := Lib.hid (R3.out.kept hbR)
      have q0 : wr.cell? ⟨w.heap.size, 0, none⟩ = some (.int .i64 n1) := RR.out.cell 0
      have q1 : wr.cell? ⟨w.heap.size, 1, none⟩ = some (.slice a1 zs.length c1) := RR.out.cell 1
      by_cases hlt : k < 4100
      · have hc := Vlan.cnt_le n1 zs k
        have HN := Lib.hid (Vlan.cnt_next n1 zs k)
        have HC := Lib.hid (HM.out ((k : Int) - 2) wr hbr)
        generalize Vlan.cnt n1 zs k = c at *
        generalize Vlan.member n1 zs ((k : Int) - 2) = mb at *
        have h4 : (k : Int) - 2 ≤ 4097 := by omega
        go_wp2_with fail
        refine HC.out.mono ?_
        rintro e w3 ⟨rfl, hb3⟩
        have hbR := hbR.trans (hb3.mono hbR.size)
        clear q0 q1 HC hb3
        cases mb
        · have HN : Hid (Vlan.cnt n1 zs (k + 1) = c) := by show _ = _; rw [HN.out]; rfl
          go_wp2_with fail
          refine ⟨⟨k + 1, by omega, by go_num, by rw [HN.out], hbR⟩, ?_⟩
          simp [intOf]
          omega
        · have HN : Hid (Vlan.cnt n1 zs (k + 1) = c + 1) := by show _ = _; rw [HN.out]; rfl
          go_wp2_with fail
          refine ⟨⟨k + 1, by omega, by go_num, by rw [HN.out]; go_num, hbR⟩, ?_⟩
          simp [intOf]
          omega
      · obtain rfl : k = 4100 := by omega
        have HR := Lib.hid (fun (W' : World) (h : Below w.heap.size w W') => right_any n1 a1 zs c1 W' (HZ.out.after h) (by omega))
        have HB := Lib.hid (fun (W' : World) (h : Below w.heap.size w W') => both_any n1 n1 a1 a1 zs zs c1 c1 W' (HZ.out.after h) (HZ.out.after h) (by omega) (by omega) HCAP.out)
        clear HM
        go_wp2_with fail
        refine (HR.out wr hbr).mono ?_
        rintro e w3 ⟨rfl, hb3⟩
        have hb4 := hbr.trans (hb3.mono hbr.size)
        have RR2 := Lib.hid (RR.out.kept hb3)
        have q0 : w3.cell? ⟨w.heap.size, 0, none⟩ = some (.int .i64 n1) := RR2.out.cell 0
        have q1 : w3.cell? ⟨w.heap.size, 1, none⟩ = some (.slice a1 zs.length c1) := RR2.out.cell 1
        clear hb3 RR HR hbR hbr
        cases hr : Vlan.right n1 zs
        · have e1 := Vlan.cnt_wrong hr
          rw [e1]
          have HL := Lib.hid (Vlan.both_wrong hr)
          clear e1 hr
          go_wp2_with fail
          refine (HB.out w3 hb4).mono ?_
          rintro e w4 ⟨v, rfl, ho, hb5⟩
          obtain ⟨ao, cap, rfl, _⟩ := ho.form
          rw [HL.out]
          have hb6 := hb4.trans (hb5.mono hb4.size)
          clear ho hb5
          go_wp2_with fail
          go_ret
          exact ⟨rfl, hb6⟩
        · have e1 := Vlan.cnt_all hr
          have HL := Lib.hid (Vlan.both_self_len hr)
          rw [Vlan.all_length] at e1 HL
          rw [e1]
          clear e1 hr
          cases hn : (n1 == 0)
          · have hn1 : ¬ n1 = 0 := by simpa using hn
            have hn2 : (n1 != 0) = true := bne_iff_ne.2 hn1
            rw [if_neg hn1] at HL ⊢
            clear hn1
            go_wp2_with fail
            refine (HB.out w3 hb4).mono ?_
            rintro e w4 ⟨v, rfl, ho, hb5⟩
            obtain ⟨ao, cap, rfl, _⟩ := ho.form
            rw [HL.out]
            have hb6 := hb4.trans (hb5.mono hb4.size)
            clear ho hb5
            go_wp2_with fail
            go_ret
            exact ⟨by simp, hb6⟩
          · have hn1 : n1 = 0 := by simpa using hn
            subst hn1
            rw [if_pos rfl] at HL ⊢
            go_wp2_with fail
            refine (HB.out w3 hb4).mono ?_
            rintro e w4 ⟨v, rfl, ho, hb5⟩
            obtain ⟨ao, cap, rfl, _⟩ := ho.form
            rw [HL.out]
            have hb6 := hb4.trans (hb5.mono hb4.size)
            clear ho hb5
            go_wp2_with fail
            go_ret
            exact ⟨by simp, hb6⟩
  · rw [decide_eq_false h200]
    go_wp2_with fail
    refine (awake_any _).mono ?_
    rintro e w3 ⟨rfl, hb3⟩
    have hb4 := hbW2.trans (hb3.mono hbW2.size)
    go_wp2_with fail
    go_ret
    exact ⟨rfl, hb4⟩
end Go.Proofs.Ytnglpoognlegfaa
