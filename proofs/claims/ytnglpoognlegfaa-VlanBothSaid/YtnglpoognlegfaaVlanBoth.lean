/- The walk of VlanBoth. By an AI agent. -/
import Derived.Test.YtnglpoognlegfaaVlanCounts
import Derived.Test.YtnglpoognlegfaaGrowCall
namespace Go.Proofs.Ytnglpoognlegfaa
open Go.RowKit Go.Sort Go.Lib Grow

namespace Vlan
theorem right_of_member {n1 : Int} {zs : List Int} {v : Int} (h : member n1 zs v = true) : right n1 zs = true := by
  cases hr : right n1 zs
  · rw [member_wrong hr] at h
    cases h
  · rfl
theorem mem_both {n1 n2 v : Int} {zs ys : List Int} : v ∈ both n1 zs n2 ys ↔ (member n1 zs v && member n2 ys v) = true := by
  unfold both
  rw [(sortZ_perm _).mem_iff, List.mem_filter]
  unfold inBoth
  constructor
  · exact fun h => h.2
  · intro h
    refine ⟨?_, h⟩
    have h1 := (Bool.and_eq_true_iff.1 h).1
    have h2 := (mem_all (right_of_member h1) v).1 h1
    unfold all at h2
    split at h2
    · exact List.mem_cons_of_mem _ h2
    · exact h2
theorem both_nodup (n1 : Int) (zs : List Int) (n2 : Int) (ys : List Int) : (both n1 zs n2 ys).Nodup := by
  unfold both
  refine (sortZ_perm _).nodup_iff.2 ?_
  cases hr : right n1 zs
  · have e : (n1 :: zs).filter (inBoth n1 zs n2 ys) = [] := by
      refine List.filter_eq_nil_iff.2 fun a _ => ?_
      unfold inBoth
      rw [member_wrong hr]
      simp
    rw [e]
    exact List.nodup_nil
  · obtain ⟨h1, h2, h3, h4⟩ := right_true hr
    have hb := rightFrom_bounds n1 zs 0 (Int.le_refl 0) h4
    have hs := (rightFrom_sorted n1 zs 0 h4).1
    exact List.Pairwise.filter _ (List.nodup_cons.2 ⟨fun hm => (hb n1 hm).2.2 rfl, hs.imp fun {a b} h => by omega⟩)
theorem both_sorted (n1 : Int) (zs : List Int) (n2 : Int) (ys : List Int) : (both n1 zs n2 ys).Pairwise (fun a b => a ≤ b) := sortZ_sorted _
theorem both_swap (n1 : Int) (zs : List Int) (n2 : Int) (ys : List Int) : both n1 zs n2 ys = both n2 ys n1 zs := by
  have hp : (both n1 zs n2 ys).Perm (both n2 ys n1 zs) := (List.perm_ext_iff_of_nodup (both_nodup _ _ _ _) (both_nodup _ _ _ _)).2 fun v => by
    rw [mem_both, mem_both, Bool.and_comm]
  exact hp.eq_of_pairwise (le := fun a b => a ≤ b) (fun a b _ _ h1 h2 => by omega) (both_sorted _ _ _ _) (both_sorted _ _ _ _)
theorem both_len {n1 : Int} {zs : List Int} {n2 : Int} {ys : List Int} : (both n1 zs n2 ys).length ≤ zs.length + 1 := by
  unfold both
  rw [sortZ_len]
  exact List.length_filter_le _ _
theorem both_less {n1 n2 : Int} {zs ys : List Int} {i j : Nat} (hij : i < j) (hi : i < (both n1 zs n2 ys).length) (hj : j < (both n1 zs n2 ys).length) : (both n1 zs n2 ys)[i] < (both n1 zs n2 ys)[j] := by
  have h1 := List.pairwise_iff_getElem.1 (both_sorted n1 zs n2 ys) i j (by omega) hj hij
  have h2 := List.pairwise_iff_getElem.1 (both_nodup n1 zs n2 ys) i j (by omega) hj hij
  omega
theorem mem_take {l : List Int} {v : Int} {i : Nat} (hi : i < l.length) : decide (v ∈ l.take (i + 1)) = (decide (v ∈ l.take i) || (l[i] == v)) := by
  have e : (v ∈ l.take (i + 1)) ↔ (v ∈ l.take i ∨ v = l[i]) := by rw [List.take_succ_eq_append_getElem hi, List.mem_append, List.mem_singleton]
  by_cases h : v ∈ l.take (i + 1)
  · rw [decide_eq_true h]
    rcases e.1 h with h1 | h1
    · simp [h1]
    · simp [← h1]
  · rw [decide_eq_false h]
    have h1 : ¬ v ∈ l.take i := fun k => h (e.2 (.inl k))
    have h2 : ¬ l[i] = v := fun k => h (e.2 (.inr k.symm))
    simp [h1, h2]
end Vlan

def BothAt (base : Nat) (L : List Int) : Fact := fun w u => OutInts w base u L
theorem stable_both (base : Nat) (L : List Int) : Stable Bel (BothAt base L) := fun _ _ _ hb h => h.later hb

set_option maxRecDepth 20000 in
set_option maxHeartbeats 8000000 in
theorem vlanBoth_walk (n1 : Int) (a1 : Option Addr) (zs : List Int) (c1 : Nat) (n2 : Int) (a2 : Option Addr) (ys : List Int) (c2 : Nat) (v : Int) (_ : (Lit.int .i64 v).wf = true) (w : World) (h1 : IntsAt w a1 zs) (hz : zs.length ≤ 9223372036854775807) (hcap1 : a1 = none → c1 = 0) (h2 : IntsAt w a2 ys) (hy : ys.length ≤ 9223372036854775807) (hcap2 : a2 = none → c2 = 0) :
    Calls Try.prog 7 #[.agg #[.int .i64 n1, .slice a1 zs.length c1], .agg #[.int .i64 n2, .slice a2 ys.length c2], .int .i64 v] w fun e w' => e = .returned (.bool true) ∧ Below w.heap.size w w' := by
  have HZ := Lib.hid h1
  have HY := Lib.hid h2
  have HCAP1 := Lib.hid hcap1
  have HCAP2 := Lib.hid hcap2
  clear h1 h2 hcap1 hcap2
  go_enter Try.func7, Try.ntmps7
  go_upto_region 1 with fail
  generalize hW : (w.alloc _).alloc _ = W
  have hbW : Below w.heap.size w W := by rw [← hW]; exact ((Below.refl _ _).alloc (Nat.le_refl _) _).alloc (by simp) _
  have RA : Hid (RowIs W w.heap.size 24 #[.int .i64 n1, .slice a1 zs.length c1]) := by
    show RowIs _ _ _ _
    rw [← hW]
    exact (rowIs_new w 24 _).alloc _
  have RB : Hid (RowIs W (w.heap.size + 1) 24 #[.int .i64 n2, .slice a2 ys.length c2]) := by
    show RowIs _ _ _ _
    rw [← hW]
    exact rowIs_new1 w _ 24 _
  clear hW
  go_wp2_with fail
  refine (awake_any _).mono ?_
  rintro e w1 ⟨rfl, hb1⟩
  have hbW1 := hbW.trans (hb1.mono hbW.size)
  have RA1 := Lib.hid (RA.out.kept hb1)
  have RB1 := Lib.hid (RB.out.kept hb1)
  have q0 : w1.cell? ⟨w.heap.size, 0, none⟩ = some (.int .i64 n1) := RA1.out.cell 0
  have q1 : w1.cell? ⟨w.heap.size, 1, none⟩ = some (.slice a1 zs.length c1) := RA1.out.cell 1
  have q2 : w1.cell? ⟨w.heap.size + 1, 0, none⟩ = some (.int .i64 n2) := RB1.out.cell 0
  have q3 : w1.cell? ⟨w.heap.size + 1, 1, none⟩ = some (.slice a2 ys.length c2) := RB1.out.cell 1
  clear RA RB hb1 hbW
  go_wp2_with fail
  refine (few_any n1 n2 a1 a2 zs ys c1 c2 w1 hz hy).mono ?_
  rintro e w2 ⟨rfl, hb2⟩
  have hbW2 := hbW1.trans (hb2.mono hbW1.size)
  have RA2 := Lib.hid (RA1.out.kept hb2)
  have RB2 := Lib.hid (RB1.out.kept hb2)
  clear RA1 RB1 hb2 q0 q1 q2 q3 hbW1
  by_cases h200 : zs.length ≤ 200 ∧ ys.length ≤ 200
  · rw [decide_eq_true h200.1, decide_eq_true h200.2]
    obtain ⟨hz2, hy2⟩ := h200
    have HM1 := Lib.hid (fun (v : Int) (W' : World) (h : Below w.heap.size w W') => member_any n1 a1 zs c1 v W' (HZ.out.after h) (by omega))
    have HM2 := Lib.hid (fun (v : Int) (W' : World) (h : Below w.heap.size w W') => member_any n2 a2 ys c2 v W' (HY.out.after h) (by omega))
    have HB1 := Lib.hid (fun (W' : World) (h : Below w.heap.size w W') => both_any n1 n2 a1 a2 zs ys c1 c2 W' (HZ.out.after h) (HY.out.after h) (by omega) (by omega) HCAP1.out)
    have HB2 := Lib.hid (fun (W' : World) (h : Below w.heap.size w W') => both_any n2 n1 a2 a1 ys zs c2 c1 W' (HY.out.after h) (HZ.out.after h) (by omega) (by omega) HCAP2.out)
    go_upto_region 3 with fail
    go_cut [7, 8] (fun v7 v8 wx => Hid (OutInts wx w2.heap.size v7 (Vlan.both n1 zs n2 ys)) ∧ Hid (OutInts wx w2.heap.size v8 (Vlan.both n1 zs n2 ys)) ∧ Below w2.heap.size w2 wx)
    case first =>
      refine wp_region_mix 6 (by kernel_rfl) (by kernel_rfl) (by kernel_rfl) ?_
      refine mix_exact (.agg #[.int .i64 n1, .slice a1 zs.length c1]) rfl (exact_load_row rfl rfl (by simp) RA2.out Try.underlying24 rfl (by kernel_rfl)) ?_
      refine mix_exact (.agg #[.int .i64 n2, .slice a2 ys.length c2]) rfl (exact_load_row rfl rfl (by simp) RB2.out Try.underlying24 rfl (by kernel_rfl)) ?_
      refine mix_special (BothAt w2.heap.size (Vlan.both n1 zs n2 ys)) 22 rfl rfl (stable_both _ _) (owes_call (xs := [20, 21]) (vs := [.agg #[.int .i64 n1, .slice a1 zs.length c1], .agg #[.int .i64 n2, .slice a2 ys.length c2]]) rfl (by simp) rfl Try.func19 (by kernel_rfl) (by kernel_rfl) (fun w' hb => (HB1.out w' (hbW2.trans (hb.mono hbW2.size))).mono (by
        rintro e w'' ⟨u, rfl, ho, hbb⟩
        exact ⟨u, rfl, hbb, Go.Joins.ownsRow_le ho hb.size⟩))) ?_
      refine mix_exact (.agg #[.int .i64 n2, .slice a2 ys.length c2]) rfl (exact_load_row rfl rfl (by simp) RB2.out Try.underlying24 rfl (by kernel_rfl)) ?_
      refine mix_exact (.agg #[.int .i64 n1, .slice a1 zs.length c1]) rfl (exact_load_row rfl rfl (by simp) RA2.out Try.underlying24 rfl (by kernel_rfl)) ?_
      refine mix_special (BothAt w2.heap.size (Vlan.both n1 zs n2 ys)) 25 rfl rfl (stable_both _ _) (owes_call (xs := [23, 24]) (vs := [.agg #[.int .i64 n2, .slice a2 ys.length c2], .agg #[.int .i64 n1, .slice a1 zs.length c1]]) rfl (by simp) rfl Try.func19 (by kernel_rfl) (by kernel_rfl) (fun w' hb => (HB2.out w' (hbW2.trans (hb.mono hbW2.size))).mono (by
        rintro e w'' ⟨u, rfl, ho, hbb⟩
        refine ⟨u, rfl, hbb, ?_⟩
        show OutInts _ _ _ _
        rw [Vlan.both_swap]
        exact Go.Joins.ownsRow_le ho hb.size))) ?_
      refine mix_nil ?_
      rintro ⟨dr, osr⟩
      have hb8 := below_regrown w2 dr osr
      intro u1 f1 u2 f2
      have F1 := Lib.hid f1
      have F2 := Lib.hid f2
      clear f1 f2
      refine (show wpList _ _ _ _ _ _ from ?_)
      simp only [List.drop, Act.put, List.setIfInBounds_toArray, List.set]
      go_wp2_with fail
      go_meet
      exact ⟨F1.out, F2.out, hb8⟩
    case rest =>
      obtain ⟨HO1, HO2, hb3⟩ := hcut
      generalize wc = w3 at *
      obtain ⟨ao, cap, rfl, hI1⟩ := HO1.out.form
      obtain ⟨bo, cap', rfl, hI2⟩ := HO2.out.form
      have HI1 := Lib.hid hI1
      have HI2 := Lib.hid hI2
      have hbW3 := hbW2.trans (hb3.mono hbW2.size)
      have RA3 := Lib.hid (RA2.out.kept hb3)
      have RB3 := Lib.hid (RB2.out.kept hb3)
      have HMEM : Hid (∀ x, decide (x ∈ Vlan.both n1 zs n2 ys) = (Vlan.member n1 zs x && Vlan.member n2 ys x)) := by
        intro x
        cases hb : (Vlan.member n1 zs x && Vlan.member n2 ys x)
        · exact decide_eq_false (fun h => by rw [Vlan.mem_both, hb] at h; cases h)
        · exact decide_eq_true (Vlan.mem_both.2 hb)
      have HLESS := Lib.hid (fun (i j : Nat) (hij : i < j) (hi : i < (Vlan.both n1 zs n2 ys).length) (hj : j < (Vlan.both n1 zs n2 ys).length) => Vlan.both_less (n1 := n1) (n2 := n2) (zs := zs) (ys := ys) hij hi hj)
      have hlen : (Vlan.both n1 zs n2 ys).length ≤ 201 := Nat.le_trans Vlan.both_len (by omega)
      clear hI1 hI2 HO1 HO2 hb3 RA2 RB2 HB1 HB2
      generalize Vlan.both n1 zs n2 ys = L at *
      go_upto_region 6 with fail
      go_loopw [9, 10] (fun s9 s10 wr => ∃ i : Nat, i ≤ L.length ∧ s10 = .int .i64 i ∧ s9 = .bool (decide (v ∈ L.take i)) ∧ Below w3.heap.size w3 wr) (fun _ s10 _ => L.length - (intOf s10).toNat)
      case atStart => exact ⟨0, Nat.zero_le _, rfl, by simp, Below.refl _ _⟩
      case round =>
        rename_i wr
        obtain ⟨i, hi, rfl, rfl, hbR⟩ := hrel
        have hbr := hbW3.trans (hbR.mono hbW3.size)
        have RA4 := Lib.hid (RA3.out.kept hbR)
        have RB4 := Lib.hid (RB3.out.kept hbR)
        by_cases hlt : i < L.length
        · have HT := Lib.hid (Vlan.mem_take (v := v) hlt)
          have hmm : Vlan.member n1 zs L[i] = true ∧ Vlan.member n2 ys L[i] = true := by
            have h := HMEM.out L[i]
            rw [decide_eq_true (List.getElem_mem hlt)] at h
            exact Bool.and_eq_true_iff.1 h.symm
          obtain ⟨b, off, hao, hc1⟩ : ∃ b off, ao = some ⟨b, off, none⟩ ∧ ∀ j (hj : j < L.length), wr.cell? ⟨b, off + j, none⟩ = some (.int .i64 L[j]) := by
            rcases HI1.out.after hbR with h | ⟨b, off, h1, h2⟩
            · rw [h] at hlt
              exact absurd hlt (Nat.not_lt_zero _)
            · refine ⟨b, off, h1, fun j hj => ?_⟩
              rw [h2 j hj]
              simp [List.getD, hj]
          obtain ⟨b', off', hbo, hc2⟩ : ∃ b off, bo = some ⟨b, off, none⟩ ∧ ∀ j (hj : j < L.length), wr.cell? ⟨b, off + j, none⟩ = some (.int .i64 L[j]) := by
            rcases HI2.out.after hbR with h | ⟨b, off, h1, h2⟩
            · rw [h] at hlt
              exact absurd hlt (Nat.not_lt_zero _)
            · refine ⟨b, off, h1, fun j hj => ?_⟩
              rw [h2 j hj]
              simp [List.getD, hj]
          subst hao hbo
          have k1 := cell_regrown (hc1 i hlt)
          have k2 := cell_regrown (hc2 i hlt)
          have q1 := hc1 i hlt
          have C1 : Hid (∀ (dd : Nat) (os : Array Obj), Calls Try.prog 13 #[.agg #[.int .i64 n1, .slice a1 zs.length c1], .int .i64 L[i]] (grow (redrawn wr dd) os) fun e w' => e = .returned (.bool true) ∧ Below (grow (redrawn wr dd) os).heap.size (grow (redrawn wr dd) os) w') := fun dd os => by
            have := HM1.out L[i] (grow (redrawn wr dd) os) (hbr.trans ((below_regrown wr dd os).mono hbr.size))
            rwa [hmm.1] at this
          have C2 : Hid (∀ (dd : Nat) (os : Array Obj), Calls Try.prog 13 #[.agg #[.int .i64 n2, .slice a2 ys.length c2], .int .i64 L[i]] (grow (redrawn wr dd) os) fun e w' => e = .returned (.bool true) ∧ Below (grow (redrawn wr dd) os).heap.size (grow (redrawn wr dd) os) w') := fun dd os => by
            have := HM2.out L[i] (grow (redrawn wr dd) os) (hbr.trans ((below_regrown wr dd os).mono hbr.size))
            rwa [hmm.2] at this
          have hsame : (L[i] != L[i]) = false := by simp
          have hlsame : ((L.length : Int) != (L.length : Int)) = false := by simp
          obtain ⟨y, hy, hless⟩ : ∃ y : Int, (∀ j (_ : j + 1 = i), wr.cell? ⟨b, off + j, none⟩ = some (.int .i64 y)) ∧ (0 < i → y < L[i]) := by
            cases i with
            | zero => exact ⟨0, fun j hj => by omega, fun h => by omega⟩
            | succ j => exact ⟨L[j], fun j' hj => by obtain rfl : j' = j := by omega
                                                     exact hc1 j' (by omega), fun _ => HLESS.out _ _ (by omega) (by omega) hlt⟩
          clear hc1 hc2 hmm
          generalize L[i] = x at *
          go_upto_region 8 with fail
          go_cut [81] (fun v wx => v = .bool false ∧ Below wr.heap.size wr wx)
          case first =>
            cases i with
            | zero =>
              simp only [Nat.add_zero] at k1 k2
              refine wp_region_mix 50 (by kernel_rfl) (by kernel_rfl) (by kernel_rfl) ?_
              (refine mix_step (by kernel_rfl) (by kernel_rfl) (fun K hK => ?_); go_simp; (try (simp only [↓IntWalk.iteOmega]; go_simp)); (first | (refine hK _ ?_; clear hK K) | (apply Exists.intro; refine ⟨fun _ => ?_, hK _ ?_⟩; (first | fail); clear hK K)))
              (refine mix_step (by kernel_rfl) (by kernel_rfl) (fun K hK => ?_); go_simp; (try (simp only [↓IntWalk.iteOmega]; go_simp)); (first | (refine hK _ ?_; clear hK K) | (apply Exists.intro; refine ⟨fun _ => ?_, hK _ ?_⟩; (first | fail); clear hK K)))
              (refine mix_step (by kernel_rfl) (by kernel_rfl) (fun K hK => ?_); go_simp; (try (simp only [↓IntWalk.iteOmega]; go_simp)); (first | (refine hK _ ?_; clear hK K) | (apply Exists.intro; refine ⟨fun _ => ?_, hK _ ?_⟩; (first | fail); clear hK K)))
              (refine mix_step (by kernel_rfl) (by kernel_rfl) (fun K hK => ?_); go_simp; (try (simp only [↓IntWalk.iteOmega]; go_simp)); (first | (refine hK _ ?_; clear hK K) | (apply Exists.intro; refine ⟨fun _ => ?_, hK _ ?_⟩; (first | fail); clear hK K)))
              (refine mix_step (by kernel_rfl) (by kernel_rfl) (fun K hK => ?_); go_simp; (try (simp only [↓IntWalk.iteOmega]; go_simp)); (first | (refine hK _ ?_; clear hK K) | (apply Exists.intro; refine ⟨fun _ => ?_, hK _ ?_⟩; (first | fail); clear hK K)))
              (refine mix_step (by kernel_rfl) (by kernel_rfl) (fun K hK => ?_); go_simp; (try (simp only [↓IntWalk.iteOmega]; go_simp)); (first | (refine hK _ ?_; clear hK K) | (apply Exists.intro; refine ⟨fun _ => ?_, hK _ ?_⟩; (first | fail); clear hK K)))
              (refine mix_step (by kernel_rfl) (by kernel_rfl) (fun K hK => ?_); go_simp; (try (simp only [↓IntWalk.iteOmega]; go_simp)); (first | (refine hK _ ?_; clear hK K) | (apply Exists.intro; refine ⟨fun _ => ?_, hK _ ?_⟩; (first | fail); clear hK K)))
              (refine mix_step (by kernel_rfl) (by kernel_rfl) (fun K hK => ?_); go_simp; (try (simp only [↓IntWalk.iteOmega]; go_simp)); (first | (refine hK _ ?_; clear hK K) | (apply Exists.intro; refine ⟨fun _ => ?_, hK _ ?_⟩; (first | fail); clear hK K)))
              (refine mix_step (by kernel_rfl) (by kernel_rfl) (fun K hK => ?_); go_simp; (try (simp only [↓IntWalk.iteOmega]; go_simp)); (first | (refine hK _ ?_; clear hK K) | (apply Exists.intro; refine ⟨fun _ => ?_, hK _ ?_⟩; (first | fail); clear hK K)))
              (refine mix_step (by kernel_rfl) (by kernel_rfl) (fun K hK => ?_); go_simp; (try (simp only [↓IntWalk.iteOmega]; go_simp)); (first | (refine hK _ ?_; clear hK K) | (apply Exists.intro; refine ⟨fun _ => ?_, hK _ ?_⟩; (first | fail); clear hK K)))
              (refine mix_step (by kernel_rfl) (by kernel_rfl) (fun K hK => ?_); go_simp; (try (simp only [↓IntWalk.iteOmega]; go_simp)); (first | (refine hK _ ?_; clear hK K) | (apply Exists.intro; refine ⟨fun _ => ?_, hK _ ?_⟩; (first | fail); clear hK K)))
              (refine mix_step (by kernel_rfl) (by kernel_rfl) (fun K hK => ?_); go_simp; (try (simp only [↓IntWalk.iteOmega]; go_simp)); (first | (refine hK _ ?_; clear hK K) | (apply Exists.intro; refine ⟨fun _ => ?_, hK _ ?_⟩; (first | fail); clear hK K)))
              (refine mix_step (by kernel_rfl) (by kernel_rfl) (fun K hK => ?_); go_simp; (try (simp only [↓IntWalk.iteOmega]; go_simp)); (first | (refine hK _ ?_; clear hK K) | (apply Exists.intro; refine ⟨fun _ => ?_, hK _ ?_⟩; (first | fail); clear hK K)))
              (refine mix_step (by kernel_rfl) (by kernel_rfl) (fun K hK => ?_); go_simp; (try (simp only [↓IntWalk.iteOmega]; go_simp)); (first | (refine hK _ ?_; clear hK K) | (apply Exists.intro; refine ⟨fun _ => ?_, hK _ ?_⟩; (first | fail); clear hK K)))
              (refine mix_step (by kernel_rfl) (by kernel_rfl) (fun K hK => ?_); go_simp; (try (simp only [↓IntWalk.iteOmega]; go_simp)); (first | (refine hK _ ?_; clear hK K) | (apply Exists.intro; refine ⟨fun _ => ?_, hK _ ?_⟩; (first | fail); clear hK K)))
              (refine mix_step (by kernel_rfl) (by kernel_rfl) (fun K hK => ?_); go_simp; (try (simp only [↓IntWalk.iteOmega]; go_simp)); (first | (refine hK _ ?_; clear hK K) | (apply Exists.intro; refine ⟨fun _ => ?_, hK _ ?_⟩; (first | fail); clear hK K)))
              (refine mix_step (by kernel_rfl) (by kernel_rfl) (fun K hK => ?_); go_simp; (try (simp only [↓IntWalk.iteOmega]; go_simp)); (first | (refine hK _ ?_; clear hK K) | (apply Exists.intro; refine ⟨fun _ => ?_, hK _ ?_⟩; (first | fail); clear hK K)))
              refine mix_exact (.agg #[.int .i64 n1, .slice a1 zs.length c1]) rfl (exact_load_row rfl rfl (by simp) RA4.out Try.underlying24 rfl (by kernel_rfl)) ?_
              (refine mix_step (by kernel_rfl) (by kernel_rfl) (fun K hK => ?_); go_simp; (try (simp only [↓IntWalk.iteOmega]; go_simp)); (first | (refine hK _ ?_; clear hK K) | (apply Exists.intro; refine ⟨fun _ => ?_, hK _ ?_⟩; (first | fail); clear hK K)))
              (refine mix_step (by kernel_rfl) (by kernel_rfl) (fun K hK => ?_); go_simp; (try (simp only [↓IntWalk.iteOmega]; go_simp)); (first | (refine hK _ ?_; clear hK K) | (apply Exists.intro; refine ⟨fun _ => ?_, hK _ ?_⟩; (first | fail); clear hK K)))
              (refine mix_step (by kernel_rfl) (by kernel_rfl) (fun K hK => ?_); go_simp; (try (simp only [↓IntWalk.iteOmega]; go_simp)); (first | (refine hK _ ?_; clear hK K) | (apply Exists.intro; refine ⟨fun _ => ?_, hK _ ?_⟩; (first | fail); clear hK K)))
              (refine mix_step (by kernel_rfl) (by kernel_rfl) (fun K hK => ?_); go_simp; (try (simp only [↓IntWalk.iteOmega]; go_simp)); (first | (refine hK _ ?_; clear hK K) | (apply Exists.intro; refine ⟨fun _ => ?_, hK _ ?_⟩; (first | fail); clear hK K)))
              (refine mix_step (by kernel_rfl) (by kernel_rfl) (fun K hK => ?_); go_simp; (try (simp only [↓IntWalk.iteOmega]; go_simp)); (first | (refine hK _ ?_; clear hK K) | (apply Exists.intro; refine ⟨fun _ => ?_, hK _ ?_⟩; (first | exact C1.out _ _); clear hK K)))
              (refine mix_step (by kernel_rfl) (by kernel_rfl) (fun K hK => ?_); go_simp; (try (simp only [↓IntWalk.iteOmega]; go_simp)); (first | (refine hK _ ?_; clear hK K) | (apply Exists.intro; refine ⟨fun _ => ?_, hK _ ?_⟩; (first | fail); clear hK K)))
              (refine mix_step (by kernel_rfl) (by kernel_rfl) (fun K hK => ?_); go_simp; (try (simp only [↓IntWalk.iteOmega]; go_simp)); (first | (refine hK _ ?_; clear hK K) | (apply Exists.intro; refine ⟨fun _ => ?_, hK _ ?_⟩; (first | fail); clear hK K)))
              (refine mix_step (by kernel_rfl) (by kernel_rfl) (fun K hK => ?_); go_simp; (try (simp only [↓IntWalk.iteOmega]; go_simp)); (first | (refine hK _ ?_; clear hK K) | (apply Exists.intro; refine ⟨fun _ => ?_, hK _ ?_⟩; (first | fail); clear hK K)))
              refine mix_exact (.agg #[.int .i64 n2, .slice a2 ys.length c2]) rfl (exact_load_row rfl rfl (by simp) RB4.out Try.underlying24 rfl (by kernel_rfl)) ?_
              (refine mix_step (by kernel_rfl) (by kernel_rfl) (fun K hK => ?_); go_simp; (try (simp only [↓IntWalk.iteOmega]; go_simp)); (first | (refine hK _ ?_; clear hK K) | (apply Exists.intro; refine ⟨fun _ => ?_, hK _ ?_⟩; (first | fail); clear hK K)))
              (refine mix_step (by kernel_rfl) (by kernel_rfl) (fun K hK => ?_); go_simp; (try (simp only [↓IntWalk.iteOmega]; go_simp)); (first | (refine hK _ ?_; clear hK K) | (apply Exists.intro; refine ⟨fun _ => ?_, hK _ ?_⟩; (first | fail); clear hK K)))
              (refine mix_step (by kernel_rfl) (by kernel_rfl) (fun K hK => ?_); go_simp; (try (simp only [↓IntWalk.iteOmega]; go_simp)); (first | (refine hK _ ?_; clear hK K) | (apply Exists.intro; refine ⟨fun _ => ?_, hK _ ?_⟩; (first | fail); clear hK K)))
              (refine mix_step (by kernel_rfl) (by kernel_rfl) (fun K hK => ?_); go_simp; (try (simp only [↓IntWalk.iteOmega]; go_simp)); (first | (refine hK _ ?_; clear hK K) | (apply Exists.intro; refine ⟨fun _ => ?_, hK _ ?_⟩; (first | fail); clear hK K)))
              (refine mix_step (by kernel_rfl) (by kernel_rfl) (fun K hK => ?_); go_simp; (try (simp only [↓IntWalk.iteOmega]; go_simp)); (first | (refine hK _ ?_; clear hK K) | (apply Exists.intro; refine ⟨fun _ => ?_, hK _ ?_⟩; (first | exact C2.out _ _); clear hK K)))
              (refine mix_step (by kernel_rfl) (by kernel_rfl) (fun K hK => ?_); go_simp; (try (simp only [↓IntWalk.iteOmega]; go_simp)); (first | (refine hK _ ?_; clear hK K) | (apply Exists.intro; refine ⟨fun _ => ?_, hK _ ?_⟩; (first | fail); clear hK K)))
              (refine mix_step (by kernel_rfl) (by kernel_rfl) (fun K hK => ?_); go_simp; (try (simp only [↓IntWalk.iteOmega]; go_simp)); (first | (refine hK _ ?_; clear hK K) | (apply Exists.intro; refine ⟨fun _ => ?_, hK _ ?_⟩; (first | fail); clear hK K)))
              (refine mix_step (by kernel_rfl) (by kernel_rfl) (fun K hK => ?_); go_simp; (try (simp only [↓IntWalk.iteOmega]; go_simp)); (first | (refine hK _ ?_; clear hK K) | (apply Exists.intro; refine ⟨fun _ => ?_, hK _ ?_⟩; (first | fail); clear hK K)))
              (refine mix_step (by kernel_rfl) (by kernel_rfl) (fun K hK => ?_); go_simp; (try (simp only [↓IntWalk.iteOmega]; go_simp)); (first | (refine hK _ ?_; clear hK K) | (apply Exists.intro; refine ⟨fun _ => ?_, hK _ ?_⟩; (first | fail); clear hK K)))
              (refine mix_step (by kernel_rfl) (by kernel_rfl) (fun K hK => ?_); go_simp; (try (simp only [↓IntWalk.iteOmega]; go_simp)); (first | (refine hK _ ?_; clear hK K) | (apply Exists.intro; refine ⟨fun _ => ?_, hK _ ?_⟩; (first | fail); clear hK K)))
              (refine mix_step (by kernel_rfl) (by kernel_rfl) (fun K hK => ?_); go_simp; (try (simp only [↓IntWalk.iteOmega]; go_simp)); (first | (refine hK _ ?_; clear hK K) | (apply Exists.intro; refine ⟨fun _ => ?_, hK _ ?_⟩; (first | fail); clear hK K)))
              (refine mix_step (by kernel_rfl) (by kernel_rfl) (fun K hK => ?_); go_simp; (try (simp only [↓IntWalk.iteOmega]; go_simp)); (first | (refine hK _ ?_; clear hK K) | (apply Exists.intro; refine ⟨fun _ => ?_, hK _ ?_⟩; (first | fail); clear hK K)))
              (refine mix_step (by kernel_rfl) (by kernel_rfl) (fun K hK => ?_); go_simp; (try (simp only [↓IntWalk.iteOmega]; go_simp)); (first | (refine hK _ ?_; clear hK K) | (apply Exists.intro; refine ⟨fun _ => ?_, hK _ ?_⟩; (first | fail); clear hK K)))
              (refine mix_step (by kernel_rfl) (by kernel_rfl) (fun K hK => ?_); go_simp; (try (simp only [↓IntWalk.iteOmega]; go_simp)); (first | (refine hK _ ?_; clear hK K) | (apply Exists.intro; refine ⟨fun _ => ?_, hK _ ?_⟩; (first | fail); clear hK K)))
              (refine mix_step (by kernel_rfl) (by kernel_rfl) (fun K hK => ?_); go_simp; (try (simp only [↓IntWalk.iteOmega]; go_simp)); (first | (refine hK _ ?_; clear hK K) | (apply Exists.intro; refine ⟨fun _ => ?_, hK _ ?_⟩; (first | fail); clear hK K)))
              (refine mix_step (by kernel_rfl) (by kernel_rfl) (fun K hK => ?_); go_simp; (try (simp only [↓IntWalk.iteOmega]; go_simp)); (first | (refine hK _ ?_; clear hK K) | (apply Exists.intro; refine ⟨fun _ => ?_, hK _ ?_⟩; (first | fail); clear hK K)))
              (refine mix_step (by kernel_rfl) (by kernel_rfl) (fun K hK => ?_); go_simp; (try (simp only [↓IntWalk.iteOmega]; go_simp)); (first | (refine hK _ ?_; clear hK K) | (apply Exists.intro; refine ⟨fun _ => ?_, hK _ ?_⟩; (first | fail); clear hK K)))
              (refine mix_step (by kernel_rfl) (by kernel_rfl) (fun K hK => ?_); go_simp; (try (simp only [↓IntWalk.iteOmega]; go_simp)); (first | (refine hK _ ?_; clear hK K) | (apply Exists.intro; refine ⟨fun _ => ?_, hK _ ?_⟩; (first | fail); clear hK K)))
              (refine mix_step (by kernel_rfl) (by kernel_rfl) (fun K hK => ?_); go_simp; (try (simp only [↓IntWalk.iteOmega]; go_simp)); (first | (refine hK _ ?_; clear hK K) | (apply Exists.intro; refine ⟨fun _ => ?_, hK _ ?_⟩; (first | fail); clear hK K)))
              (refine mix_step (by kernel_rfl) (by kernel_rfl) (fun K hK => ?_); go_simp; (try (simp only [↓IntWalk.iteOmega]; go_simp)); (first | (refine hK _ ?_; clear hK K) | (apply Exists.intro; refine ⟨fun _ => ?_, hK _ ?_⟩; (first | fail); clear hK K)))
              (refine mix_step (by kernel_rfl) (by kernel_rfl) (fun K hK => ?_); go_simp; (try (simp only [↓IntWalk.iteOmega]; go_simp)); (first | (refine hK _ ?_; clear hK K) | (apply Exists.intro; refine ⟨fun _ => ?_, hK _ ?_⟩; (first | fail); clear hK K)))
              (refine mix_step (by kernel_rfl) (by kernel_rfl) (fun K hK => ?_); go_simp; (try (simp only [↓IntWalk.iteOmega]; go_simp)); (first | (refine hK _ ?_; clear hK K) | (apply Exists.intro; refine ⟨fun _ => ?_, hK _ ?_⟩; (first | fail); clear hK K)))
              (refine mix_step (by kernel_rfl) (by kernel_rfl) (fun K hK => ?_); go_simp; (try (simp only [↓IntWalk.iteOmega]; go_simp)); (first | (refine hK _ ?_; clear hK K) | (apply Exists.intro; refine ⟨fun _ => ?_, hK _ ?_⟩; (first | fail); clear hK K)))
              refine mix_nil ?_
              rintro ⟨dr, osr⟩
              have hb8 := below_regrown wr dr osr
              refine (show wpList _ _ _ _ _ _ from ?_)
              simp only [List.drop, Act.put, List.setIfInBounds_toArray, List.set]
              go_wp2_with fail
              go_meet
              exact ⟨rfl, hb8⟩
            | succ j =>
              have hy := hless (by omega)
              have hle : decide (x ≤ y) = false := decide_eq_false (by omega)
              have k3 := cell_regrown (‹∀ j' (_ : j' + 1 = j + 1), wr.cell? ⟨b, off + j', none⟩ = some (.int .i64 y)› j rfl)
              have w1 : IntKind.i64.wrap (j : Int) = (j : Int) := by rw [IntKind.wrap_i64]; omega
              refine wp_region_mix 50 (by kernel_rfl) (by kernel_rfl) (by kernel_rfl) ?_
              (refine mix_step (by kernel_rfl) (by kernel_rfl) (fun K hK => ?_); go_simp; (try (simp only [↓IntWalk.iteOmega]; go_simp)); (first | (refine hK _ ?_; clear hK K) | (apply Exists.intro; refine ⟨fun _ => ?_, hK _ ?_⟩; (first | fail); clear hK K)))
              (refine mix_step (by kernel_rfl) (by kernel_rfl) (fun K hK => ?_); go_simp; (try (simp only [↓IntWalk.iteOmega]; go_simp)); (first | (refine hK _ ?_; clear hK K) | (apply Exists.intro; refine ⟨fun _ => ?_, hK _ ?_⟩; (first | fail); clear hK K)))
              (refine mix_step (by kernel_rfl) (by kernel_rfl) (fun K hK => ?_); go_simp; (try (simp only [↓IntWalk.iteOmega]; go_simp)); (first | (refine hK _ ?_; clear hK K) | (apply Exists.intro; refine ⟨fun _ => ?_, hK _ ?_⟩; (first | fail); clear hK K)))
              (refine mix_step (by kernel_rfl) (by kernel_rfl) (fun K hK => ?_); go_simp; (try (simp only [↓IntWalk.iteOmega]; go_simp)); (first | (refine hK _ ?_; clear hK K) | (apply Exists.intro; refine ⟨fun _ => ?_, hK _ ?_⟩; (first | fail); clear hK K)))
              (refine mix_step (by kernel_rfl) (by kernel_rfl) (fun K hK => ?_); go_simp; (try (simp only [↓IntWalk.iteOmega]; go_simp)); (first | (refine hK _ ?_; clear hK K) | (apply Exists.intro; refine ⟨fun _ => ?_, hK _ ?_⟩; (first | fail); clear hK K)))
              (refine mix_step (by kernel_rfl) (by kernel_rfl) (fun K hK => ?_); go_simp; (try (simp only [↓IntWalk.iteOmega]; go_simp)); (first | (refine hK _ ?_; clear hK K) | (apply Exists.intro; refine ⟨fun _ => ?_, hK _ ?_⟩; (first | fail); clear hK K)))
              (refine mix_step (by kernel_rfl) (by kernel_rfl) (fun K hK => ?_); go_simp; (try (simp only [↓IntWalk.iteOmega]; go_simp)); (first | (refine hK _ ?_; clear hK K) | (apply Exists.intro; refine ⟨fun _ => ?_, hK _ ?_⟩; (first | fail); clear hK K)))
              (refine mix_step (by kernel_rfl) (by kernel_rfl) (fun K hK => ?_); go_simp; (try (simp only [↓IntWalk.iteOmega]; go_simp)); (first | (refine hK _ ?_; clear hK K) | (apply Exists.intro; refine ⟨fun _ => ?_, hK _ ?_⟩; (first | fail); clear hK K)))
              (refine mix_step (by kernel_rfl) (by kernel_rfl) (fun K hK => ?_); go_simp; (try (simp only [↓IntWalk.iteOmega]; go_simp)); (first | (refine hK _ ?_; clear hK K) | (apply Exists.intro; refine ⟨fun _ => ?_, hK _ ?_⟩; (first | fail); clear hK K)))
              (refine mix_step (by kernel_rfl) (by kernel_rfl) (fun K hK => ?_); go_simp; (try (simp only [↓IntWalk.iteOmega]; go_simp)); (first | (refine hK _ ?_; clear hK K) | (apply Exists.intro; refine ⟨fun _ => ?_, hK _ ?_⟩; (first | fail); clear hK K)))
              (refine mix_step (by kernel_rfl) (by kernel_rfl) (fun K hK => ?_); go_simp; (try (simp only [↓IntWalk.iteOmega]; go_simp)); (first | (refine hK _ ?_; clear hK K) | (apply Exists.intro; refine ⟨fun _ => ?_, hK _ ?_⟩; (first | fail); clear hK K)))
              (refine mix_step (by kernel_rfl) (by kernel_rfl) (fun K hK => ?_); go_simp; (try (simp only [↓IntWalk.iteOmega]; go_simp)); (first | (refine hK _ ?_; clear hK K) | (apply Exists.intro; refine ⟨fun _ => ?_, hK _ ?_⟩; (first | fail); clear hK K)))
              (refine mix_step (by kernel_rfl) (by kernel_rfl) (fun K hK => ?_); go_simp; (try (simp only [↓IntWalk.iteOmega]; go_simp)); (first | (refine hK _ ?_; clear hK K) | (apply Exists.intro; refine ⟨fun _ => ?_, hK _ ?_⟩; (first | fail); clear hK K)))
              (refine mix_step (by kernel_rfl) (by kernel_rfl) (fun K hK => ?_); go_simp; (try (simp only [↓IntWalk.iteOmega]; go_simp)); (first | (refine hK _ ?_; clear hK K) | (apply Exists.intro; refine ⟨fun _ => ?_, hK _ ?_⟩; (first | fail); clear hK K)))
              (refine mix_step (by kernel_rfl) (by kernel_rfl) (fun K hK => ?_); go_simp; (try (simp only [↓IntWalk.iteOmega]; go_simp)); (first | (refine hK _ ?_; clear hK K) | (apply Exists.intro; refine ⟨fun _ => ?_, hK _ ?_⟩; (first | fail); clear hK K)))
              (refine mix_step (by kernel_rfl) (by kernel_rfl) (fun K hK => ?_); go_simp; (try (simp only [↓IntWalk.iteOmega]; go_simp)); (first | (refine hK _ ?_; clear hK K) | (apply Exists.intro; refine ⟨fun _ => ?_, hK _ ?_⟩; (first | fail); clear hK K)))
              (refine mix_step (by kernel_rfl) (by kernel_rfl) (fun K hK => ?_); go_simp; (try (simp only [↓IntWalk.iteOmega]; go_simp)); (first | (refine hK _ ?_; clear hK K) | (apply Exists.intro; refine ⟨fun _ => ?_, hK _ ?_⟩; (first | fail); clear hK K)))
              refine mix_exact (.agg #[.int .i64 n1, .slice a1 zs.length c1]) rfl (exact_load_row rfl rfl (by simp) RA4.out Try.underlying24 rfl (by kernel_rfl)) ?_
              (refine mix_step (by kernel_rfl) (by kernel_rfl) (fun K hK => ?_); go_simp; (try (simp only [↓IntWalk.iteOmega]; go_simp)); (first | (refine hK _ ?_; clear hK K) | (apply Exists.intro; refine ⟨fun _ => ?_, hK _ ?_⟩; (first | fail); clear hK K)))
              (refine mix_step (by kernel_rfl) (by kernel_rfl) (fun K hK => ?_); go_simp; (try (simp only [↓IntWalk.iteOmega]; go_simp)); (first | (refine hK _ ?_; clear hK K) | (apply Exists.intro; refine ⟨fun _ => ?_, hK _ ?_⟩; (first | fail); clear hK K)))
              (refine mix_step (by kernel_rfl) (by kernel_rfl) (fun K hK => ?_); go_simp; (try (simp only [↓IntWalk.iteOmega]; go_simp)); (first | (refine hK _ ?_; clear hK K) | (apply Exists.intro; refine ⟨fun _ => ?_, hK _ ?_⟩; (first | fail); clear hK K)))
              (refine mix_step (by kernel_rfl) (by kernel_rfl) (fun K hK => ?_); go_simp; (try (simp only [↓IntWalk.iteOmega]; go_simp)); (first | (refine hK _ ?_; clear hK K) | (apply Exists.intro; refine ⟨fun _ => ?_, hK _ ?_⟩; (first | fail); clear hK K)))
              (refine mix_step (by kernel_rfl) (by kernel_rfl) (fun K hK => ?_); go_simp; (try (simp only [↓IntWalk.iteOmega]; go_simp)); (first | (refine hK _ ?_; clear hK K) | (apply Exists.intro; refine ⟨fun _ => ?_, hK _ ?_⟩; (first | exact C1.out _ _); clear hK K)))
              (refine mix_step (by kernel_rfl) (by kernel_rfl) (fun K hK => ?_); go_simp; (try (simp only [↓IntWalk.iteOmega]; go_simp)); (first | (refine hK _ ?_; clear hK K) | (apply Exists.intro; refine ⟨fun _ => ?_, hK _ ?_⟩; (first | fail); clear hK K)))
              (refine mix_step (by kernel_rfl) (by kernel_rfl) (fun K hK => ?_); go_simp; (try (simp only [↓IntWalk.iteOmega]; go_simp)); (first | (refine hK _ ?_; clear hK K) | (apply Exists.intro; refine ⟨fun _ => ?_, hK _ ?_⟩; (first | fail); clear hK K)))
              (refine mix_step (by kernel_rfl) (by kernel_rfl) (fun K hK => ?_); go_simp; (try (simp only [↓IntWalk.iteOmega]; go_simp)); (first | (refine hK _ ?_; clear hK K) | (apply Exists.intro; refine ⟨fun _ => ?_, hK _ ?_⟩; (first | fail); clear hK K)))
              refine mix_exact (.agg #[.int .i64 n2, .slice a2 ys.length c2]) rfl (exact_load_row rfl rfl (by simp) RB4.out Try.underlying24 rfl (by kernel_rfl)) ?_
              (refine mix_step (by kernel_rfl) (by kernel_rfl) (fun K hK => ?_); go_simp; (try (simp only [↓IntWalk.iteOmega]; go_simp)); (first | (refine hK _ ?_; clear hK K) | (apply Exists.intro; refine ⟨fun _ => ?_, hK _ ?_⟩; (first | fail); clear hK K)))
              (refine mix_step (by kernel_rfl) (by kernel_rfl) (fun K hK => ?_); go_simp; (try (simp only [↓IntWalk.iteOmega]; go_simp)); (first | (refine hK _ ?_; clear hK K) | (apply Exists.intro; refine ⟨fun _ => ?_, hK _ ?_⟩; (first | fail); clear hK K)))
              (refine mix_step (by kernel_rfl) (by kernel_rfl) (fun K hK => ?_); go_simp; (try (simp only [↓IntWalk.iteOmega]; go_simp)); (first | (refine hK _ ?_; clear hK K) | (apply Exists.intro; refine ⟨fun _ => ?_, hK _ ?_⟩; (first | fail); clear hK K)))
              (refine mix_step (by kernel_rfl) (by kernel_rfl) (fun K hK => ?_); go_simp; (try (simp only [↓IntWalk.iteOmega]; go_simp)); (first | (refine hK _ ?_; clear hK K) | (apply Exists.intro; refine ⟨fun _ => ?_, hK _ ?_⟩; (first | fail); clear hK K)))
              (refine mix_step (by kernel_rfl) (by kernel_rfl) (fun K hK => ?_); go_simp; (try (simp only [↓IntWalk.iteOmega]; go_simp)); (first | (refine hK _ ?_; clear hK K) | (apply Exists.intro; refine ⟨fun _ => ?_, hK _ ?_⟩; (first | exact C2.out _ _); clear hK K)))
              (refine mix_step (by kernel_rfl) (by kernel_rfl) (fun K hK => ?_); go_simp; (try (simp only [↓IntWalk.iteOmega]; go_simp)); (first | (refine hK _ ?_; clear hK K) | (apply Exists.intro; refine ⟨fun _ => ?_, hK _ ?_⟩; (first | fail); clear hK K)))
              (refine mix_step (by kernel_rfl) (by kernel_rfl) (fun K hK => ?_); go_simp; (try (simp only [↓IntWalk.iteOmega]; go_simp)); (first | (refine hK _ ?_; clear hK K) | (apply Exists.intro; refine ⟨fun _ => ?_, hK _ ?_⟩; (first | fail); clear hK K)))
              (refine mix_step (by kernel_rfl) (by kernel_rfl) (fun K hK => ?_); go_simp; (try (simp only [↓IntWalk.iteOmega]; go_simp)); (first | (refine hK _ ?_; clear hK K) | (apply Exists.intro; refine ⟨fun _ => ?_, hK _ ?_⟩; (first | fail); clear hK K)))
              (refine mix_step (by kernel_rfl) (by kernel_rfl) (fun K hK => ?_); go_simp; (try (simp only [↓IntWalk.iteOmega]; go_simp)); (first | (refine hK _ ?_; clear hK K) | (apply Exists.intro; refine ⟨fun _ => ?_, hK _ ?_⟩; (first | fail); clear hK K)))
              (refine mix_step (by kernel_rfl) (by kernel_rfl) (fun K hK => ?_); go_simp; (try (simp only [↓IntWalk.iteOmega]; go_simp)); (first | (refine hK _ ?_; clear hK K) | (apply Exists.intro; refine ⟨fun _ => ?_, hK _ ?_⟩; (first | fail); clear hK K)))
              (refine mix_step (by kernel_rfl) (by kernel_rfl) (fun K hK => ?_); go_simp; (try (simp only [↓IntWalk.iteOmega]; go_simp)); (first | (refine hK _ ?_; clear hK K) | (apply Exists.intro; refine ⟨fun _ => ?_, hK _ ?_⟩; (first | fail); clear hK K)))
              (refine mix_step (by kernel_rfl) (by kernel_rfl) (fun K hK => ?_); go_simp; (try (simp only [↓IntWalk.iteOmega]; go_simp)); (first | (refine hK _ ?_; clear hK K) | (apply Exists.intro; refine ⟨fun _ => ?_, hK _ ?_⟩; (first | fail); clear hK K)))
              (refine mix_step (by kernel_rfl) (by kernel_rfl) (fun K hK => ?_); go_simp; (try (simp only [↓IntWalk.iteOmega]; go_simp)); (first | (refine hK _ ?_; clear hK K) | (apply Exists.intro; refine ⟨fun _ => ?_, hK _ ?_⟩; (first | fail); clear hK K)))
              (refine mix_step (by kernel_rfl) (by kernel_rfl) (fun K hK => ?_); go_simp; (try (simp only [↓IntWalk.iteOmega]; go_simp)); (first | (refine hK _ ?_; clear hK K) | (apply Exists.intro; refine ⟨fun _ => ?_, hK _ ?_⟩; (first | fail); clear hK K)))
              (refine mix_step (by kernel_rfl) (by kernel_rfl) (fun K hK => ?_); go_simp; (try (simp only [↓IntWalk.iteOmega]; go_simp)); (first | (refine hK _ ?_; clear hK K) | (apply Exists.intro; refine ⟨fun _ => ?_, hK _ ?_⟩; (first | fail); clear hK K)))
              (refine mix_step (by kernel_rfl) (by kernel_rfl) (fun K hK => ?_); go_simp; (try (simp only [↓IntWalk.iteOmega]; go_simp)); (first | (refine hK _ ?_; clear hK K) | (apply Exists.intro; refine ⟨fun _ => ?_, hK _ ?_⟩; (first | fail); clear hK K)))
              (refine mix_step (by kernel_rfl) (by kernel_rfl) (fun K hK => ?_); go_simp; (try (simp only [↓IntWalk.iteOmega]; go_simp)); (first | (refine hK _ ?_; clear hK K) | (apply Exists.intro; refine ⟨fun _ => ?_, hK _ ?_⟩; (first | fail); clear hK K)))
              (refine mix_step (by kernel_rfl) (by kernel_rfl) (fun K hK => ?_); go_simp; (try (simp only [↓IntWalk.iteOmega]; go_simp)); (first | (refine hK _ ?_; clear hK K) | (apply Exists.intro; refine ⟨fun _ => ?_, hK _ ?_⟩; (first | fail); clear hK K)))
              (refine mix_step (by kernel_rfl) (by kernel_rfl) (fun K hK => ?_); go_simp; (try (simp only [↓IntWalk.iteOmega]; go_simp)); (first | (refine hK _ ?_; clear hK K) | (apply Exists.intro; refine ⟨fun _ => ?_, hK _ ?_⟩; (first | fail); clear hK K)))
              (refine mix_step (by kernel_rfl) (by kernel_rfl) (fun K hK => ?_); go_simp; (try (simp only [↓IntWalk.iteOmega]; go_simp)); (first | (refine hK _ ?_; clear hK K) | (apply Exists.intro; refine ⟨fun _ => ?_, hK _ ?_⟩; (first | fail); clear hK K)))
              (refine mix_step (by kernel_rfl) (by kernel_rfl) (fun K hK => ?_); go_simp; (try (simp only [↓IntWalk.iteOmega]; go_simp)); (first | (refine hK _ ?_; clear hK K) | (apply Exists.intro; refine ⟨fun _ => ?_, hK _ ?_⟩; (first | fail); clear hK K)))
              (refine mix_step (by kernel_rfl) (by kernel_rfl) (fun K hK => ?_); go_simp; (try (simp only [↓IntWalk.iteOmega]; go_simp)); (first | (refine hK _ ?_; clear hK K) | (apply Exists.intro; refine ⟨fun _ => ?_, hK _ ?_⟩; (first | fail); clear hK K)))
              (refine mix_step (by kernel_rfl) (by kernel_rfl) (fun K hK => ?_); go_simp; (try (simp only [↓IntWalk.iteOmega]; go_simp)); (first | (refine hK _ ?_; clear hK K) | (apply Exists.intro; refine ⟨fun _ => ?_, hK _ ?_⟩; (first | fail); clear hK K)))
              refine mix_nil ?_
              rintro ⟨dr, osr⟩
              have hb8 := below_regrown wr dr osr
              refine (show wpList _ _ _ _ _ _ from ?_)
              simp only [List.drop, Act.put, List.setIfInBounds_toArray, List.set]
              go_wp2_with fail
              go_meet
              exact ⟨rfl, hb8⟩
          case rest =>
            obtain ⟨rfl, hb4⟩ := hcut
            generalize wc = w4 at *
            have q1 : w4.cell? ⟨b, off + i, none⟩ = some (.int .i64 x) := cell_of_below hb4 q1
            have hbR4 := hbR.trans (hb4.mono hbR.size)
            clear k1 k2 C1 C2 hb4 hless hy RA4 RB4 hbR hbr
            cases hh : decide (v ∈ L.take i)
            · rw [hh] at HT
              have HT : Hid (decide (v ∈ L.take (i + 1)) = (x == v)) := HT.out
              clear hh
              go_wp2_with fail
              refine ⟨⟨i + 1, by omega, by go_num, by rw [HT.out], hbR4⟩, by simp [intOf]; omega⟩
            · rw [hh] at HT
              have HT : Hid (decide (v ∈ L.take (i + 1)) = true) := HT.out
              clear hh
              go_wp2_with fail
              refine ⟨⟨i + 1, by omega, by go_num, by rw [HT.out], hbR4⟩, by simp [intOf]; omega⟩
        · obtain rfl : i = L.length := by omega
          rw [List.take_length, HMEM.out v]
          have HC1 := Lib.hid (HM1.out v wr hbr)
          have HC2 := Lib.hid (fun W' (h : Below wr.heap.size wr W') => HM2.out v W' (hbr.trans (h.mono hbr.size)))
          have q0 : wr.cell? ⟨w.heap.size, 0, none⟩ = some (.int .i64 n1) := RA4.out.cell 0
          have q1 : wr.cell? ⟨w.heap.size, 1, none⟩ = some (.slice a1 zs.length c1) := RA4.out.cell 1
          generalize Vlan.member n1 zs v = m1 at *
          generalize Vlan.member n2 ys v = m2 at *
          cases m1
          · go_wp2_with fail
            refine HC1.out.mono ?_
            rintro e w5 ⟨rfl, hb5⟩
            have hbf := hbr.trans (hb5.mono hbr.size)
            go_wp2_with fail
            go_ret
            exact ⟨by simp, hbf⟩
          · go_wp2_with fail
            refine HC1.out.mono ?_
            rintro e w5 ⟨rfl, hb5⟩
            have RC := Lib.hid (RB4.out.kept hb5)
            have q2 : w5.cell? ⟨w.heap.size + 1, 0, none⟩ = some (.int .i64 n2) := RC.out.cell 0
            have q3 : w5.cell? ⟨w.heap.size + 1, 1, none⟩ = some (.slice a2 ys.length c2) := RC.out.cell 1
            go_wp2_with fail
            refine (HC2.out _ hb5).mono ?_
            rintro e w6 ⟨rfl, hb6⟩
            have hbf := hbr.trans ((hb5.trans (hb6.mono hb5.size)).mono hbr.size)
            go_wp2_with fail
            go_ret
            exact ⟨by cases m2 <;> simp, hbf⟩
  · have hf : (decide (zs.length ≤ 200) && decide (ys.length ≤ 200)) = false := by
      rw [← Bool.decide_and]
      exact decide_eq_false h200
    rw [hf]
    clear hf h200
    go_wp2_with fail
    refine (awake_any _).mono ?_
    rintro e w3 ⟨rfl, hb3⟩
    have hb4 := hbW2.trans (hb3.mono hbW2.size)
    go_wp2_with fail
    go_ret
    exact ⟨rfl, hb4⟩
end Go.Proofs.Ytnglpoognlegfaa
