/- causeylaw11.Plain; causeyref11.Right. By an AI agent. -/
import Derived.Test.YtdhiaidbpjjljaaBpduFlags
import Derived.Deep.DeepCutAuto
import Derived.WalkSmall
import Derived.Lib.Hide
namespace Go.Proofs.Ytdhiaidbpjjljaa
open Go.RowKit Go.Sort Grow

theorem info_rword' : (Try.prog.info? 63).map (·.size) = some 24 := by kernel_rfl

set_option maxHeartbeats 2000000 in
theorem plain_any (r b : Nat → UInt8) (co po ag ma he de : Int) (ch ak : Bool) (w : World) :
    Calls Try.prog 22 #[.agg #[.int .u8 ((r 0).toNat : Int), .int .u8 ((r 1).toNat : Int), .int .u8 ((r 2).toNat : Int), .int .u8 ((r 3).toNat : Int), .int .u8 ((r 4).toNat : Int), .int .u8 ((r 5).toNat : Int), .int .u8 ((r 6).toNat : Int), .int .u8 ((r 7).toNat : Int), .int .u8 ((b 0).toNat : Int), .int .u8 ((b 1).toNat : Int), .int .u8 ((b 2).toNat : Int), .int .u8 ((b 3).toNat : Int), .int .u8 ((b 4).toNat : Int), .int .u8 ((b 5).toNat : Int), .int .u8 ((b 6).toNat : Int), .int .u8 ((b 7).toNat : Int), .int .i64 co, .int .i64 po, .int .i64 ag, .int .i64 ma, .int .i64 he, .int .i64 de, .bool ch, .bool ak]] w fun e w' => e = .returned (.agg #[.int .u8 ((r 0).toNat : Int), .int .u8 ((r 1).toNat : Int), .int .u8 ((r 2).toNat : Int), .int .u8 ((r 3).toNat : Int), .int .u8 ((r 4).toNat : Int), .int .u8 ((r 5).toNat : Int), .int .u8 ((r 6).toNat : Int), .int .u8 ((r 7).toNat : Int), .int .u8 ((b 0).toNat : Int), .int .u8 ((b 1).toNat : Int), .int .u8 ((b 2).toNat : Int), .int .u8 ((b 3).toNat : Int), .int .u8 ((b 4).toNat : Int), .int .u8 ((b 5).toNat : Int), .int .u8 ((b 6).toNat : Int), .int .u8 ((b 7).toNat : Int), .int .i64 co, .int .i64 po, .int .i64 ag, .int .i64 ma, .int .i64 he, .int .i64 de, .bool ch, .bool ak]) ∧ Below w.heap.size w w' := by
  go_enter Try.func22, Try.ntmps22
  go_upto_region 1 with fail
  generalize hW : (w.alloc _).alloc _ = W
  have hbW : Below w.heap.size w W := by rw [← hW]; exact ((Below.refl _ _).alloc (Nat.le_refl _) _).alloc (by simp) _
  have r1 : RowIs W w.heap.size 45 #[.int .u8 ((r 0).toNat : Int), .int .u8 ((r 1).toNat : Int), .int .u8 ((r 2).toNat : Int), .int .u8 ((r 3).toNat : Int), .int .u8 ((r 4).toNat : Int), .int .u8 ((r 5).toNat : Int), .int .u8 ((r 6).toNat : Int), .int .u8 ((r 7).toNat : Int), .int .u8 ((b 0).toNat : Int), .int .u8 ((b 1).toNat : Int), .int .u8 ((b 2).toNat : Int), .int .u8 ((b 3).toNat : Int), .int .u8 ((b 4).toNat : Int), .int .u8 ((b 5).toNat : Int), .int .u8 ((b 6).toNat : Int), .int .u8 ((b 7).toNat : Int), .int .i64 co, .int .i64 po, .int .i64 ag, .int .i64 ma, .int .i64 he, .int .i64 de, .bool ch, .bool ak] := by rw [← hW]; exact (rowIs_new w _ _).alloc _
  have r2 : RowIs W (w.heap.size + 1) 63 #[.int .u8 0, .int .u8 0, .int .u8 0, .int .u8 0, .int .u8 0, .int .u8 0, .int .u8 0, .int .u8 0, .int .u8 0, .int .u8 0, .int .u8 0, .int .u8 0, .int .u8 0, .int .u8 0, .int .u8 0, .int .u8 0, .int .i64 0, .int .i64 0, .int .i64 0, .int .i64 0, .int .i64 0, .int .i64 0, .bool false, .bool false] := by
    have := rowIs_new (w.alloc (.cells #[.int .u8 ((r 0).toNat : Int), .int .u8 ((r 1).toNat : Int), .int .u8 ((r 2).toNat : Int), .int .u8 ((r 3).toNat : Int), .int .u8 ((r 4).toNat : Int), .int .u8 ((r 5).toNat : Int), .int .u8 ((r 6).toNat : Int), .int .u8 ((r 7).toNat : Int), .int .u8 ((b 0).toNat : Int), .int .u8 ((b 1).toNat : Int), .int .u8 ((b 2).toNat : Int), .int .u8 ((b 3).toNat : Int), .int .u8 ((b 4).toNat : Int), .int .u8 ((b 5).toNat : Int), .int .u8 ((b 6).toNat : Int), .int .u8 ((b 7).toNat : Int), .int .i64 co, .int .i64 po, .int .i64 ag, .int .i64 ma, .int .i64 he, .int .i64 de, .bool ch, .bool ak] 45)) 63 #[.int .u8 0, .int .u8 0, .int .u8 0, .int .u8 0, .int .u8 0, .int .u8 0, .int .u8 0, .int .u8 0, .int .u8 0, .int .u8 0, .int .u8 0, .int .u8 0, .int .u8 0, .int .u8 0, .int .u8 0, .int .u8 0, .int .i64 0, .int .i64 0, .int .i64 0, .int .i64 0, .int .i64 0, .int .i64 0, .bool false, .bool false]
    rw [← hW]; simpa using this
  have R1 := Lib.hid r1
  have R2 := Lib.hid r2
  clear hW r1 r2
  have c0 : W.cell? ⟨w.heap.size, 0, none⟩ = some (.int .u8 ((r 0).toNat : Int)) := R1.out.cell 0
  have c1 : W.cell? ⟨w.heap.size, 1, none⟩ = some (.int .u8 ((r 1).toNat : Int)) := R1.out.cell 1
  have c2 : W.cell? ⟨w.heap.size, 2, none⟩ = some (.int .u8 ((r 2).toNat : Int)) := R1.out.cell 2
  have c3 : W.cell? ⟨w.heap.size, 3, none⟩ = some (.int .u8 ((r 3).toNat : Int)) := R1.out.cell 3
  have c4 : W.cell? ⟨w.heap.size, 4, none⟩ = some (.int .u8 ((r 4).toNat : Int)) := R1.out.cell 4
  have c5 : W.cell? ⟨w.heap.size, 5, none⟩ = some (.int .u8 ((r 5).toNat : Int)) := R1.out.cell 5
  have c6 : W.cell? ⟨w.heap.size, 6, none⟩ = some (.int .u8 ((r 6).toNat : Int)) := R1.out.cell 6
  have c7 : W.cell? ⟨w.heap.size, 7, none⟩ = some (.int .u8 ((r 7).toNat : Int)) := R1.out.cell 7
  have c8 : W.cell? ⟨w.heap.size, 8, none⟩ = some (.int .u8 ((b 0).toNat : Int)) := R1.out.cell 8
  have c9 : W.cell? ⟨w.heap.size, 9, none⟩ = some (.int .u8 ((b 1).toNat : Int)) := R1.out.cell 9
  have c10 : W.cell? ⟨w.heap.size, 10, none⟩ = some (.int .u8 ((b 2).toNat : Int)) := R1.out.cell 10
  have c11 : W.cell? ⟨w.heap.size, 11, none⟩ = some (.int .u8 ((b 3).toNat : Int)) := R1.out.cell 11
  have c12 : W.cell? ⟨w.heap.size, 12, none⟩ = some (.int .u8 ((b 4).toNat : Int)) := R1.out.cell 12
  have c13 : W.cell? ⟨w.heap.size, 13, none⟩ = some (.int .u8 ((b 5).toNat : Int)) := R1.out.cell 13
  have c14 : W.cell? ⟨w.heap.size, 14, none⟩ = some (.int .u8 ((b 6).toNat : Int)) := R1.out.cell 14
  have c15 : W.cell? ⟨w.heap.size, 15, none⟩ = some (.int .u8 ((b 7).toNat : Int)) := R1.out.cell 15
  have c16 : W.cell? ⟨w.heap.size, 16, none⟩ = some (.int .i64 co) := R1.out.cell 16
  have c17 : W.cell? ⟨w.heap.size, 17, none⟩ = some (.int .i64 po) := R1.out.cell 17
  have c18 : W.cell? ⟨w.heap.size, 18, none⟩ = some (.int .i64 ag) := R1.out.cell 18
  have c19 : W.cell? ⟨w.heap.size, 19, none⟩ = some (.int .i64 ma) := R1.out.cell 19
  have c20 : W.cell? ⟨w.heap.size, 20, none⟩ = some (.int .i64 he) := R1.out.cell 20
  have c21 : W.cell? ⟨w.heap.size, 21, none⟩ = some (.int .i64 de) := R1.out.cell 21
  have c22 : W.cell? ⟨w.heap.size, 22, none⟩ = some (.bool ch) := R1.out.cell 22
  have c23 : W.cell? ⟨w.heap.size, 23, none⟩ = some (.bool ak) := R1.out.cell 23
  go_wp2_with ((with_reducible refine at_store 63 (.tmp 2) (.tmp 23) ?_); refine wpList_store_own rfl 63 (.tmp 2) (.tmp 23) rfl (w.heap.size + 1) _ rfl rfl _ _ R2.out info_rword' rfl (by kernel_rfl) w.heap.size (by omega) ?_)
  intro w1 r1 _ _ hb1
  have R1 := Lib.hid r1
  clear r1
  go_wp2_with fail
  refine bodyPost_ret (results_row Try.results22 _ _ (w.heap.size + 1) _ _ _ rfl R1.out Try.underlying63 rfl info_rword') rfl ?_
  exact ⟨rfl, hbW.trans hb1⟩


theorem Bpdu.right_split (co po ag ma he de : Int) : Bpdu.right co po ag ma he de = (Bpdu.inB 65535 [po, ag, ma, he, de] && (decide (0 ≤ co) && decide (co ≤ 4294967295) && decide (ag < ma))) := by
  unfold Bpdu.right
  simp only [Bpdu.inB, List.all_cons, List.all_nil, Bool.and_true]
  rw [Bool.eq_iff_iff]
  simp only [Bool.and_eq_true, decide_eq_true_eq]
  omega

set_option maxHeartbeats 4000000 in
theorem refRight_any (r b : Nat → UInt8) (co po ag ma he de : Int) (ch ak : Bool) (w : World) :
    Calls Try.prog 41 #[.agg #[.int .u8 ((r 0).toNat : Int), .int .u8 ((r 1).toNat : Int), .int .u8 ((r 2).toNat : Int), .int .u8 ((r 3).toNat : Int), .int .u8 ((r 4).toNat : Int), .int .u8 ((r 5).toNat : Int), .int .u8 ((r 6).toNat : Int), .int .u8 ((r 7).toNat : Int), .int .u8 ((b 0).toNat : Int), .int .u8 ((b 1).toNat : Int), .int .u8 ((b 2).toNat : Int), .int .u8 ((b 3).toNat : Int), .int .u8 ((b 4).toNat : Int), .int .u8 ((b 5).toNat : Int), .int .u8 ((b 6).toNat : Int), .int .u8 ((b 7).toNat : Int), .int .i64 co, .int .i64 po, .int .i64 ag, .int .i64 ma, .int .i64 he, .int .i64 de, .bool ch, .bool ak]] w fun e w' => e = .returned (.bool (Bpdu.right co po ag ma he de)) ∧ Below w.heap.size w w' := by
  rw [Bpdu.right_split]
  obtain ⟨zs, hzs⟩ : ∃ zs, zs = [po, ag, ma, he, de] := ⟨_, rfl⟩
  have hl : zs.length = 5 := by rw [hzs]; rfl
  have hg : ∀ W : World, (∀ i, i < 5 → W.cell? ⟨w.heap.size + 1, i, none⟩ = some (.int .i64 ([po, ag, ma, he, de].getD i 0))) → ∀ i, i < zs.length → W.cell? ⟨w.heap.size + 1, i, none⟩ = some (.int .i64 (zs.getD i 0)) := by
    intro W h i hi
    rw [hl] at hi
    rw [hzs]
    exact h i hi
  rw [← hzs]
  have HG := Lib.hid hg
  clear hg hzs
  have key : (decide (0 ≤ co) && decide (co ≤ 4294967295) && decide (ag < ma)) = true ∧ 0 ≤ co ∧ co ≤ 4294967295 ∧ ag < ma ∨ (decide (0 ≤ co) && decide (co ≤ 4294967295) && decide (ag < ma)) = false ∧ (co < 0 ∨ 0 ≤ co ∧ 4294967295 < co ∨ 0 ≤ co ∧ co ≤ 4294967295 ∧ ma ≤ ag) := by
    by_cases h : (decide (0 ≤ co) && decide (co ≤ 4294967295) && decide (ag < ma)) = true
    · exact Or.inl ⟨h, by simpa [and_assoc] using h⟩
    · refine Or.inr ⟨by simpa using h, ?_⟩
      simp only [Bool.and_eq_true, decide_eq_true_eq] at h
      omega
  generalize (decide (0 ≤ co) && decide (co ≤ 4294967295) && decide (ag < ma)) = last at key ⊢
  go_enter Try.func41, Try.ntmps41
  go_wp2_with fail
  generalize hW : (w.alloc _).alloc _ = W
  have hbW : Below w.heap.size w W := by rw [← hW]; exact ((Below.refl _ _).alloc (Nat.le_refl _) _).alloc (by simp) _
  have hc := HG.out W (by
    subst hW
    intro i hi
    rcases (show i = 0 ∨ i = 1 ∨ i = 2 ∨ i = 3 ∨ i = 4 from by omega) with rfl | rfl | rfl | rfl | rfl <;> go_simp)
  have HC := Lib.hid hc
  have r1 : RowIs W w.heap.size 63 #[.int .u8 ((r 0).toNat : Int), .int .u8 ((r 1).toNat : Int), .int .u8 ((r 2).toNat : Int), .int .u8 ((r 3).toNat : Int), .int .u8 ((r 4).toNat : Int), .int .u8 ((r 5).toNat : Int), .int .u8 ((r 6).toNat : Int), .int .u8 ((r 7).toNat : Int), .int .u8 ((b 0).toNat : Int), .int .u8 ((b 1).toNat : Int), .int .u8 ((b 2).toNat : Int), .int .u8 ((b 3).toNat : Int), .int .u8 ((b 4).toNat : Int), .int .u8 ((b 5).toNat : Int), .int .u8 ((b 6).toNat : Int), .int .u8 ((b 7).toNat : Int), .int .i64 co, .int .i64 po, .int .i64 ag, .int .i64 ma, .int .i64 he, .int .i64 de, .bool ch, .bool ak] := by rw [← hW]; exact (rowIs_new w _ _).alloc _
  have R1 := Lib.hid r1
  clear hc r1 HG hW
  go_wp2_with fail
  go_loop [4] (fun i => ∃ k : Nat, k ≤ 5 ∧ i = .int .i64 k ∧ Hid (Bpdu.inB 65535 (zs.take k) = true)) (fun i => 5 - (intOf i).toNat)
  case atStart => exact ⟨0, Nat.zero_le _, rfl, rfl⟩
  case round =>
    obtain ⟨k, hk, rfl, hall⟩ := hrel
    by_cases hlt : k < 5
    · have hcell := HC.out k (by omega)
      have htk : zs.take (k + 1) = zs.take k ++ [zs.getD k 0] := by rw [List.take_succ_eq_append_getElem (by omega), List.getD, List.getElem?_eq_getElem (by omega)]; rfl
      have hmem : zs.getD k 0 ∈ zs := by rw [List.getD, List.getElem?_eq_getElem (by omega)]; exact List.getElem_mem _
      generalize zs.getD k 0 = x at hcell htk hmem
      have HTK := Lib.hid htk
      have HM := Lib.hid hmem
      clear htk hmem
      by_cases h1 : x < 0
      · have HF := Lib.hid (Bpdu.inB_false (most := 65535) HM.out (Or.inl h1))
        go_wp2_with fail
        go_ret
        exact ⟨by rw [HF.out]; rfl, hbW⟩
      · by_cases h2 : 65535 < x
        · have HF := Lib.hid (Bpdu.inB_false (most := 65535) HM.out (Or.inr h2))
          go_wp2_with fail
          go_ret
          exact ⟨by rw [HF.out]; rfl, hbW⟩
        · go_wp2_with fail
          refine ⟨⟨k + 1, by omega, by go_num, ?_⟩, by simp [intOf]; omega⟩
          show _ = _
          rw [HTK.out, Bpdu.inB_snoc, hall.out, decide_eq_true (by omega), decide_eq_true (by omega)]
          rfl
    · have hl2 : zs.take k = zs := List.take_of_length_le (by omega)
      have h := hall.out
      rw [hl2] at h
      have HH := Lib.hid h
      clear h hl2 hl hall
      have c2 : W.cell? ⟨w.heap.size, 16, none⟩ = some (.int .i64 co) := R1.out.cell 16
      have c4 : W.cell? ⟨w.heap.size, 18, none⟩ = some (.int .i64 ag) := R1.out.cell 18
      have c5 : W.cell? ⟨w.heap.size, 19, none⟩ = some (.int .i64 ma) := R1.out.cell 19
      rcases key with ⟨rfl, k1, k2, k3⟩ | ⟨rfl, k1 | ⟨k1, k2⟩ | ⟨k1, k2, k3⟩⟩
      all_goals
        go_wp2_with fail
        go_ret
        first | exact ⟨rfl, hbW⟩ | exact ⟨ret_bool (a := decide (ag < ma)) (decide_eq_false (by omega)), hbW⟩ | exact ⟨by rw [HH.out]; rfl, hbW⟩
end Go.Proofs.Ytdhiaidbpjjljaa
