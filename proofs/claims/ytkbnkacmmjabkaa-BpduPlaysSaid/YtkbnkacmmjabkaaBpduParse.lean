/- bpdu.Parse of a word. By an AI agent. -/
import Derived.Test.YtkbnkacmmjabkaaBpduAwake
import Derived.Test.YtkbnkacmmjabkaaGrowKit
namespace Go.Proofs.Ytkbnkacmmjabkaa
open Go.RowKit Go.Sort Grow

/-- are the flags, or the ages, none that may be? -/
def Bpdu.bad (f : UInt8) (ag ma : Nat) : Bool := (bits BinOp.andNot IntKind.u8 (f.toNat : Int) 129 != 0) || decide (ma ≤ ag)

set_option maxHeartbeats 4000000 in
theorem parse_word (s : ByteArray) (r b : Nat → UInt8) (co po ag ma he de : Nat) (f : UInt8) (h38 : 38 ≤ s.size) (hn : (s.extract 0 7).toList = [66, 66, 3, 0, 0, 0, 0])
    (hr : (s.extract 8 16).data.toList = [r 0, r 1, r 2, r 3, r 4, r 5, r 6, r 7]) (hb : (s.extract 20 28).data.toList = [b 0, b 1, b 2, b 3, b 4, b 5, b 6, b 7]) (hf : s[7] = f)
    (hco : Oct.num (List.take 4 (List.drop 16 s.data.toList)) = co) (hpo : Oct.num (List.take 2 (List.drop 28 s.data.toList)) = po) (hag : Oct.num (List.take 2 (List.drop 30 s.data.toList)) = ag) (hma : Oct.num (List.take 2 (List.drop 32 s.data.toList)) = ma) (hhe : Oct.num (List.take 2 (List.drop 34 s.data.toList)) = he) (hde : Oct.num (List.take 2 (List.drop 36 s.data.toList)) = de) (w : World) :
    Calls Try.prog 10 #[.string s] w fun e w' => e = .returned (if Bpdu.bad f ag ma = true then .tuple #[.agg #[.int .u8 0, .int .u8 0, .int .u8 0, .int .u8 0, .int .u8 0, .int .u8 0, .int .u8 0, .int .u8 0, .int .u8 0, .int .u8 0, .int .u8 0, .int .u8 0, .int .u8 0, .int .u8 0, .int .u8 0, .int .u8 0, .int .i64 0, .int .i64 0, .int .i64 0, .int .i64 0, .int .i64 0, .int .i64 0, .bool false, .bool false], .bool false, .int .i64 3]
      else .tuple #[.agg #[.int .u8 ((r 0).toNat : Int), .int .u8 ((r 1).toNat : Int), .int .u8 ((r 2).toNat : Int), .int .u8 ((r 3).toNat : Int), .int .u8 ((r 4).toNat : Int), .int .u8 ((r 5).toNat : Int), .int .u8 ((r 6).toNat : Int), .int .u8 ((r 7).toNat : Int), .int .u8 ((b 0).toNat : Int), .int .u8 ((b 1).toNat : Int), .int .u8 ((b 2).toNat : Int), .int .u8 ((b 3).toNat : Int), .int .u8 ((b 4).toNat : Int), .int .u8 ((b 5).toNat : Int), .int .u8 ((b 6).toNat : Int), .int .u8 ((b 7).toNat : Int), .int .i64 (co : Nat), .int .i64 (po : Nat), .int .i64 (ag : Nat), .int .i64 (ma : Nat), .int .i64 (he : Nat), .int .i64 (de : Nat), .bool (decide (0 < bits BinOp.and IntKind.u8 (f.toNat : Int) 1)), .bool (decide (0 < bits BinOp.and IntKind.u8 (f.toNat : Int) 128))], .bool false, .int .i64 0]) ∧ Below w.heap.size w w' := by
  have b16 : (16 : Int) ≤ (s.size : Int) := by omega
  have b20 : (20 : Int) ≤ (s.size : Int) := by omega
  have b28 : (28 : Int) ≤ (s.size : Int) := by omega
  have b30 : (30 : Int) ≤ (s.size : Int) := by omega
  have b32 : (32 : Int) ≤ (s.size : Int) := by omega
  have b34 : (34 : Int) ≤ (s.size : Int) := by omega
  have b36 : (36 : Int) ≤ (s.size : Int) := by omega
  have b38 : (38 : Int) ≤ (s.size : Int) := by omega
  have HRr := Lib.hid hr
  have HBb := Lib.hid hb
  clear hr hb
  have key : ((bits BinOp.andNot IntKind.u8 (f.toNat : Int) 129 != 0) = true ∧ Bpdu.bad f ag ma = true) ∨ ((bits BinOp.andNot IntKind.u8 (f.toNat : Int) 129 != 0) = false ∧ ma ≤ ag ∧ Bpdu.bad f ag ma = true) ∨
      ((bits BinOp.andNot IntKind.u8 (f.toNat : Int) 129 != 0) = false ∧ ¬ ma ≤ ag ∧ Bpdu.bad f ag ma = false) := by
    unfold Bpdu.bad
    cases (bits BinOp.andNot IntKind.u8 (f.toNat : Int) 129 != 0) <;> by_cases h : ma ≤ ag <;> simp [h]
  rcases key with ⟨q1, q3⟩ | ⟨q1, q2, q3⟩ | ⟨q1, q2, q3⟩
  all_goals
    rw [q3]
    clear q3
    simp only [if_true, Bool.false_eq_true, if_false]
    go_enter Try.func10, Try.ntmps10
    go_wp2_with fail
    go_quiet ((go_at_call 11; exact Calls.quiet_of_same ((notice_any _).mono fun e w' ⟨he, hw⟩ => ⟨he, hw.symm⟩)))
    go_wp2_with fail
    generalize hW : World.drewN _ _ = W
    have hR : RowIs W w.heap.size 30 #[.int .u8 0, .int .u8 0, .int .u8 0, .int .u8 0, .int .u8 0, .int .u8 0, .int .u8 0, .int .u8 0, .int .u8 0, .int .u8 0, .int .u8 0, .int .u8 0, .int .u8 0, .int .u8 0, .int .u8 0, .int .u8 0, .int .i64 0, .int .i64 0, .int .i64 0, .int .i64 0, .int .i64 0, .int .i64 0, .bool false, .bool false] := by rw [← hW]; exact (rowIs_new w _ _).drewN _
    have hbW : Below w.heap.size w W := by rw [← hW]; exact below_drewN ((Below.refl _ _).alloc (Nat.le_refl _) _) _
    clear hW
    have hWs := hR.lt
    have HR := Lib.hid hR
    clear hR
    refine wp_region_mix 24 (by kernel_rfl) (by kernel_rfl) (by kernel_rfl) ?_
    repeat (refine mix_step (by kernel_rfl) (by kernel_rfl) (fun K hK => ?_); go_simp; (first | (refine hK _ ?_; clear hK K) | (apply Exists.intro; refine ⟨fun _ => ?_, hK _ ?_⟩; (exact below_same (bnumber_any _ _ (by simp; omega))); clear hK K)))
    refine mix_special (SliceAt (byteVals (s.extract 8 16).data.toList)) 37 rfl rfl (stable_slice _) (owes_bytes rfl rfl (by simp) Try.underlying9 Try.underlying52 Try.underlying5) ?_
    refine mix_special (PtrAt (byteVals (s.extract 8 16).data.toList)) 38 rfl rfl (stable_ptr _) (owes_arrayAt rfl (by simp) Try.underlying23 (by simp [byteVals]; omega)) ?_
    refine mix_exact (.agg #[.int .u8 ((r 0).toNat : Int), .int .u8 ((r 1).toNat : Int), .int .u8 ((r 2).toNat : Int), .int .u8 ((r 3).toNat : Int), .int .u8 ((r 4).toNat : Int), .int .u8 ((r 5).toNat : Int), .int .u8 ((r 6).toNat : Int), .int .u8 ((r 7).toNat : Int)]) rfl (exact_load rfl (vs := byteVals (s.extract 8 16).data.toList) (by simp) Try.underlying23 (by rw [HRr.out]; rfl) (by kernel_rfl)) ?_
    repeat (refine mix_step (by kernel_rfl) (by kernel_rfl) (fun K hK => ?_); go_simp; (first | (refine hK _ ?_; clear hK K) | (apply Exists.intro; refine ⟨fun _ => ?_, hK _ ?_⟩; (exact below_same (bnumber_any _ _ (by simp; omega))); clear hK K)))
    refine mix_special (SliceAt (byteVals (s.extract 20 28).data.toList)) 45 rfl rfl (stable_slice _) (owes_bytes rfl rfl (by simp) Try.underlying9 Try.underlying52 Try.underlying5) ?_
    refine mix_special (PtrAt (byteVals (s.extract 20 28).data.toList)) 46 rfl rfl (stable_ptr _) (owes_arrayAt rfl (by simp) Try.underlying23 (by simp [byteVals]; omega)) ?_
    refine mix_exact (.agg #[.int .u8 ((b 0).toNat : Int), .int .u8 ((b 1).toNat : Int), .int .u8 ((b 2).toNat : Int), .int .u8 ((b 3).toNat : Int), .int .u8 ((b 4).toNat : Int), .int .u8 ((b 5).toNat : Int), .int .u8 ((b 6).toNat : Int), .int .u8 ((b 7).toNat : Int)]) rfl (exact_load rfl (vs := byteVals (s.extract 20 28).data.toList) (by simp) Try.underlying23 (by rw [HBb.out]; rfl) (by kernel_rfl)) ?_
    repeat (refine mix_step (by kernel_rfl) (by kernel_rfl) (fun K hK => ?_); go_simp; (first | (refine hK _ ?_; clear hK K) | (apply Exists.intro; refine ⟨fun _ => ?_, hK _ ?_⟩; (exact below_same (bnumber_any _ _ (by simp; omega))); clear hK K)))
    refine mix_special _ 7 rfl rfl (stable_new _ _ _) (owes_alloc (cs := #[.int .u8 0, .int .u8 0, .int .u8 0, .int .u8 0, .int .u8 0, .int .u8 0, .int .u8 0, .int .u8 0, .int .u8 0, .int .u8 0, .int .u8 0, .int .u8 0, .int .u8 0, .int .u8 0, .int .u8 0, .int .u8 0, .int .i64 0, .int .i64 0, .int .i64 0, .int .i64 0, .int .i64 0, .int .i64 0, .bool false, .bool false]) rfl (by kernel_rfl)) ?_
    refine mix_nil ?_
    rintro ⟨dq, osq⟩ u37 - u38 - u45 - u46 - u7 ⟨g7, rfl, hg7, r7⟩
    have hb1 := below_regrown W dq osq
    have HR := Lib.hid (HR.out.kept hb1)
    have hbW := hbW.trans (hb1.mono hbW.size)
    have hs1 := hb1.size
    generalize grow (redrawn W dq) osq = W1 at *
    have R7 := Lib.hid r7
    clear r7 hb1
    refine (show wpList _ _ _ _ _ _ from ?_)
    simp only [List.drop, Act.put, List.setIfInBounds_toArray, List.set]
    go_wp2_with ((with_reducible refine at_store 30 (.tmp 7) (.tmp 57) ?_); refine wpList_store_own rfl 30 (.tmp 7) (.tmp 57) rfl g7 _ rfl rfl _ _ R7.out info_word rfl (by kernel_rfl) W.heap.size hg7 ?_)
    intro w2 r7 _ _ hb2
    have R7 := Lib.hid r7
    have HR := Lib.hid (HR.out.below hb2 (by omega))
    have hbW := hbW.trans (hb2.mono (by omega))
    have hs2 := hb2.size
    clear r7 hb2
    go_wp2_with fail
    refine wp_region_mixL (wle_ok g7 [(18, .int .i64 (ag : Nat)), (19, .int .i64 (ma : Nat)), (20, .int .i64 (he : Nat)), (21, .int .i64 (de : Nat))]) 20 (by kernel_rfl) (by kernel_rfl) (by kernel_rfl) ?_
    repeat (refine mix_stepP (by kernel_rfl) (by kernel_rfl) (fun K hK => ?_); go_simp; (first | (refine hK _ ?_; clear hK K) | (apply Exists.intro; refine ⟨fun _ => ?_, hK _ ?_⟩; (exact wle_calls (below_same (bnumber_any _ _ (by simp; omega)))); clear hK K)))
    refine mix_store (StoredAt g7 30 18 (.int .i64 (ag : Nat))) rfl rfl (stable_stored _ (by simp)) (owes_store rfl rfl rfl (by simp) (by simp) R7.out (by simp) (by kernel_rfl) rfl (by simp)) ?_
    repeat (refine mix_stepP (by kernel_rfl) (by kernel_rfl) (fun K hK => ?_); go_simp; (first | (refine hK _ ?_; clear hK K) | (apply Exists.intro; refine ⟨fun _ => ?_, hK _ ?_⟩; (exact wle_calls (below_same (bnumber_any _ _ (by simp; omega)))); clear hK K)))
    refine mix_store (StoredAt g7 30 19 (.int .i64 (ma : Nat))) rfl rfl (stable_stored _ (by simp)) (owes_store rfl rfl rfl (by simp) (by simp) R7.out (by simp) (by kernel_rfl) rfl (by simp)) ?_
    repeat (refine mix_stepP (by kernel_rfl) (by kernel_rfl) (fun K hK => ?_); go_simp; (first | (refine hK _ ?_; clear hK K) | (apply Exists.intro; refine ⟨fun _ => ?_, hK _ ?_⟩; (exact wle_calls (below_same (bnumber_any _ _ (by simp; omega)))); clear hK K)))
    refine mix_store (StoredAt g7 30 20 (.int .i64 (he : Nat))) rfl rfl (stable_stored _ (by simp)) (owes_store rfl rfl rfl (by simp) (by simp) R7.out (by simp) (by kernel_rfl) rfl (by simp)) ?_
    repeat (refine mix_stepP (by kernel_rfl) (by kernel_rfl) (fun K hK => ?_); go_simp; (first | (refine hK _ ?_; clear hK K) | (apply Exists.intro; refine ⟨fun _ => ?_, hK _ ?_⟩; (exact wle_calls (below_same (bnumber_any _ _ (by simp; omega)))); clear hK K)))
    refine mix_store (StoredAt g7 30 21 (.int .i64 (de : Nat))) rfl rfl (stable_stored _ (by simp)) (owes_store rfl rfl rfl (by simp) (by simp) R7.out (by simp) (by kernel_rfl) rfl (by simp)) ?_
    repeat (refine mix_stepP (by kernel_rfl) (by kernel_rfl) (fun K hK => ?_); go_simp; (first | (refine hK _ ?_; clear hK K) | (apply Exists.intro; refine ⟨fun _ => ?_, hK _ ?_⟩; (exact wle_calls (below_same (bnumber_any _ _ (by simp; omega)))); clear hK K)))
    refine mix_nilL fun w3 hle hF => ?_
    have r3 := row_stored R7.out hle (by simp) (by simp) (fun p hp => by
      simp only [List.nil_append, List.cons_append, List.mem_cons, List.not_mem_nil, or_false, forall_eq_or_imp, forall_eq] at hF
      obtain ⟨f18, f19, f20, f21⟩ := hF
      simp only [List.mem_cons, List.not_mem_nil, or_false] at hp
      rcases hp with rfl | rfl | rfl | rfl
      · exact f18
      · exact f19
      · exact f20
      · exact f21)
    simp only [List.foldl, List.setIfInBounds_toArray, List.set] at r3
    have hb3 := below_of_wle (B := W.heap.size) hle (by omega) (by omega)
    have R3 := Lib.hid r3
    have HR := Lib.hid (HR.out.below hb3 (by omega))
    have hbW := hbW.trans (hb3.mono (by omega))
    clear r3 hF hle hb3
    have c18 : w3.cell? ⟨g7, 18, none⟩ = some (.int .i64 (ag : Nat)) := R3.out.cell 18
    have c19 : w3.cell? ⟨g7, 19, none⟩ = some (.int .i64 (ma : Nat)) := R3.out.cell 19
    refine (show wpList _ _ _ _ _ _ from ?_)
    simp only [List.drop]
    go_wp2_with (first
      | ((with_reducible refine at_store 30 (.tmp 2) (.tmp 84) ?_); refine wpList_store_own rfl 30 (.tmp 2) (.tmp 84) rfl w.heap.size _ rfl rfl _ _ HR.out info_word rfl (by kernel_rfl) w.heap.size (Nat.le_refl _) ?_)
      | ((with_reducible refine at_load 30 (.tmp 7) ?_); refine wpList_load_own rfl 30 (.tmp 7) rfl _ rfl _ _ _ R3.out Try.underlying30 rfl info_word ?_)
      | ((with_reducible refine at_store 30 (.tmp 2) (.tmp 85) ?_); refine wpList_store_own rfl 30 (.tmp 2) (.tmp 85) rfl w.heap.size _ rfl rfl _ _ HR.out info_word rfl (by kernel_rfl) w.heap.size (Nat.le_refl _) ?_))
    intro w4 r4 _ _ hb4
    have R4 := Lib.hid r4
    clear r4
    go_wp2_with fail
    refine bodyPost_ret (results_row_tmp2 Try.results10 _ _ w.heap.size _ _ _ rfl R4.out Try.underlying30 rfl info_word) rfl ?_
    exact ⟨rfl, hbW.trans hb4⟩
end Go.Proofs.Ytkbnkacmmjabkaa
