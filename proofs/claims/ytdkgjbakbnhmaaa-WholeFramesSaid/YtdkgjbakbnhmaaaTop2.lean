/- ether.Print: a right frame's text; no other is printed. By an AI agent. -/
import Derived.Test.YtdkgjbakbnhmaaaTop1
namespace Go.Proofs.Ytdkgjbakbnhmaaa
open Go.RowKit Go.Sort Grow

theorem ba_assoc (a b c : ByteArray) : (a ++ b) ++ c = a ++ (b ++ c) := by
  apply ByteArray.ext
  simp [ByteArray.data_append, Array.append_assoc]
theorem or_prio (p v : Nat) (hp : p < 8) (hv : v < 8192) : bits .or .i64 ((p : Int) * 8192) (v : Int) = ((8192 * p + v : Nat) : Int) := by
  have e1 : (BitVec.ofInt 64 ((p : Int) * 8192)).toNat = p * 8192 := by
    rw [BitVec.toNat_ofInt]; omega
  have e2 : (BitVec.ofInt 64 (v : Int)).toNat = v := by
    rw [BitVec.toNat_ofInt]; omega
  have key : (BitVec.ofInt 64 ((p : Int) * 8192) ||| BitVec.ofInt 64 (v : Int)).toNat = 8192 * p + v := by
    rw [BitVec.toNat_or, e1, e2]
    have := Nat.two_pow_add_eq_or_of_lt (i := 13) (b := v) (by simpa using hv) p
    rw [Nat.mul_comm p 8192]
    simpa using this.symm
  show IntKind.i64.wrap ((BitVec.ofInt 64 ((p : Int) * 8192) ||| BitVec.ofInt 64 (v : Int)).toNat : Nat) = _
  rw [key, IntKind.wrap_i64]
  omega

set_option maxHeartbeats 1000000 in
theorem ethPrint_no (d s : Nat → UInt8) (ty v pr : Int) (body : ByteArray) (w : World) (h : ¬ Eth.right ty v pr body.size) :
    Calls Try.prog 5 #[.agg #[.int .u8 ((d 0).toNat : Int), .int .u8 ((d 1).toNat : Int), .int .u8 ((d 2).toNat : Int), .int .u8 ((d 3).toNat : Int), .int .u8 ((d 4).toNat : Int), .int .u8 ((d 5).toNat : Int), .int .u8 ((s 0).toNat : Int), .int .u8 ((s 1).toNat : Int), .int .u8 ((s 2).toNat : Int), .int .u8 ((s 3).toNat : Int), .int .u8 ((s 4).toNat : Int), .int .u8 ((s 5).toNat : Int), .int .i64 ty, .string body, .int .i64 v, .int .i64 pr]] w fun e w' => ∃ b, e = .returned (.tuple #[.string b, .int .i64 3]) ∧ Below w.heap.size w w' := by
  have HC := Lib.hid (fun w => ethRight_all d s ty v pr body w)
  have hf : (Eth.typed ty && Eth.tagged v pr && decide ((body.size : Int) ≤ 1500)) = false := by
    cases e : (Eth.typed ty && Eth.tagged v pr && decide ((body.size : Int) ≤ 1500))
    · rfl
    · exact absurd ((Eth.right_iff ty v pr body.size).2 e) h
  rw [hf] at HC
  clear h hf
  go_enter Try.func5, Try.ntmps5
  have hb : Below w.heap.size w (w.alloc (.cells #[.int .u8 ((d 0).toNat : Int), .int .u8 ((d 1).toNat : Int), .int .u8 ((d 2).toNat : Int), .int .u8 ((d 3).toNat : Int), .int .u8 ((d 4).toNat : Int), .int .u8 ((d 5).toNat : Int), .int .u8 ((s 0).toNat : Int), .int .u8 ((s 1).toNat : Int), .int .u8 ((s 2).toNat : Int), .int .u8 ((s 3).toNat : Int), .int .u8 ((s 4).toNat : Int), .int .u8 ((s 5).toNat : Int), .int .i64 ty, .string body, .int .i64 v, .int .i64 pr] 33)) := (Below.refl _ _).alloc (Nat.le_refl _) _
  go_wp2_with fail
  refine (HC.out _).mono ?_
  rintro e w1 ⟨rfl, hb1⟩
  go_wp2_with fail
  go_ret2
  exact ⟨_, rfl, hb.trans (hb1.mono hb.size)⟩

set_option maxRecDepth 20000 in
set_option maxHeartbeats 8000000 in
theorem ethPrint_ok (d s : Nat → UInt8) (ty v pr : Int) (body : ByteArray) (w : World) (h : Eth.right ty v pr body.size) :
    Calls Try.prog 5 #[.agg #[.int .u8 ((d 0).toNat : Int), .int .u8 ((d 1).toNat : Int), .int .u8 ((d 2).toNat : Int), .int .u8 ((d 3).toNat : Int), .int .u8 ((d 4).toNat : Int), .int .u8 ((d 5).toNat : Int), .int .u8 ((s 0).toNat : Int), .int .u8 ((s 1).toNat : Int), .int .u8 ((s 2).toNat : Int), .int .u8 ((s 3).toNat : Int), .int .u8 ((s 4).toNat : Int), .int .u8 ((s 5).toNat : Int), .int .i64 ty, .string body, .int .i64 v, .int .i64 pr]] w fun e w' => e = .returned (.tuple #[.string (Eth.text [d 0, d 1, d 2, d 3, d 4, d 5] [s 0, s 1, s 2, s 3, s 4, s 5] ty v pr body), .int .i64 0]) ∧ Below w.heap.size w w' := by
  have HC := Lib.hid (fun w => ethRight_all d s ty v pr body w)
  rw [(Eth.right_iff ty v pr body.size).1 h] at HC
  have HD : Hid (Eth.ba [d 0, d 1, d 2, d 3, d 4, d 5] = ⟨[d 0, d 1, d 2, d 3, d 4, d 5].toArray⟩ ∧ (Eth.ba [d 0, d 1, d 2, d 3, d 4, d 5]).size = 6) := ⟨rfl, rfl⟩
  have HS : Hid (Eth.ba [s 0, s 1, s 2, s 3, s 4, s 5] = ⟨[s 0, s 1, s 2, s 3, s 4, s 5].toArray⟩ ∧ (Eth.ba [s 0, s 1, s 2, s 3, s 4, s 5]).size = 6) := ⟨rfl, rfl⟩
  unfold Eth.text
  generalize Eth.ba [d 0, d 1, d 2, d 3, d 4, d 5] = D at *
  generalize Eth.ba [s 0, s 1, s 2, s 3, s 4, s 5] = S at *
  obtain ⟨ht, hv, hz⟩ := h
  have HV := Lib.hid hv
  clear hv
  go_enter Try.func5, Try.ntmps5
  have hb : Below w.heap.size w (w.alloc (.cells #[.int .u8 ((d 0).toNat : Int), .int .u8 ((d 1).toNat : Int), .int .u8 ((d 2).toNat : Int), .int .u8 ((d 3).toNat : Int), .int .u8 ((d 4).toNat : Int), .int .u8 ((d 5).toNat : Int), .int .u8 ((s 0).toNat : Int), .int .u8 ((s 1).toNat : Int), .int .u8 ((s 2).toNat : Int), .int .u8 ((s 3).toNat : Int), .int .u8 ((s 4).toNat : Int), .int .u8 ((s 5).toNat : Int), .int .i64 ty, .string body, .int .i64 v, .int .i64 pr] 33)) := (Below.refl _ _).alloc (Nat.le_refl _) _
  have R0 : Hid (RowIs (w.alloc (.cells #[.int .u8 ((d 0).toNat : Int), .int .u8 ((d 1).toNat : Int), .int .u8 ((d 2).toNat : Int), .int .u8 ((d 3).toNat : Int), .int .u8 ((d 4).toNat : Int), .int .u8 ((d 5).toNat : Int), .int .u8 ((s 0).toNat : Int), .int .u8 ((s 1).toNat : Int), .int .u8 ((s 2).toNat : Int), .int .u8 ((s 3).toNat : Int), .int .u8 ((s 4).toNat : Int), .int .u8 ((s 5).toNat : Int), .int .i64 ty, .string body, .int .i64 v, .int .i64 pr] 33)) w.heap.size 33 #[.int .u8 ((d 0).toNat : Int), .int .u8 ((d 1).toNat : Int), .int .u8 ((d 2).toNat : Int), .int .u8 ((d 3).toNat : Int), .int .u8 ((d 4).toNat : Int), .int .u8 ((d 5).toNat : Int), .int .u8 ((s 0).toNat : Int), .int .u8 ((s 1).toNat : Int), .int .u8 ((s 2).toNat : Int), .int .u8 ((s 3).toNat : Int), .int .u8 ((s 4).toNat : Int), .int .u8 ((s 5).toNat : Int), .int .i64 ty, .string body, .int .i64 v, .int .i64 pr]) := by show RowIs _ _ _ _; exact rowIs_new w _ _
  go_wp2_with fail
  refine (HC.out _).mono ?_
  rintro e w1 ⟨rfl, hb1⟩
  have R1 := Lib.hid (R0.out.kept hb1)
  have hbW := hb.trans (hb1.mono hb.size)
  clear hb hb1 R0 HC
  go_upto_region 3 with fail
  have hd6 := HD.out.2
  have hs6 := HS.out.2
  have sR := fun (p : Regrown) => run_string_at Try.underlying53 Try.underlying5 Try.underlying9 (grow (redrawn w1 p.d) p.os) [d 0, d 1, d 2, d 3, d 4, d 5] 6 w.heap.size 0 6 rfl (fun i hi => cell_regrown (by
      rw [R1.out.cell]
      rcases (show i = 0 ∨ i = 1 ∨ i = 2 ∨ i = 3 ∨ i = 4 ∨ i = 5 from by simp at hi; omega) with rfl | rfl | rfl | rfl | rfl | rfl <;> rfl) p.d p.os)
  have sB := fun (p : Regrown) => run_string_at Try.underlying53 Try.underlying5 Try.underlying9 (grow (redrawn w1 p.d) p.os) [s 0, s 1, s 2, s 3, s 4, s 5] 6 w.heap.size 6 6 rfl (fun i hi => cell_regrown (by
      rw [R1.out.cell]
      rcases (show i = 0 ∨ i = 1 ∨ i = 2 ∨ i = 3 ∨ i = 4 ∨ i = 5 from by simp at hi; omega) with rfl | rfl | rfl | rfl | rfl | rfl <;> rfl) p.d p.os)
  rw [← HD.out.1] at sR
  rw [← HS.out.1] at sB
  have q0 : ¬ 9223372036854775807 < D.size + S.size := by omega
  refine wp_region_mix 9 (by kernel_rfl) (by kernel_rfl) (by kernel_rfl) ?_
  (refine mix_step (by kernel_rfl) (by kernel_rfl) (fun K hK => ?_); go_simp; (try (simp only [↓IntWalk.iteOmega]; go_simp)); (first | (refine hK _ ?_; clear hK K) | (apply Exists.intro; refine ⟨fun _ => ?_, hK _ ?_⟩; (first | fail); clear hK K)))
  (refine mix_step (by kernel_rfl) (by kernel_rfl) (fun K hK => ?_); go_simp; (try (simp only [↓IntWalk.iteOmega]; go_simp)); (first | (refine hK _ ?_; clear hK K) | (apply Exists.intro; refine ⟨fun _ => ?_, hK _ ?_⟩; (first | fail); clear hK K)))
  (refine mix_step (by kernel_rfl) (by kernel_rfl) (fun K hK => ?_); go_simp; (try (simp only [↓IntWalk.iteOmega]; go_simp)); (first | (refine hK _ ?_; clear hK K) | (apply Exists.intro; refine ⟨fun _ => ?_, hK _ ?_⟩; (first | fail); clear hK K)))
  (refine mix_step (by kernel_rfl) (by kernel_rfl) (fun K hK => ?_); go_simp; (try (simp only [↓IntWalk.iteOmega]; go_simp)); (first | (refine hK _ ?_; clear hK K) | (apply Exists.intro; refine ⟨fun _ => ?_, hK _ ?_⟩; (first | fail); clear hK K)))
  (refine mix_step (by kernel_rfl) (by kernel_rfl) (fun K hK => ?_); go_simp; (try (simp only [↓IntWalk.iteOmega]; go_simp)); (first | (refine hK _ ?_; clear hK K) | (apply Exists.intro; refine ⟨fun _ => ?_, hK _ ?_⟩; (first | fail); clear hK K)))
  (refine mix_step (by kernel_rfl) (by kernel_rfl) (fun K hK => ?_); go_simp; (try (simp only [↓IntWalk.iteOmega]; go_simp)); (first | (refine hK _ ?_; clear hK K) | (apply Exists.intro; refine ⟨fun _ => ?_, hK _ ?_⟩; (first | fail); clear hK K)))
  (refine mix_step (by kernel_rfl) (by kernel_rfl) (fun K hK => ?_); go_simp; (try (simp only [↓IntWalk.iteOmega]; go_simp)); (first | (refine hK _ ?_; clear hK K) | (apply Exists.intro; refine ⟨fun _ => ?_, hK _ ?_⟩; (first | fail); clear hK K)))
  (refine mix_step (by kernel_rfl) (by kernel_rfl) (fun K hK => ?_); go_simp; (try (simp only [↓IntWalk.iteOmega]; go_simp)); (first | (refine hK _ ?_; clear hK K) | (apply Exists.intro; refine ⟨fun _ => ?_, hK _ ?_⟩; (first | fail); clear hK K)))
  (refine mix_step (by kernel_rfl) (by kernel_rfl) (fun K hK => ?_); go_simp; (try (simp only [↓IntWalk.iteOmega]; go_simp)); (first | (refine hK _ ?_; clear hK K) | (apply Exists.intro; refine ⟨fun _ => ?_, hK _ ?_⟩; (first | fail); clear hK K)))
  refine mix_nil ?_
  rintro ⟨dq, osq⟩
  have hb1 := below_regrown w1 dq osq
  have R2 := Lib.hid (R1.out.kept hb1)
  have hbW := hbW.trans (hb1.mono hbW.size)
  clear sR sB hb1 R1 q0
  generalize grow (redrawn w1 dq) osq = w2 at *
  refine (show wpList _ _ _ _ _ _ from ?_)
  simp only [List.drop, Act.put, List.setIfInBounds_toArray, List.set]
  have c12 : w2.cell? ⟨w.heap.size, 12, none⟩ = some (.int .i64 ty) := R2.out.cell 12
  have c13 : w2.cell? ⟨w.heap.size, 13, none⟩ = some (.string body) := R2.out.cell 13
  have c14 : w2.cell? ⟨w.heap.size, 14, none⟩ = some (.int .i64 v) := R2.out.cell 14
  have c15 : w2.cell? ⟨w.heap.size, 15, none⟩ = some (.int .i64 pr) := R2.out.cell 15
  have hds : (D ++ S).size = 12 := by rw [ByteArray.size_append]; omega
  go_upto_if 20 with fail
  go_cut [4] (fun u wx => u = .string ((D ++ S) ++ Eth.ba (Eth.mark v pr)) ∧ Below w2.heap.size w2 wx)
  case first =>
    rcases HV.out with ⟨rfl, rfl⟩ | ⟨v0, v1, p0, p1⟩
    · have e : Hid (Eth.ba (Eth.mark (-1) 0) = ByteArray.empty) := rfl
      go_wp2_with fail
      go_meet
      exact ⟨by rw [e.out, ByteArray.append_empty], Below.refl _ _⟩
    · obtain ⟨v, rfl⟩ := Int.eq_ofNat_of_zero_le v0
      obtain ⟨pr, rfl⟩ := Int.eq_ofNat_of_zero_le p0
      have hne : ((v : Int) == -1) = false := by rw [beq_eq_false_iff_ne]; omega
      have HM : Hid (Eth.ba (Eth.mark (v : Int) (pr : Int)) = ⟨(Oct.two 33024).toArray⟩ ++ ⟨(Oct.two ((8192 * pr + v : Nat) : Int)).toArray⟩) := by
        show _ = _
        rw [ba_append]
        unfold Eth.ba Eth.mark
        rw [if_neg (by omega)]
        rw [show Oct.two ((8192 * pr + v : Nat) : Int) = Oct.be 2 (8192 * pr + v) from if_pos (by omega)]
        rw [show (8192 * (pr : Int) + (v : Int)).toNat = 8192 * pr + v by omega]
        rfl
      have l1 : (⟨(Oct.two 33024).toArray⟩ : ByteArray).size = 2 := rfl
      have l2 : (⟨(Oct.two ((8192 * pr + v : Nat) : Int)).toArray⟩ : ByteArray).size = 2 := by
        rw [show Oct.two ((8192 * pr + v : Nat) : Int) = Oct.be 2 (8192 * pr + v) from if_pos (by omega)]
        exact Oct.be_length _ _
      have C1 := Lib.hid fun w => two_any 33024 w
      have C2 := Lib.hid fun w => two_any ((8192 * pr + v : Nat) : Int) w
      generalize (⟨(Oct.two 33024).toArray⟩ : ByteArray) = T1 at *
      generalize (⟨(Oct.two ((8192 * pr + v : Nat) : Int)).toArray⟩ : ByteArray) = T2 at *
      have hwr : IntKind.i64.wrap ((pr : Int) * 8192) = (pr : Int) * 8192 := by rw [IntKind.wrap_i64]; omega
      have hor := or_prio pr v (by omega) (by omega)
      generalize hn : 8192 * pr + v = n at *
      have HN := Lib.hid hn
      clear hn
      go_upto_region 5 with fail
      have k14 := cell_regrown c14
      have k15 := cell_regrown c15
      have q1 : ¬ 9223372036854775807 < T1.size + T2.size := by omega
      have h12 : (T1 ++ T2).size = 4 := by rw [ByteArray.size_append]; omega
      have q2 : ¬ 9223372036854775807 < (D ++ S).size + (T1 ++ T2).size := by rw [h12]; omega
      refine wp_region_mix 11 (by kernel_rfl) (by kernel_rfl) (by kernel_rfl) ?_
      (refine mix_step (by kernel_rfl) (by kernel_rfl) (fun K hK => ?_); go_simp; (try (simp only [↓IntWalk.iteOmega]; go_simp)); (first | (refine hK _ ?_; clear hK K) | (apply Exists.intro; refine ⟨fun _ => ?_, hK _ ?_⟩; (first | fail); clear hK K)))
      (refine mix_step (by kernel_rfl) (by kernel_rfl) (fun K hK => ?_); go_simp; (try (simp only [↓IntWalk.iteOmega]; go_simp)); (first | (refine hK _ ?_; clear hK K) | (apply Exists.intro; refine ⟨fun _ => ?_, hK _ ?_⟩; (first | exact C1.out _); clear hK K)))
      (refine mix_step (by kernel_rfl) (by kernel_rfl) (fun K hK => ?_); go_simp; (try (simp only [↓IntWalk.iteOmega]; go_simp)); (first | (refine hK _ ?_; clear hK K) | (apply Exists.intro; refine ⟨fun _ => ?_, hK _ ?_⟩; (first | fail); clear hK K)))
      (refine mix_step (by kernel_rfl) (by kernel_rfl) (fun K hK => ?_); go_simp; (try (simp only [↓IntWalk.iteOmega]; go_simp)); (first | (refine hK _ ?_; clear hK K) | (apply Exists.intro; refine ⟨fun _ => ?_, hK _ ?_⟩; (first | fail); clear hK K)))
      (refine mix_step (by kernel_rfl) (by kernel_rfl) (fun K hK => ?_); go_simp; (try (simp only [↓IntWalk.iteOmega]; go_simp)); (first | (refine hK _ ?_; clear hK K) | (apply Exists.intro; refine ⟨fun _ => ?_, hK _ ?_⟩; (first | fail); clear hK K)))
      (refine mix_step (by kernel_rfl) (by kernel_rfl) (fun K hK => ?_); go_simp; (try (simp only [↓IntWalk.iteOmega]; go_simp)); (first | (refine hK _ ?_; clear hK K) | (apply Exists.intro; refine ⟨fun _ => ?_, hK _ ?_⟩; (first | fail); clear hK K)))
      (refine mix_step (by kernel_rfl) (by kernel_rfl) (fun K hK => ?_); go_simp; (try (simp only [↓IntWalk.iteOmega]; go_simp)); (first | (refine hK _ ?_; clear hK K) | (apply Exists.intro; refine ⟨fun _ => ?_, hK _ ?_⟩; (first | fail); clear hK K)))
      (refine mix_step (by kernel_rfl) (by kernel_rfl) (fun K hK => ?_); go_simp; (try (simp only [↓IntWalk.iteOmega]; go_simp)); (first | (refine hK _ ?_; clear hK K) | (apply Exists.intro; refine ⟨fun _ => ?_, hK _ ?_⟩; (first | fail); clear hK K)))
      (refine mix_step (by kernel_rfl) (by kernel_rfl) (fun K hK => ?_); go_simp; (try (simp only [↓IntWalk.iteOmega]; go_simp)); (first | (refine hK _ ?_; clear hK K) | (apply Exists.intro; refine ⟨fun _ => ?_, hK _ ?_⟩; (first | exact C2.out _); clear hK K)))
      (refine mix_step (by kernel_rfl) (by kernel_rfl) (fun K hK => ?_); go_simp; (try (simp only [↓IntWalk.iteOmega]; go_simp)); (first | (refine hK _ ?_; clear hK K) | (apply Exists.intro; refine ⟨fun _ => ?_, hK _ ?_⟩; (first | fail); clear hK K)))
      (refine mix_step (by kernel_rfl) (by kernel_rfl) (fun K hK => ?_); go_simp; (try (simp only [↓IntWalk.iteOmega]; go_simp)); (first | (refine hK _ ?_; clear hK K) | (apply Exists.intro; refine ⟨fun _ => ?_, hK _ ?_⟩; (first | fail); clear hK K)))
      refine mix_nil ?_
      rintro ⟨dq, osq⟩
      have hb1 := below_regrown w2 dq osq
      refine (show wpList _ _ _ _ _ _ from ?_)
      simp only [List.drop, Act.put, List.setIfInBounds_toArray, List.set]
      go_wp2_with fail
      go_meet
      exact ⟨by rw [HM.out], hb1⟩
  case rest =>
    obtain ⟨rfl, hb3⟩ := hcut
    have R3 := Lib.hid (R2.out.kept hb3)
    have hbW := hbW.trans (hb3.mono hbW.size)
    clear c12 c13 c14 c15 R2 hb3
    generalize wc = w3 at *
    have c12 : w3.cell? ⟨w.heap.size, 12, none⟩ = some (.int .i64 ty) := R3.out.cell 12
    have c13 : w3.cell? ⟨w.heap.size, 13, none⟩ = some (.string body) := R3.out.cell 13
    have HK := Lib.hid (show (ty = 0 ∧ Eth.kind ty body.size = body.size) ∨ ((ty == 0) = false ∧ ty = ((Eth.kind ty body.size : Nat) : Int) ∧ ty ≤ 65535) from by
      unfold Eth.kind
      split
      · exact Or.inl ⟨by assumption, rfl⟩
      · exact Or.inr ⟨by rw [beq_eq_false_iff_ne]; assumption, by omega, by omega⟩)
    generalize hkd : Eth.kind ty body.size = kd at *
    have HKD := Lib.hid hkd
    clear hkd
    have hml : (Eth.ba (Eth.mark v pr)).size ≤ 4 := by rw [Eth.ba_size]; exact Eth.mark_len _ _
    generalize hM : Eth.ba (Eth.mark v pr) = M at *
    have HMM := Lib.hid hM
    clear hM
    go_upto_if 36 with fail
    go_cut [5] (fun u wx => u = .int .i64 (kd : Nat) ∧ kd ≤ 65535 ∧ w3 = wx)
    case first =>
      rcases HK.out with ⟨rfl, rfl⟩ | ⟨h1, h2, h3⟩
      · go_wp2_with fail
        go_meet
        exact ⟨rfl, by omega, rfl⟩
      · go_wp2_with fail
        go_meet
        exact ⟨by rw [← h2], by omega, rfl⟩
    case rest =>
      obtain ⟨rfl, hk, rfl⟩ := hcut
      have hms : ((D ++ S) ++ M).size ≤ 16 := by rw [ByteArray.size_append]; omega
      have C1 := Lib.hid fun w => two_any (kd : Int) w
      have hT : (⟨(Oct.two (kd : Int)).toArray⟩ : ByteArray) = Eth.ba (Oct.be 2 kd) := by
        rw [show Oct.two (kd : Int) = Oct.be 2 kd from if_pos (by omega)]
        rfl
      rw [hT] at C1
      have ht2 : (Eth.ba (Oct.be 2 kd)).size = 2 := by rw [Eth.ba_size, Oct.be_length]
      clear hT HK
      generalize hT : Eth.ba (Oct.be 2 kd) = T at *
      have HTT := Lib.hid hT
      clear hT
      go_upto_region 9 with fail
      have k13 := cell_regrown c13
      have q1 : ¬ 9223372036854775807 < ((D ++ S) ++ M).size + T.size := by omega
      have h12 : (((D ++ S) ++ M) ++ T).size ≤ 18 := by rw [ByteArray.size_append]; omega
      have q2 : ¬ 9223372036854775807 < (((D ++ S) ++ M) ++ T).size + body.size := by omega
      refine wp_region_mix 8 (by kernel_rfl) (by kernel_rfl) (by kernel_rfl) ?_
      (refine mix_step (by kernel_rfl) (by kernel_rfl) (fun K hK => ?_); go_simp; (try (simp only [↓IntWalk.iteOmega]; go_simp)); (first | (refine hK _ ?_; clear hK K) | (apply Exists.intro; refine ⟨fun _ => ?_, hK _ ?_⟩; (first | fail); clear hK K)))
      (refine mix_step (by kernel_rfl) (by kernel_rfl) (fun K hK => ?_); go_simp; (try (simp only [↓IntWalk.iteOmega]; go_simp)); (first | (refine hK _ ?_; clear hK K) | (apply Exists.intro; refine ⟨fun _ => ?_, hK _ ?_⟩; (first | fail); clear hK K)))
      (refine mix_step (by kernel_rfl) (by kernel_rfl) (fun K hK => ?_); go_simp; (try (simp only [↓IntWalk.iteOmega]; go_simp)); (first | (refine hK _ ?_; clear hK K) | (apply Exists.intro; refine ⟨fun _ => ?_, hK _ ?_⟩; (first | exact C1.out _); clear hK K)))
      (refine mix_step (by kernel_rfl) (by kernel_rfl) (fun K hK => ?_); go_simp; (try (simp only [↓IntWalk.iteOmega]; go_simp)); (first | (refine hK _ ?_; clear hK K) | (apply Exists.intro; refine ⟨fun _ => ?_, hK _ ?_⟩; (first | fail); clear hK K)))
      (refine mix_step (by kernel_rfl) (by kernel_rfl) (fun K hK => ?_); go_simp; (try (simp only [↓IntWalk.iteOmega]; go_simp)); (first | (refine hK _ ?_; clear hK K) | (apply Exists.intro; refine ⟨fun _ => ?_, hK _ ?_⟩; (first | fail); clear hK K)))
      (refine mix_step (by kernel_rfl) (by kernel_rfl) (fun K hK => ?_); go_simp; (try (simp only [↓IntWalk.iteOmega]; go_simp)); (first | (refine hK _ ?_; clear hK K) | (apply Exists.intro; refine ⟨fun _ => ?_, hK _ ?_⟩; (first | fail); clear hK K)))
      (refine mix_step (by kernel_rfl) (by kernel_rfl) (fun K hK => ?_); go_simp; (try (simp only [↓IntWalk.iteOmega]; go_simp)); (first | (refine hK _ ?_; clear hK K) | (apply Exists.intro; refine ⟨fun _ => ?_, hK _ ?_⟩; (first | fail); clear hK K)))
      (refine mix_step (by kernel_rfl) (by kernel_rfl) (fun K hK => ?_); go_simp; (try (simp only [↓IntWalk.iteOmega]; go_simp)); (first | (refine hK _ ?_; clear hK K) | (apply Exists.intro; refine ⟨fun _ => ?_, hK _ ?_⟩; (first | fail); clear hK K)))
      refine mix_nil ?_
      rintro ⟨dq, osq⟩
      have hb1 := below_regrown w3 dq osq
      have hbW := hbW.trans (hb1.mono hbW.size)
      refine (show wpList _ _ _ _ _ _ from ?_)
      simp only [List.drop, Act.put, List.setIfInBounds_toArray, List.set]
      go_wp2_with fail
      go_ret2
      refine ⟨?_, hbW⟩
      show Ending.returned (.tuple #[.string ((((D ++ S) ++ M) ++ T) ++ body), .int .i64 0]) = _
      rw [ba_assoc, ba_assoc, ba_assoc, HMM.out, HKD.out, HTT.out]
end Go.Proofs.Ytdkgjbakbnhmaaa
