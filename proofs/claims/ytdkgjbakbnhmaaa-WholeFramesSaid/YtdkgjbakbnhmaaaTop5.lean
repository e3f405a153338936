/- ether.Parse of a right frame's text. By an AI agent. -/
import Derived.Test.YtdkgjbakbnhmaaaTop4
import Derived.Test.YtdkgjbakbnhmaaaPart
import Derived.Defers
import Derived.Recover
namespace Go.Proofs.Ytdkgjbakbnhmaaa
open Go.RowKit Go.Sort Grow

theorem parse_idle (x y : Value) (w : World) :
    CallsD Try.prog 19 #[x, y] .returning w fun e u' w' => e = .returned (.tuple #[]) ∧ u' = .returning ∧ w' = w := by
  refine callsD_of_wpS Try.func19 rfl fun c₀ cs hu => ?_
  apply wpS_seq
  apply wpS_region
  simp [wpOpsS, go_sem, recoverD, hu, Try.ntmps19, Exit.thenS]
  apply wpS_seq
  apply wpS_region
  simp [wpOpsS, go_sem, Exit.thenS]
  refine wpS_cond (t := false) (by simp [Act.eval, Array.replicate]) ?_
  simp only [Bool.false_eq_true, if_false]
  refine wpS_of_wp (wp_skip ?_)
  cases c₀
  simp_all [bodyPostS, results, Try.results19]
/-- a result of two cells: a row, a number -/
theorem results_rows {P : Program} {fn : Func} {p q : Tmp} {ty ue : TypeId} (h : fn.results = #[.cell p ty, .cell q ue]) (tmps : Array Value) (w : World) (g ge : Nat) (t te : TypeId) (cs : Array Value) (v : Value) (d : TypeDesc)
    (hp : tmps.getD p undef = .pointer (some ⟨g, 0, none⟩)) (hg : RowIs w g t cs) (hu : P.underlying ty = some d) (hd : (match d with | .struct _ | .array _ _ => true | _ => false) = true) (hi : (P.info? ty).map (·.size) = some cs.size)
    (hq : tmps.getD q undef = .pointer (some ⟨ge, 0, none⟩)) (hge : RowIs w ge te #[v]) (hue : P.underlying ue = some (.int .i64)) (hie : (P.info? ue).map (·.size) = some 1) :
    (results fn tmps).run P w = .ok (.tuple #[.agg cs, v]) w := by
  have hp' : tmps[p]?.getD undef = .pointer (some ⟨g, 0, none⟩) := by simpa using hp
  have hq' : tmps[q]?.getD undef = .pointer (some ⟨ge, 0, none⟩) := by simpa using hq
  have hc : w.cell? ⟨ge, 0, none⟩ = some v := hge.cell 0
  have hagg : (isAgg ue).run P w = .ok false w := by
    unfold isAgg
    simp [run_underlying hue]
  have hlv : (loadVar ue ⟨ge, 0, none⟩).run P w = .ok v w := by
    unfold loadVar
    simp [hagg, run_load, hc]
  simp [results, h, hp', hq', asAddr, run_loadVar_row w g t ty cs (0, 0) d hg hu hd hi, hlv]


set_option maxRecDepth 20000 in
set_option maxHeartbeats 8000000 in
theorem parse_any (d s : Nat → UInt8) (ty v pr : Int) (body : ByteArray) (w : World) (h : Eth.right ty v pr body.size) :
    Calls Try.prog 9 #[.string (Eth.text [d 0, d 1, d 2, d 3, d 4, d 5] [s 0, s 1, s 2, s 3, s 4, s 5] ty v pr body)] w fun e w' => e = .returned (.tuple #[.agg #[.int .u8 ((d 0).toNat : Int), .int .u8 ((d 1).toNat : Int), .int .u8 ((d 2).toNat : Int), .int .u8 ((d 3).toNat : Int), .int .u8 ((d 4).toNat : Int), .int .u8 ((d 5).toNat : Int), .int .u8 ((s 0).toNat : Int), .int .u8 ((s 1).toNat : Int), .int .u8 ((s 2).toNat : Int), .int .u8 ((s 3).toNat : Int), .int .u8 ((s 4).toNat : Int), .int .u8 ((s 5).toNat : Int), .int .i64 ty, .string body, .int .i64 v, .int .i64 pr], .int .i64 0]) ∧ Below w.heap.size w w' := by
  obtain ⟨ht, hv, hz⟩ := h
  have HI : Hid ((Try.prog.info? 23).map (·.size) = some 6) := by show _ = _; kernel_rfl
  have HS := Lib.hid (Eth.text_size (d := [d 0, d 1, d 2, d 3, d 4, d 5]) (s := [s 0, s 1, s 2, s 3, s 4, s 5]) rfl rfl ty v pr body)
  obtain ⟨N1, REST, HTX, hn2, HCASE⟩ : ∃ N1 REST : ByteArray, Hid (Eth.text [d 0, d 1, d 2, d 3, d 4, d 5] [s 0, s 1, s 2, s 3, s 4, s 5] ty v pr body = Eth.ba [d 0, d 1, d 2, d 3, d 4, d 5] ++ (Eth.ba [s 0, s 1, s 2, s 3, s 4, s 5] ++ (N1 ++ REST))) ∧ N1.size = 2 ∧
      Hid ((v = -1 ∧ pr = 0 ∧ Oct.num N1.data.toList = Eth.kind ty body.size ∧ Eth.kind ty body.size ≠ 33024 ∧ REST = body) ∨ (∃ p u : Nat, v = u ∧ pr = p ∧ p < 8 ∧ u ≤ 4094 ∧ Oct.num N1.data.toList = 33024 ∧ REST = Eth.ba (Oct.be 2 (8192 * p + u)) ++ (Eth.ba (Oct.be 2 (Eth.kind ty body.size)) ++ body))) := by
    have hk : Eth.kind ty body.size < 65536 ∧ Eth.kind ty body.size ≠ 33024 := by
      unfold Eth.kind
      split <;> omega
    rcases hv with ⟨rfl, rfl⟩ | ⟨v0, v1, p0, p1⟩
    · refine ⟨Eth.ba (Oct.be 2 (Eth.kind ty body.size)), body, ?_, by rw [Eth.ba_size, Oct.be_length], .inl ⟨rfl, rfl, by rw [Eth.ba_list, Oct.num_be 2 _ (by omega)], hk.2, rfl⟩⟩
      show _ = _
      unfold Eth.text
      have e : Eth.ba (Eth.mark (-1) 0) = ByteArray.empty := rfl
      rw [e, ByteArray.empty_append]
    · obtain ⟨u, rfl⟩ := Int.eq_ofNat_of_zero_le v0
      obtain ⟨p, rfl⟩ := Int.eq_ofNat_of_zero_le p0
      refine ⟨Eth.ba [129, 0], _, ?_, rfl, .inr ⟨p, u, rfl, rfl, by omega, by omega, rfl, rfl⟩⟩
      show _ = _
      unfold Eth.text Eth.mark
      rw [if_neg (by omega), show (8192 * (p : Int) + (u : Int)).toNat = 8192 * p + u by omega]
      rw [show Eth.ba ([129, 0] ++ Oct.be 2 (8192 * p + u)) = Eth.ba [129, 0] ++ Eth.ba (Oct.be 2 (8192 * p + u)) from (ba_append _ _).symm]
      rw [ba_assoc]
  have hsz : (N1 ++ REST).size < 1000 + 1000 := by
    have h1 := HS.out.2.1
    rw [HTX.out, ByteArray.size_append, ByteArray.size_append] at h1
    have := Eth.ba_size [d 0, d 1, d 2, d 3, d 4, d 5]
    omega
  have HNR := Lib.hid hsz
  rw [HTX.out] at HS ⊢
  have HZ1 : Hid ((Eth.ba [s 0, s 1, s 2, s 3, s 4, s 5] ++ (N1 ++ REST)).size < 1000000) := by show _ < _; rw [ByteArray.size_append, show (Eth.ba [s 0, s 1, s 2, s 3, s 4, s 5]).size = 6 from rfl]; omega
  have HZ0 : Hid ((Eth.ba [d 0, d 1, d 2, d 3, d 4, d 5] ++ (Eth.ba [s 0, s 1, s 2, s 3, s 4, s 5] ++ (N1 ++ REST))).size < 1000000) := by show _ < _; rw [ByteArray.size_append, ByteArray.size_append, show (Eth.ba [s 0, s 1, s 2, s 3, s 4, s 5]).size = 6 from rfl, show (Eth.ba [d 0, d 1, d 2, d 3, d 4, d 5]).size = 6 from rfl]; omega
  clear hsz
  have HMD := Lib.hid (fun (B R : Nat) (w : World) (h : RowIs w R 69 _) (hB : B ≤ R) => rmac_any B R d (Eth.ba [s 0, s 1, s 2, s 3, s 4, s 5] ++ (N1 ++ REST)) w h hB HZ0.out)
  have HMS := Lib.hid (fun (B R : Nat) (w : World) (h : RowIs w R 69 _) (hB : B ≤ R) => rmac_any B R s (N1 ++ REST) w h hB HZ1.out)
  generalize hTX : Eth.ba [d 0, d 1, d 2, d 3, d 4, d 5] ++ (Eth.ba [s 0, s 1, s 2, s 3, s 4, s 5] ++ (N1 ++ REST)) = TX at *
  generalize hTY : Eth.ba [s 0, s 1, s 2, s 3, s 4, s 5] ++ (N1 ++ REST) = TY at *
  have HTW := Lib.hid (fun (B R : Nat) (w : World) (h : RowIs w R 69 _) (hB : B ≤ R) => rtwo_any B R N1 REST w h hB (by have := HNR.out; omega) hn2)
  clear hTX hTY HZ0 HZ1
  have hmf : ∀ (fn : Fn) (first cap : Array Value) (w : World), (Instr.makeFunc fn first cap).run Try.prog w = .ok (.func fn first cap) w := fun _ _ _ _ => rfl
  go_enter_defers Try.func9, Try.ntmps9
  go_upto_region 2 with fail
  have X0 : Hid (RowIs ((w.alloc (.cells #[.int .u8 0, .int .u8 0, .int .u8 0, .int .u8 0, .int .u8 0, .int .u8 0, .int .u8 0, .int .u8 0, .int .u8 0, .int .u8 0, .int .u8 0, .int .u8 0, .int .i64 0, .string ⟨#[]⟩, .int .i64 0, .int .i64 0] 33)).alloc (.cells #[.int .i64 0] 30)) w.heap.size 33 #[.int .u8 0, .int .u8 0, .int .u8 0, .int .u8 0, .int .u8 0, .int .u8 0, .int .u8 0, .int .u8 0, .int .u8 0, .int .u8 0, .int .u8 0, .int .u8 0, .int .i64 0, .string ⟨#[]⟩, .int .i64 0, .int .i64 0]) := by show RowIs _ _ _ _; exact (rowIs_new w _ _).alloc _
  have E0 : Hid (RowIs ((w.alloc (.cells #[.int .u8 0, .int .u8 0, .int .u8 0, .int .u8 0, .int .u8 0, .int .u8 0, .int .u8 0, .int .u8 0, .int .u8 0, .int .u8 0, .int .u8 0, .int .u8 0, .int .i64 0, .string ⟨#[]⟩, .int .i64 0, .int .i64 0] 33)).alloc (.cells #[.int .i64 0] 30)) (w.heap.size + 1) 30 #[.int .i64 0]) := by
    show RowIs _ _ _ _
    have := rowIs_new (w.alloc (.cells #[.int .u8 0, .int .u8 0, .int .u8 0, .int .u8 0, .int .u8 0, .int .u8 0, .int .u8 0, .int .u8 0, .int .u8 0, .int .u8 0, .int .u8 0, .int .u8 0, .int .i64 0, .string ⟨#[]⟩, .int .i64 0, .int .i64 0] 33)) 30 #[.int .i64 0]
    simpa using this
  have HB0 : Hid (Below w.heap.size w ((w.alloc (.cells #[.int .u8 0, .int .u8 0, .int .u8 0, .int .u8 0, .int .u8 0, .int .u8 0, .int .u8 0, .int .u8 0, .int .u8 0, .int .u8 0, .int .u8 0, .int .u8 0, .int .i64 0, .string ⟨#[]⟩, .int .i64 0, .int .i64 0] 33)).alloc (.cells #[.int .i64 0] 30))) := ((Below.refl _ _).alloc (Nat.le_refl _) _).alloc (by simp) _
  have hs0 : ((w.alloc (.cells #[.int .u8 0, .int .u8 0, .int .u8 0, .int .u8 0, .int .u8 0, .int .u8 0, .int .u8 0, .int .u8 0, .int .u8 0, .int .u8 0, .int .u8 0, .int .u8 0, .int .i64 0, .string ⟨#[]⟩, .int .i64 0, .int .i64 0] 33)).alloc (.cells #[.int .i64 0] 30)).heap.size = w.heap.size + 2 := by simp
  generalize (w.alloc (.cells #[.int .u8 0, .int .u8 0, .int .u8 0, .int .u8 0, .int .u8 0, .int .u8 0, .int .u8 0, .int .u8 0, .int .u8 0, .int .u8 0, .int .u8 0, .int .u8 0, .int .i64 0, .string ⟨#[]⟩, .int .i64 0, .int .i64 0] 33)).alloc (.cells #[.int .i64 0] 30) = w0 at *
  go_wp2_with ((with_reducible refine at_store 3 (.tmp 8) (.const (.int .i64 (-1))) ?_); refine wpList_store_cell rfl 3 (.tmp 8) (.const (.int .i64 (-1))) rfl w.heap.size 14 _ rfl rfl 33 _ X0.out (by simp) (by kernel_rfl) rfl w.heap.size (Nat.le_refl _) ?_)
  intro w1 hX1 ho1 hs1 hb1
  have X1 := Lib.hid hX1
  have E1 := Lib.hid (show RowIs w1 (w.heap.size + 1) 30 #[.int .i64 0] from (ho1 _ (by omega)).trans E0.out)
  have HB1 := Lib.hid (HB0.out.trans hb1)
  have hs1 : w1.heap.size = w.heap.size + 2 := by first | exact hs1 | exact hs1.trans hs0
  clear hX1 ho1 hb1 X0 E0 HB0 hs0
  go_upto_region 4 with fail
  have R2 : Hid (RowIs (w1.alloc (.cells #[.string TX] 69)) (w.heap.size + 2) 69 #[.string TX]) := by
    show RowIs _ _ _ _
    rw [← hs1]
    exact rowIs_new w1 _ _
  have X2 := Lib.hid (X1.out.alloc (.cells #[.string TX] 69))
  have E2 := Lib.hid (E1.out.alloc (.cells #[.string TX] 69))
  have HB2 := Lib.hid (HB1.out.alloc (show w.heap.size ≤ w1.heap.size by omega) (.cells #[.string TX] 69))
  clear X1 E1 HB1
  generalize w1.alloc (.cells #[.string TX] 69) = w2 at *
  clear hs1
  go_wp2_with fail
  refine (HMD.out w.heap.size _ _ R2.out (by omega)).mono ?_
  rintro e w3 ⟨rfl, hR, hO, hb⟩
  have R3 := Lib.hid hR
  have X3 := Lib.hid (X2.out.only hO (by simp))
  have E3 := Lib.hid (E2.out.only hO (by simp))
  have HB3 := Lib.hid (HB2.out.trans hb)
  clear hR hO hb R2 X2 E2 HB2 HMD
  go_wp2_with fail
  refine (HMS.out w.heap.size _ _ R3.out (by omega)).mono ?_
  rintro e w4 ⟨rfl, hR, hO, hb⟩
  have R4 := Lib.hid hR
  have X4 := Lib.hid (X3.out.only hO (by simp))
  have E4 := Lib.hid (E3.out.only hO (by simp))
  have HB4 := Lib.hid (HB3.out.trans hb)
  clear hR hO hb R3 X3 E3 HB3 HMS
  go_wp2_with ((with_reducible refine at_store 23 (.tmp 17) (.tmp 13) ?_); refine wpList_store_part rfl 23 (.tmp 17) (.tmp 13) rfl w.heap.size 0 _ rfl rfl 33 _ X4.out (by simp) HI.out (by kernel_rfl) #[.int .u8 ((d 0).toNat : Int), .int .u8 ((d 1).toNat : Int), .int .u8 ((d 2).toNat : Int), .int .u8 ((d 3).toNat : Int), .int .u8 ((d 4).toNat : Int), .int .u8 ((d 5).toNat : Int), .int .u8 0, .int .u8 0, .int .u8 0, .int .u8 0, .int .u8 0, .int .u8 0, .int .i64 0, .string ⟨#[]⟩, .int .i64 (-1), .int .i64 0] rfl w.heap.size (Nat.le_refl _) ?_)
  intro w5 hX5 ho5 hs5 hb5
  have X5 := Lib.hid hX5
  have E5 := Lib.hid (show RowIs w5 (w.heap.size + 1) 30 #[.int .i64 0] from (ho5 _ (by omega)).trans E4.out)
  have R5 := Lib.hid (show RowIs w5 (w.heap.size + 2) 69 #[.string (N1 ++ REST)] from (ho5 _ (by omega)).trans R4.out)
  have HB5 := Lib.hid (HB4.out.trans hb5)
  clear hX5 ho5 hs5 hb5 X4 E4 R4 HB4
  go_wp2_with ((with_reducible refine at_store 23 (.tmp 19) (.tmp 15) ?_); refine wpList_store_part rfl 23 (.tmp 19) (.tmp 15) rfl w.heap.size 6 _ rfl rfl 33 _ X5.out (by simp) HI.out (by kernel_rfl) #[.int .u8 ((d 0).toNat : Int), .int .u8 ((d 1).toNat : Int), .int .u8 ((d 2).toNat : Int), .int .u8 ((d 3).toNat : Int), .int .u8 ((d 4).toNat : Int), .int .u8 ((d 5).toNat : Int), .int .u8 ((s 0).toNat : Int), .int .u8 ((s 1).toNat : Int), .int .u8 ((s 2).toNat : Int), .int .u8 ((s 3).toNat : Int), .int .u8 ((s 4).toNat : Int), .int .u8 ((s 5).toNat : Int), .int .i64 0, .string ⟨#[]⟩, .int .i64 (-1), .int .i64 0] rfl w.heap.size (Nat.le_refl _) ?_)
  intro w6 hX6 ho6 hs6 hb6
  have X6 := Lib.hid hX6
  have E6 := Lib.hid (show RowIs w6 (w.heap.size + 1) 30 #[.int .i64 0] from (ho6 _ (by omega)).trans E5.out)
  have R6 := Lib.hid (show RowIs w6 (w.heap.size + 2) 69 #[.string (N1 ++ REST)] from (ho6 _ (by omega)).trans R5.out)
  have HB6 := Lib.hid (HB5.out.trans hb6)
  clear hX6 ho6 hs6 hb6 X5 E5 R5 HB5
  go_wp2_with fail
  refine (HTW.out w.heap.size _ _ R6.out (by omega)).mono ?_
  rintro e w7 ⟨rfl, hR, hO, hb⟩
  have R7 := Lib.hid hR
  have X7 := Lib.hid (X6.out.only hO (by simp))
  have E7 := Lib.hid (E6.out.only hO (by simp))
  have HB7 := Lib.hid (HB6.out.trans hb)
  clear hR hO hb R6 X6 E6 HB6 HTW hn2 HNR
  have HK := Lib.hid (show (ty = 0 ∧ Eth.kind ty body.size = body.size) ∨ (ty = ((Eth.kind ty body.size : Nat) : Int) ∧ 1536 ≤ Eth.kind ty body.size ∧ Eth.kind ty body.size ≤ 65535 ∧ Eth.kind ty body.size ≠ 33024) from by
    unfold Eth.kind
    split
    · exact Or.inl ⟨by assumption, rfl⟩
    · exact Or.inr ⟨by omega, by omega, by omega, by omega⟩)
  have HVP : Hid (v ≤ 4094) := by show _ ≤ _; omega
  clear HTX hv
  generalize Eth.kind ty body.size = kd at *
  generalize Oct.num N1.data.toList = n1 at *
  go_upto_if 23 with fail
  go_cut [5, 6] from 22 to 30 (fun u5 u6 wx => ∃ mo : Int, u5 = .int .i64 (kd : Nat) ∧ u6 = .int .i64 mo ∧ (TX.size : Int) ≤ mo ∧ RowIs wx w.heap.size 33 #[.int .u8 ((d 0).toNat : Int), .int .u8 ((d 1).toNat : Int), .int .u8 ((d 2).toNat : Int), .int .u8 ((d 3).toNat : Int), .int .u8 ((d 4).toNat : Int), .int .u8 ((d 5).toNat : Int), .int .u8 ((s 0).toNat : Int), .int .u8 ((s 1).toNat : Int), .int .u8 ((s 2).toNat : Int), .int .u8 ((s 3).toNat : Int), .int .u8 ((s 4).toNat : Int), .int .u8 ((s 5).toNat : Int), .int .i64 0, .string ⟨#[]⟩, .int .i64 v, .int .i64 pr] ∧ RowIs wx (w.heap.size + 1) 30 #[.int .i64 0] ∧ RowIs wx (w.heap.size + 2) 69 #[.string body] ∧ Below w.heap.size w wx)
  case first =>
    rcases HCASE.out with ⟨rfl, rfl, rfl, hk, rfl⟩ | ⟨p, u, rfl, rfl, hp, hu, rfl, rfl⟩
    · have hne : ((n1 : Int) == 33024) = false := by rw [beq_eq_false_iff_ne]; omega
      have hmo := HS.out.2.2 rfl
      go_wp2_with fail
      go_meet
      exact ⟨1514, rfl, rfl, by omega, X7.out, E7.out, R7.out, HB7.out⟩
    · have hmo := HS.out.2.1
      have HTG := Lib.hid (rtag_any w.heap.size (w.heap.size + 2) w.heap.size d s (Eth.ba (Oct.be 2 kd) ++ body) p u w7 R7.out X7.out (by omega) (Nat.le_refl _) (by omega) (by rw [ByteArray.size_append, ByteArray.size_append, Eth.ba_size, Eth.ba_size, Oct.be_length, Oct.be_length]; omega) hp (by omega))
      go_wp2_with fail
      refine HTG.out.mono ?_
      rintro e w8 ⟨rfl, hR, hX, hO, hb⟩
      have R8 := Lib.hid hR
      have X8 := Lib.hid hX
      have E8 := Lib.hid (E7.out.only hO (by simp))
      have HB8 := Lib.hid (HB7.out.trans hb)
      clear hR hX hO hb X7 E7 R7 HB7 HTG
      have hk : kd < 65536 := by rcases HK.out with h | h <;> omega
      have HT2 := Lib.hid (rtwo_any w.heap.size (w.heap.size + 2) (Eth.ba (Oct.be 2 kd)) body w8 R8.out (by omega) (by rw [ByteArray.size_append, Eth.ba_size, Oct.be_length]; omega) (by rw [Eth.ba_size, Oct.be_length]))
      rw [Eth.ba_list, Oct.num_be 2 _ (by omega)] at HT2
      go_wp2_with fail
      refine HT2.out.mono ?_
      rintro e w9 ⟨rfl, hR, hO, hb⟩
      have R9 := Lib.hid hR
      have X9 := Lib.hid (X8.out.only hO (by simp))
      have E9 := Lib.hid (E8.out.only hO (by simp))
      have HB9 := Lib.hid (HB8.out.trans hb)
      clear hR hO hb X8 E8 R8 HB8 HT2
      go_wp2_with fail
      go_meet
      exact ⟨1518, rfl, rfl, by omega, X9.out, E9.out, R9.out, HB9.out⟩
  case rest =>
    obtain ⟨mo, rfl, rfl, hmo, hX, hE, hR, hb⟩ := hcut
    have R8 := Lib.hid hR
    have X8 := Lib.hid hX
    have E8 := Lib.hid hE
    have HB8 := Lib.hid hb
    clear hR hX hE hb X7 E7 R7 HB7 HCASE HS
    generalize wc = w8 at *
    have hdec : decide ((TX.size : Int) ≤ mo) = true := decide_eq_true hmo
    have HBO : Hid (Calls Try.prog 24 #[.pointer (some ⟨w.heap.size, 0, none⟩), .pointer (some ⟨w.heap.size + 2, 0, none⟩), .int .i64 (kd : Nat)] w8 fun e w' => e = .returned (.tuple #[]) ∧ RowIs w' w.heap.size 33 #[.int .u8 ((d 0).toNat : Int), .int .u8 ((d 1).toNat : Int), .int .u8 ((d 2).toNat : Int), .int .u8 ((d 3).toNat : Int), .int .u8 ((d 4).toNat : Int), .int .u8 ((d 5).toNat : Int), .int .u8 ((s 0).toNat : Int), .int .u8 ((s 1).toNat : Int), .int .u8 ((s 2).toNat : Int), .int .u8 ((s 3).toNat : Int), .int .u8 ((s 4).toNat : Int), .int .u8 ((s 5).toNat : Int), .int .i64 ty, .string body, .int .i64 v, .int .i64 pr] ∧ Only [w.heap.size + 2, w.heap.size] w8 w' ∧ Below w.heap.size w8 w') := by
      rcases HK.out with ⟨rfl, rfl⟩ | ⟨rfl, h1, h2, h3⟩
      · exact rbody_short w.heap.size (w.heap.size + 2) w.heap.size d s body v pr w8 R8.out X8.out (by omega) (Nat.le_refl _) (by omega) hz
      · exact rbody_typed w.heap.size (w.heap.size + 2) w.heap.size d s body kd v pr w8 R8.out X8.out (Nat.le_refl _) (by omega) ⟨h1, h2, h3⟩
    go_wp2_with fail
    refine (must_yes _ _).mono ?_
    rintro e w9 ⟨rfl, rfl⟩
    go_wp2_with fail
    refine HBO.out.mono ?_
    rintro e w9 ⟨rfl, hX, hO, hb⟩
    have X9 := Lib.hid hX
    have E9 := Lib.hid (E8.out.only hO (by simp))
    have HB9 := Lib.hid (HB8.out.trans hb)
    clear hX hO hb X8 E8 R8 HB8 HBO hdec hmo
    have c14 : w9.cell? ⟨w.heap.size, 14, none⟩ = some (.int .i64 v) := X9.out.cell 14
    have hvd : decide (v ≤ 4094) = true := decide_eq_true HVP.out
    go_wp2_with fail
    refine (must_yes _ _).mono ?_
    rintro e w10 ⟨rfl, rfl⟩
    clear c14 hvd
    have hie : (Try.prog.info? 33).map (·.size) = some 16 := by kernel_rfl
    have HIE := Lib.hid hie
    clear hie
    go_wp2_with (first
      | ((with_reducible refine at_load 33 (.tmp 2) ?_); refine wpList_load_own rfl 33 (.tmp 2) rfl w.heap.size rfl _ _ _ X9.out Try.underlying33 rfl HIE.out ?_)
      | ((with_reducible refine at_store 33 (.tmp 2) (.tmp 42) ?_); refine wpList_store_own rfl 33 (.tmp 2) (.tmp 42) rfl w.heap.size _ rfl rfl _ _ X9.out HIE.out rfl (by kernel_rfl) w.heap.size (Nat.le_refl _) ?_))
    intro w10 hX hO hs hb
    have X10 := Lib.hid hX
    have E10 := Lib.hid (show RowIs w10 (w.heap.size + 1) 30 #[.int .i64 0] from (hO _ (by omega)).trans E9.out)
    have HB10 := Lib.hid (HB9.out.trans hb)
    clear hX hO hs hb X9 E9 HB9
    go_wp2_with ((with_reducible refine at_store 30 (.tmp 3) (.const (.int .i64 0)) ?_); refine wpList_store_cell rfl 30 (.tmp 3) (.const (.int .i64 0)) rfl (w.heap.size + 1) 0 _ rfl rfl 30 _ E10.out (by simp) (by kernel_rfl) rfl w.heap.size (by omega) ?_)
    intro w11 hE hO hs hb
    have E11 := Lib.hid hE
    have X11 := Lib.hid (show RowIs w11 w.heap.size 33 #[.int .u8 ((d 0).toNat : Int), .int .u8 ((d 1).toNat : Int), .int .u8 ((d 2).toNat : Int), .int .u8 ((d 3).toNat : Int), .int .u8 ((d 4).toNat : Int), .int .u8 ((d 5).toNat : Int), .int .u8 ((s 0).toNat : Int), .int .u8 ((s 1).toNat : Int), .int .u8 ((s 2).toNat : Int), .int .u8 ((s 3).toNat : Int), .int .u8 ((s 4).toNat : Int), .int .u8 ((s 5).toNat : Int), .int .i64 ty, .string body, .int .i64 v, .int .i64 pr] from (hO _ (by omega)).trans X10.out)
    have HB11 := Lib.hid (HB10.out.trans hb)
    clear hE hO hs hb X10 E10 HB10
    go_wp2_with fail
    refine leaves_cons (f := 19) (args := #[.pointer (some ⟨w.heap.size, 0, none⟩), .pointer (some ⟨w.heap.size + 1, 0, none⟩)]) (by simp) (by simp [go_sem]) ?_
    refine (parse_idle _ _ _).mono ?_
    rintro e u' w12 ⟨rfl, rfl, rfl⟩
    exact ⟨_, results_rows Try.results9 _ _ w.heap.size (w.heap.size + 1) _ _ _ _ _ rfl X11.out Try.underlying33 rfl HIE.out rfl E11.out Try.underlying30 (by kernel_rfl), rfl, HB11.out⟩
end Go.Proofs.Ytdkgjbakbnhmaaa
