/- conf: port. By an AI agent. -/
import Derived.Test.YthfckdnennfnoaaGreatDoorConf6
namespace Go.Proofs.YthfckdnennfnoaaGreatDoor
open Go.RowKit Go.Sort Grow
set_option maxRecDepth 20000 in
set_option maxHeartbeats 16000000 in
theorem port_any (B R sb : Nat) (ps : List ByteArray) (w : World) (hp : Cf.PAt w R sb ps 0) (hBR : B ≤ R) (hszs : ∀ k x, ps.getD k ⟨#[]⟩ = x → x.size ≤ 100000) :
    Calls Tryz.prog 40 #[.pointer (some ⟨R, 0, none⟩)] w fun e w' => Cf.PortAns ps w.heap.size e w' ∧ Only [R] w w' ∧ Below B w w' := by
  have hRH : R < w.heap.size := by obtain ⟨_, _, _, _, off, _, h⟩ := hp; exact h.lt
  have hSH : sb < w.heap.size := by obtain ⟨_, _, _, h, _⟩ := hp; exact h.lt
  have hBw : B ≤ w.heap.size := by omega
  have hp2 := (hp.kept ((Below.refl _ _).alloc (Nat.le_refl _) (.cells Cf.zport 72))).kept ((Below.refl _ _).alloc (Nat.le_refl _) (.cells Cf.zport 72))
  obtain ⟨x0, hx0⟩ : ∃ x, ps.getD 0 ⟨#[]⟩ = x := ⟨_, rfl⟩
  obtain ⟨x1, hx1⟩ : ∃ x, ps.getD 1 ⟨#[]⟩ = x := ⟨_, rfl⟩
  obtain ⟨x2, hx2⟩ : ∃ x, ps.getD 2 ⟨#[]⟩ = x := ⟨_, rfl⟩
  obtain ⟨x3, hx3⟩ : ∃ x, ps.getD 3 ⟨#[]⟩ = x := ⟨_, rfl⟩
  obtain ⟨x4, hx4⟩ : ∃ x, ps.getD 4 ⟨#[]⟩ = x := ⟨_, rfl⟩
  obtain ⟨x5, hx5⟩ : ∃ x, ps.getD 5 ⟨#[]⟩ = x := ⟨_, rfl⟩
  obtain ⟨x6, hx6⟩ : ∃ x, ps.getD 6 ⟨#[]⟩ = x := ⟨_, rfl⟩
  obtain ⟨x7, hx7⟩ : ∃ x, ps.getD 7 ⟨#[]⟩ = x := ⟨_, rfl⟩
  go_enter Tryz.func40, Tryz.ntmps40
  go_upto_region 2 with ((with_reducible refine at_alloc 72 ?_); refine wpList_alloc_port rfl 72 Cf.zport rfl zport_is ?_)
  rw [show (w.alloc (.cells Cf.zport 72)).heap.size = w.heap.size + 1 from World.size_alloc _ _]
  have HP0 : Hid (Cf.PAt ((w.alloc (.cells Cf.zport 72)).alloc (.cells Cf.zport 72)) R sb ps 0) := hp2
  have HR0 : Hid (RowIs ((w.alloc (.cells Cf.zport 72)).alloc (.cells Cf.zport 72)) w.heap.size 72 ((.int .i64 0 :: .slice none 0 0 :: .int .i64 0 :: .int .i64 0 :: .bool false :: .int .i64 0 :: .bool false :: byteVals (Cf.zeros 32)).toArray)) := by show RowIs _ _ _ _; exact (rowIs_new w _ _).alloc _
  have HX0 : Hid (RowIs ((w.alloc (.cells Cf.zport 72)).alloc (.cells Cf.zport 72)) (w.heap.size + 1) 72 ((.int .i64 0 :: .slice none 0 0 :: .int .i64 0 :: .int .i64 0 :: .bool false :: .int .i64 0 :: .bool false :: byteVals (Cf.zeros 32)).toArray)) := by show RowIs _ _ _ _; exact rowIs_new1 w _ _ _
  have HB0 : Hid (Below B w ((w.alloc (.cells Cf.zport 72)).alloc (.cells Cf.zport 72))) := ((Below.refl _ _).alloc hBw _).alloc (by simp; omega) _
  have HO0 : Hid (Only [R] w ((w.alloc (.cells Cf.zport 72)).alloc (.cells Cf.zport 72))) := ((Only.refl _ _).below ((Below.refl _ _).alloc (Nat.le_refl _) _)).below ((Below.refl _ _).alloc (Nat.le_refl _) _)
  generalize ((w.alloc (.cells Cf.zport 72)).alloc (.cells Cf.zport 72)) = w0 at *
  have HZ0 : Hid (B ≤ w0.heap.size) := Nat.le_trans hBw HB0.out.size
  clear hp hp2
  generalize hH : w.heap.size = H at *
  have hBw : B ≤ w.heap.size := by rw [hH]; exact hBw
  go_wp2_with fail
  by_cases q0 : 0 < ps.length
  case neg =>
    refine (next_no' R sb ps 0 _ HP0.out q0).mono ?_
    rintro e w' ⟨rfl, rfl⟩
    exact ⟨rfl, Cf.portAns_no (Cf.port_len0 (by omega)), HO0.out, HB0.out⟩
  have HQ0 := Lib.hid q0
  clear q0
  refine (next_okX (B := B) HP0.out HQ0.out hBR hx0).mono ?_
  rintro e w1 ⟨rfl, hP, hO, hb⟩
  have HP1 := Lib.hid hP
  have HX1 := Lib.hid (HX0.out.only hO (by simp; omega))
  have HR1 := Lib.hid (HR0.out.only hO (by simp; omega))
  have HO1 := Lib.hid (HO0.out.trans hO)
  have HB1 := Lib.hid (HB0.out.trans hb)
  clear hP hO hb HX0 HR0 HO0 HB0 HP0 HZ0
  have HZ1 : Hid (B ≤ w1.heap.size) := Nat.le_trans hBw HB1.out.size
  by_cases ht : x0.data.toList = Cf.wTap
  case pos =>
    have dt : (x0.toList == [116, 97, 112]) = true := Cf.eqT ht
    have dl : (x0.toList == [108, 105, 110, 107]) = false := Cf.eqF (by rw [ht]; decide)
    have HTL := Lib.hid (Cf.tail_tap (ps := ps) (by rw [Cf.part_x hx0]; exact ht))
    clear ht
    have HPL : (Cf.zeros 32).length = 32 := rfl
    go_wp2_with fail
    refine (must_ok _).mono ?_
    rintro e w' ⟨rfl, rfl⟩
    go_wp2_with fail
    by_cases q1 : 1 < ps.length
    case neg =>
      refine (next_no' R sb ps 1 _ HP1.out q1).mono ?_
      rintro e w' ⟨rfl, rfl⟩
      exact ⟨rfl, Cf.portAns_no (HTL.out.len (by omega)), HO1.out, HB1.out⟩
    have HQ1 := Lib.hid q1
    clear q1
    refine (next_okX (B := B) HP1.out HQ1.out hBR hx1).mono ?_
    rintro e w2 ⟨rfl, hP, hO, hb⟩
    have HP2 := Lib.hid hP
    have HX2 := Lib.hid (HX1.out.only hO (by simp; omega))
    have HR2 := Lib.hid (HR1.out.only hO (by simp; omega))
    have HO2 := Lib.hid (HO1.out.trans hO)
    have HB2 := Lib.hid (HB1.out.trans hb)
    clear hP hO hb HX1 HR1 HO1 HB1 HP1 HZ1
    have HZ2 : Hid (B ≤ w2.heap.size) := Nat.le_trans hBw HB2.out.size
    go_wp2_with fail
    cases hn : Cf.numOf x1.data.toList with
    | none =>
      refine (number_badC hn _).mono ?_
      rintro e w' ⟨rfl, hb⟩
      exact ⟨rfl, Cf.portAns_no (HTL.out.bad (.inl (by rw [Cf.part_x hx1]; exact hn))), HO2.out.below hb, HB2.out.trans (hb.mono HZ2.out)⟩
    | some na =>
      refine (number_okC hn _).mono ?_
      rintro e w3 ⟨rfl, hb⟩
      have HNna := Lib.hid hn
      clear hn
      have HP3 := Lib.hid (HP2.out.kept hb)
      have HX3 := Lib.hid (HX2.out.kept hb)
      have HR3 := Lib.hid (HR2.out.kept hb)
      have HO3 := Lib.hid (HO2.out.below hb)
      have HB3 := Lib.hid (HB2.out.trans (hb.mono HZ2.out))
      clear hb HX2 HR2 HO2 HB2 HP2 HZ2
      have HZ3 : Hid (B ≤ w3.heap.size) := Nat.le_trans hBw HB3.out.size
      go_wp2_with fail
      by_cases q2 : 2 < ps.length
      case neg =>
        refine (next_no' R sb ps 2 _ HP3.out q2).mono ?_
        rintro e w' ⟨rfl, rfl⟩
        exact ⟨rfl, Cf.portAns_no (HTL.out.len (by omega)), HO3.out, HB3.out⟩
      have HQ2 := Lib.hid q2
      clear q2
      refine (next_okX (B := B) HP3.out HQ2.out hBR hx2).mono ?_
      rintro e w4 ⟨rfl, hP, hO, hb⟩
      have HP4 := Lib.hid hP
      have HX4 := Lib.hid (HX3.out.only hO (by simp; omega))
      have HR4 := Lib.hid (HR3.out.only hO (by simp; omega))
      have HO4 := Lib.hid (HO3.out.trans hO)
      have HB4 := Lib.hid (HB3.out.trans hb)
      clear hP hO hb HX3 HR3 HO3 HB3 HP3 HZ3
      have HZ4 : Hid (B ≤ w4.heap.size) := Nat.le_trans hBw HB4.out.size
      go_wp2_with fail
      cases hn : Cf.tagsOf x2.data.toList with
      | none =>
        refine (tags_bad hn (hszs _ x2 hx2) _).mono ?_
        rintro e w' ⟨rfl, hb⟩
        exact ⟨rfl, Cf.portAns_no (HTL.out.bad (.inr (.inl (by rw [Cf.part_x hx2]; exact hn)))), HO4.out.below hb, HB4.out.trans (hb.mono HZ4.out)⟩
      | some ts =>
        refine (tags_ok hn (hszs _ x2 hx2) (H + 2) _ (Nat.le_of_lt_succ (Nat.succ_lt_succ HX4.out.lt))).mono ?_
        rintro e w5 ⟨⟨tv, rfl, hot⟩, hb⟩
        have HNts := Lib.hid hn
        clear hn
        have HP5 := Lib.hid (HP4.out.kept hb)
        have HX5 := Lib.hid (HX4.out.kept hb)
        have HR5 := Lib.hid (HR4.out.kept hb)
        have HO5 := Lib.hid (HO4.out.below hb)
        have HB5 := Lib.hid (HB4.out.trans (hb.mono HZ4.out))
        clear hb HX4 HR4 HO4 HB4 HP4 HZ4
        have HZ5 : Hid (B ≤ w5.heap.size) := Nat.le_trans hBw HB5.out.size
        obtain ⟨ta, tn, tc, rfl⟩ := tv_form hot
        have HT5 := Lib.hid hot
        clear hot
        go_wp2_with ((with_reducible refine at_store 67 (.tmp 48) (.tmp 46) ?_); refine wpList_store_part rfl 67 (.tmp 48) (.tmp 46) rfl (H + 1) 0 #[.int .i64 na, .slice ta tn tc] rfl rfl 72 _ HX5.out (by simp) (by kernel_rfl) (by simp [Value.oneCell']) ((.int .i64 na :: (.slice ta tn tc) :: .int .i64 0 :: .int .i64 0 :: .bool false :: .int .i64 0 :: .bool false :: byteVals (Cf.zeros 32)).toArray) rfl B (by omega) ?_)
        intro w6 hR hO hs hb
        have HP6 := Lib.hid (HP5.out.only ((Only.refl [(H + 1)] w5).store (List.mem_singleton.2 rfl) hO hs) (by simp; omega) (by simp; omega))
        have HX6 : Hid (RowIs w6 (H + 1) 72 (.int .i64 na :: (.slice ta tn tc) :: .int .i64 0 :: .int .i64 0 :: .bool false :: .int .i64 0 :: .bool false :: byteVals (Cf.zeros 32)).toArray) := hR
        have HR6 := Lib.hid (show RowIs w6 H 72 (.int .i64 0 :: .slice none 0 0 :: .int .i64 0 :: .int .i64 0 :: .bool false :: .int .i64 0 :: .bool false :: byteVals (Cf.zeros 32)).toArray from (hO _ (by omega)).trans HR5.out)
        have HT6 := Lib.hid (owns_stored HT5.out hO (by omega))
        have HO6 := Lib.hid (show Only [R] w w6 from HO5.out.newer (by omega) hO hs)
        have HB6 := Lib.hid (HB5.out.trans hb)
        clear hR hO hs hb HX5 HR5 HT5 HO5 HB5 HP5 HZ5
        have HZ6 : Hid (B ≤ w6.heap.size) := Nat.le_trans hBw HB6.out.size
        go_wp2_with fail
        by_cases q3 : 3 < ps.length
        case neg =>
          refine (next_no' R sb ps 3 _ HP6.out q3).mono ?_
          rintro e w' ⟨rfl, rfl⟩
          exact ⟨rfl, Cf.portAns_no (HTL.out.len (by omega)), HO6.out, HB6.out⟩
        have HQ3 := Lib.hid q3
        clear q3
        refine (next_okX (B := B) HP6.out HQ3.out hBR hx3).mono ?_
        rintro e w7 ⟨rfl, hP, hO, hb⟩
        have HP7 := Lib.hid hP
        have HX7 := Lib.hid (HX6.out.only hO (by simp; omega))
        have HR7 := Lib.hid (HR6.out.only hO (by simp; omega))
        have HT7 := Lib.hid (owns_only HT6.out hO (by simp; omega))
        have HO7 := Lib.hid (HO6.out.trans hO)
        have HB7 := Lib.hid (HB6.out.trans hb)
        clear hP hO hb HX6 HR6 HT6 HO6 HB6 HP6 HZ6
        have HZ7 : Hid (B ≤ w7.heap.size) := Nat.le_trans hBw HB7.out.size
        go_wp2_with fail
        cases hn : Cf.numOf x3.data.toList with
        | none =>
          refine (number_badC hn _).mono ?_
          rintro e w' ⟨rfl, hb⟩
          exact ⟨rfl, Cf.portAns_no (HTL.out.bad (.inr (.inr (.inl (by rw [Cf.part_x hx3]; exact hn))))), HO7.out.below hb, HB7.out.trans (hb.mono HZ7.out)⟩
        | some nh =>
          refine (number_okC hn _).mono ?_
          rintro e w8 ⟨rfl, hb⟩
          have HNnh := Lib.hid hn
          clear hn
          have HP8 := Lib.hid (HP7.out.kept hb)
          have HX8 := Lib.hid (HX7.out.kept hb)
          have HR8 := Lib.hid (HR7.out.kept hb)
          have HT8 := Lib.hid (OutInts.later HT7.out hb)
          have HO8 := Lib.hid (HO7.out.below hb)
          have HB8 := Lib.hid (HB7.out.trans (hb.mono HZ7.out))
          clear hb HX7 HR7 HT7 HO7 HB7 HP7 HZ7
          have HZ8 : Hid (B ≤ w8.heap.size) := Nat.le_trans hBw HB8.out.size
          go_wp2_with fail
          by_cases q4 : 4 < ps.length
          case neg =>
            refine (next_no' R sb ps 4 _ HP8.out q4).mono ?_
            rintro e w' ⟨rfl, rfl⟩
            exact ⟨rfl, Cf.portAns_no (HTL.out.len (by omega)), HO8.out, HB8.out⟩
          have HQ4 := Lib.hid q4
          clear q4
          refine (next_okX (B := B) HP8.out HQ4.out hBR hx4).mono ?_
          rintro e w9 ⟨rfl, hP, hO, hb⟩
          have HP9 := Lib.hid hP
          have HX9 := Lib.hid (HX8.out.only hO (by simp; omega))
          have HR9 := Lib.hid (HR8.out.only hO (by simp; omega))
          have HT9 := Lib.hid (owns_only HT8.out hO (by simp; omega))
          have HO9 := Lib.hid (HO8.out.trans hO)
          have HB9 := Lib.hid (HB8.out.trans hb)
          clear hP hO hb HX8 HR8 HT8 HO8 HB8 HP8 HZ8
          have HZ9 : Hid (B ≤ w9.heap.size) := Nat.le_trans hBw HB9.out.size
          go_wp2_with fail
          cases hn : Cf.numOf x4.data.toList with
          | none =>
            refine (number_badC hn _).mono ?_
            rintro e w' ⟨rfl, hb⟩
            exact ⟨rfl, Cf.portAns_no (HTL.out.bad (.inr (.inr (.inr (by rw [Cf.part_x hx4]; exact hn))))), HO9.out.below hb, HB9.out.trans (hb.mono HZ9.out)⟩
          | some nl =>
            refine (number_okC hn _).mono ?_
            rintro e w10 ⟨rfl, hb⟩
            have HNnl := Lib.hid hn
            clear hn
            have HP10 := Lib.hid (HP9.out.kept hb)
            have HX10 := Lib.hid (HX9.out.kept hb)
            have HR10 := Lib.hid (HR9.out.kept hb)
            have HT10 := Lib.hid (OutInts.later HT9.out hb)
            have HO10 := Lib.hid (HO9.out.below hb)
            have HB10 := Lib.hid (HB9.out.trans (hb.mono HZ9.out))
            clear hb HX9 HR9 HT9 HO9 HB9 HP9 HZ9
            have HZ10 : Hid (B ≤ w10.heap.size) := Nat.le_trans hBw HB10.out.size
            go_wp2_with ((with_reducible refine at_store 3 (.tmp 56) (.tmp 51) ?_); refine wpList_store_cell rfl 3 (.tmp 56) (.tmp 51) rfl (H + 1) 2 _ rfl rfl 72 _ HX10.out (by simp) (by kernel_rfl) rfl B (by omega) ?_)
            intro w11 hR hO hs hb
            have hR : RowIs w11 (H + 1) 72 ((.int .i64 na :: (.slice ta tn tc) :: .int .i64 nh :: .int .i64 0 :: .bool false :: .int .i64 0 :: .bool false :: byteVals (Cf.zeros 32)).toArray) := by
              have e : (.int .i64 na :: (.slice ta tn tc) :: .int .i64 0 :: .int .i64 0 :: .bool false :: .int .i64 0 :: .bool false :: byteVals (Cf.zeros 32)).set 2 (.int .i64 nh) = (.int .i64 na :: (.slice ta tn tc) :: .int .i64 nh :: .int .i64 0 :: .bool false :: .int .i64 0 :: .bool false :: byteVals (Cf.zeros 32)) := rfl
              rw [← e]
              exact hR
            have HP11 := Lib.hid (HP10.out.only ((Only.refl [(H + 1)] w10).store (List.mem_singleton.2 rfl) hO hs) (by simp; omega) (by simp; omega))
            have HX11 : Hid (RowIs w11 (H + 1) 72 (.int .i64 na :: (.slice ta tn tc) :: .int .i64 nh :: .int .i64 0 :: .bool false :: .int .i64 0 :: .bool false :: byteVals (Cf.zeros 32)).toArray) := hR
            have HR11 := Lib.hid (show RowIs w11 H 72 (.int .i64 0 :: .slice none 0 0 :: .int .i64 0 :: .int .i64 0 :: .bool false :: .int .i64 0 :: .bool false :: byteVals (Cf.zeros 32)).toArray from (hO _ (by omega)).trans HR10.out)
            have HT11 := Lib.hid (owns_stored HT10.out hO (by omega))
            have HO11 := Lib.hid (show Only [R] w w11 from HO10.out.newer (by omega) hO hs)
            have HB11 := Lib.hid (HB10.out.trans hb)
            clear hR hO hs hb HX10 HR10 HT10 HO10 HB10 HP10 HZ10
            have HZ11 : Hid (B ≤ w11.heap.size) := Nat.le_trans hBw HB11.out.size
            go_wp2_with ((with_reducible refine at_store 3 (.tmp 58) (.tmp 54) ?_); refine wpList_store_cell rfl 3 (.tmp 58) (.tmp 54) rfl (H + 1) 3 _ rfl rfl 72 _ HX11.out (by simp) (by kernel_rfl) rfl B (by omega) ?_)
            intro w12 hR hO hs hb
            have hR : RowIs w12 (H + 1) 72 ((.int .i64 na :: (.slice ta tn tc) :: .int .i64 nh :: .int .i64 nl :: .bool false :: .int .i64 0 :: .bool false :: byteVals (Cf.zeros 32)).toArray) := by
              have e : (.int .i64 na :: (.slice ta tn tc) :: .int .i64 nh :: .int .i64 0 :: .bool false :: .int .i64 0 :: .bool false :: byteVals (Cf.zeros 32)).set 3 (.int .i64 nl) = (.int .i64 na :: (.slice ta tn tc) :: .int .i64 nh :: .int .i64 nl :: .bool false :: .int .i64 0 :: .bool false :: byteVals (Cf.zeros 32)) := rfl
              rw [← e]
              exact hR
            have HP12 := Lib.hid (HP11.out.only ((Only.refl [(H + 1)] w11).store (List.mem_singleton.2 rfl) hO hs) (by simp; omega) (by simp; omega))
            have HX12 : Hid (RowIs w12 (H + 1) 72 (.int .i64 na :: (.slice ta tn tc) :: .int .i64 nh :: .int .i64 nl :: .bool false :: .int .i64 0 :: .bool false :: byteVals (Cf.zeros 32)).toArray) := hR
            have HR12 := Lib.hid (show RowIs w12 H 72 (.int .i64 0 :: .slice none 0 0 :: .int .i64 0 :: .int .i64 0 :: .bool false :: .int .i64 0 :: .bool false :: byteVals (Cf.zeros 32)).toArray from (hO _ (by omega)).trans HR11.out)
            have HT12 := Lib.hid (owns_stored HT11.out hO (by omega))
            have HO12 := Lib.hid (show Only [R] w w12 from HO11.out.newer (by omega) hO hs)
            have HB12 := Lib.hid (HB11.out.trans hb)
            clear hR hO hs hb HX11 HR11 HT11 HO11 HB11 HP11 HZ11
            have HZ12 : Hid (B ≤ w12.heap.size) := Nat.le_trans hBw HB12.out.size
            obtain ⟨off, c0⟩ : ∃ off, w12.cell? ⟨R, 0, none⟩ = some (.slice (some ⟨sb, off, none⟩) (ps.length - 5) (ps.length - 5)) := by
              obtain ⟨_, _, _, _, off, _, h⟩ := HP12.out
              exact ⟨off, h.cell 0⟩
            obtain ⟨m, hm⟩ : ∃ m, m = ps.length - 5 := ⟨_, rfl⟩
            rw [← hm] at c0
            have HM := Lib.hid hm
            clear hm
            by_cases hm0 : m = 0
            case neg =>
              have dm : ((m : Int) == 0) = false := by rw [beq_eq_false_iff_ne]; omega
              go_wp2_with fail
              refine (must_not _).mono ?_
              rintro e w' ⟨rfl, rfl⟩
              exact ⟨rfl, Cf.portAns_no (HTL.out.len (by have := HM.out; omega)), HO12.out, HB12.out⟩
            subst hm0
            go_wp2_with fail
            refine (must_ok _).mono ?_
            rintro e w' ⟨rfl, rfl⟩
            clear c0
            go_wp2_with (first | ((with_reducible refine at_load 72 (.tmp 3) ?_); refine wpList_load_own rfl 72 (.tmp 3) rfl (H + 1) rfl 72 _ _ HX12.out Tryz.underlying72 rfl (pc_info HPL) ?_) | ((with_reducible refine at_store 72 (.tmp 2) (.tmp 65) ?_); refine wpList_store_own rfl 72 (.tmp 2) (.tmp 65) rfl H _ rfl rfl 72 _ HR12.out (pc_info HPL) (by simp [byteVals_length, HPL, Cf.zeros]) (pc_one (by simp [Value.oneCell', tv_one HT12.out])) B (by omega) ?_))
            intro w13 hR hO hs hb
            have HP13 := Lib.hid (HP12.out.only ((Only.refl [H] w12).store (List.mem_singleton.2 rfl) hO hs) (by simp; omega) (by simp; omega))
            have HX13 := Lib.hid (show RowIs w13 (H + 1) 72 (.int .i64 na :: (.slice ta tn tc) :: .int .i64 nh :: .int .i64 nl :: .bool false :: .int .i64 0 :: .bool false :: byteVals (Cf.zeros 32)).toArray from (hO _ (by omega)).trans HX12.out)
            have HR13 : Hid (RowIs w13 H 72 (.int .i64 na :: (.slice ta tn tc) :: .int .i64 nh :: .int .i64 nl :: .bool false :: .int .i64 0 :: .bool false :: byteVals (Cf.zeros 32)).toArray) := hR
            have HT13 := Lib.hid (owns_stored HT12.out hO (by omega))
            have HO13 := Lib.hid (show Only [R] w w13 from HO12.out.newer (by omega) hO hs)
            have HB13 := Lib.hid (HB12.out.trans hb)
            clear hR hO hs hb HX12 HR12 HT12 HO12 HB12 HP12 HZ12
            have HZ13 : Hid (B ≤ w13.heap.size) := Nat.le_trans hBw HB13.out.size
            go_wp2_with fail
            exact bodyPost_ret (results_row Tryz.results40 _ _ H 72 _ _ rfl HR13.out Tryz.underlying72  rfl (pc_info HPL)) rfl ⟨Cf.portAns_yes (p := ⟨false, 0, false, (Cf.zeros 32), na, ts, nh, nl⟩) (HTL.out.good _ _ _ _ (by have := HM.out; have := HQ4.out; omega) (by rw [Cf.part_x hx1]; exact HNna.out) (by rw [Cf.part_x hx2]; exact HNts.out) (by rw [Cf.part_x hx3]; exact HNnh.out) (by rw [Cf.part_x hx4]; exact HNnl.out)) (owns_base HT13.out (by omega)) HPL, HO13.out, HB13.out⟩
  by_cases hl : x0.data.toList = Cf.wLink
  case neg =>
    have hno := Lib.hid (Cf.port_word (ps := ps) (by rw [Cf.part_x hx0]; exact ht) (by rw [Cf.part_x hx0]; exact hl))
    have dt : (x0.toList == [116, 97, 112]) = false := Cf.eqF ht
    have dl : (x0.toList == [108, 105, 110, 107]) = false := Cf.eqF hl
    clear ht hl
    go_wp2_with fail
    refine (must_not _).mono ?_
    rintro e w' ⟨rfl, rfl⟩
    exact ⟨rfl, Cf.portAns_no hno.out, HO1.out, HB1.out⟩
  have dt : (x0.toList == [116, 97, 112]) = false := Cf.eqF ht
  have dl : (x0.toList == [108, 105, 110, 107]) = true := Cf.eqT hl
  have HLW := Lib.hid (show Cf.part ps 0 = Cf.wLink by rw [Cf.part_x hx0]; exact hl)
  clear ht hl
  go_wp2_with fail
  refine (must_ok _).mono ?_
  rintro e w' ⟨rfl, rfl⟩
  go_wp2_with fail
  by_cases q1 : 1 < ps.length
  case neg =>
    refine (next_no' R sb ps 1 _ HP1.out q1).mono ?_
    rintro e w' ⟨rfl, rfl⟩
    exact ⟨rfl, Cf.portAns_no (Cf.link_len HLW.out (by omega)), HO1.out, HB1.out⟩
  have HQ1 := Lib.hid q1
  clear q1
  refine (next_okX (B := B) HP1.out HQ1.out hBR hx1).mono ?_
  rintro e w2 ⟨rfl, hP, hO, hb⟩
  have HP2 := Lib.hid hP
  have HX2 := Lib.hid (HX1.out.only hO (by simp; omega))
  have HR2 := Lib.hid (HR1.out.only hO (by simp; omega))
  have HO2 := Lib.hid (HO1.out.trans hO)
  have HB2 := Lib.hid (HB1.out.trans hb)
  clear hP hO hb HX1 HR1 HO1 HB1 HP1 HZ1
  have HZ2 : Hid (B ≤ w2.heap.size) := Nat.le_trans hBw HB2.out.size
  go_wp2_with fail
  cases hn : Cf.numOf x1.data.toList with
  | none =>
    refine (number_badC hn _).mono ?_
    rintro e w' ⟨rfl, hb⟩
    exact ⟨rfl, Cf.portAns_no (Cf.link_bad HLW.out (.inl (by rw [Cf.part_x hx1]; exact hn))), HO2.out.below hb, HB2.out.trans (hb.mono HZ2.out)⟩
  | some nr =>
    refine (number_okC hn _).mono ?_
    rintro e w3 ⟨rfl, hb⟩
    have HNnr := Lib.hid hn
    clear hn
    have HP3 := Lib.hid (HP2.out.kept hb)
    have HX3 := Lib.hid (HX2.out.kept hb)
    have HR3 := Lib.hid (HR2.out.kept hb)
    have HO3 := Lib.hid (HO2.out.below hb)
    have HB3 := Lib.hid (HB2.out.trans (hb.mono HZ2.out))
    clear hb HX2 HR2 HO2 HB2 HP2 HZ2
    have HZ3 : Hid (B ≤ w3.heap.size) := Nat.le_trans hBw HB3.out.size
    go_wp2_with ((with_reducible refine at_store 4 (.tmp 20) (.const (.bool true)) ?_); refine wpList_store_cell rfl 4 (.tmp 20) (.const (.bool true)) rfl (H + 1) 4 _ rfl rfl 72 _ HX3.out (by simp) (by kernel_rfl) rfl B (by omega) ?_)
    intro w4 hR hO hs hb
    have hR : RowIs w4 (H + 1) 72 ((.int .i64 0 :: .slice none 0 0 :: .int .i64 0 :: .int .i64 0 :: .bool true :: .int .i64 0 :: .bool false :: byteVals (Cf.zeros 32)).toArray) := by
      have e : (.int .i64 0 :: .slice none 0 0 :: .int .i64 0 :: .int .i64 0 :: .bool false :: .int .i64 0 :: .bool false :: byteVals (Cf.zeros 32)).set 4 (.bool true) = (.int .i64 0 :: .slice none 0 0 :: .int .i64 0 :: .int .i64 0 :: .bool true :: .int .i64 0 :: .bool false :: byteVals (Cf.zeros 32)) := rfl
      rw [← e]
      exact hR
    have HP4 := Lib.hid (HP3.out.only ((Only.refl [(H + 1)] w3).store (List.mem_singleton.2 rfl) hO hs) (by simp; omega) (by simp; omega))
    have HX4 : Hid (RowIs w4 (H + 1) 72 (.int .i64 0 :: .slice none 0 0 :: .int .i64 0 :: .int .i64 0 :: .bool true :: .int .i64 0 :: .bool false :: byteVals (Cf.zeros 32)).toArray) := hR
    have HR4 := Lib.hid (show RowIs w4 H 72 (.int .i64 0 :: .slice none 0 0 :: .int .i64 0 :: .int .i64 0 :: .bool false :: .int .i64 0 :: .bool false :: byteVals (Cf.zeros 32)).toArray from (hO _ (by omega)).trans HR3.out)
    have HO4 := Lib.hid (show Only [R] w w4 from HO3.out.newer (by omega) hO hs)
    have HB4 := Lib.hid (HB3.out.trans hb)
    clear hR hO hs hb HX3 HR3 HO3 HB3 HP3 HZ3
    have HZ4 : Hid (B ≤ w4.heap.size) := Nat.le_trans hBw HB4.out.size
    go_wp2_with ((with_reducible refine at_store 3 (.tmp 21) (.tmp 19) ?_); refine wpList_store_cell rfl 3 (.tmp 21) (.tmp 19) rfl (H + 1) 5 _ rfl rfl 72 _ HX4.out (by simp) (by kernel_rfl) rfl B (by omega) ?_)
    intro w5 hR hO hs hb
    have hR : RowIs w5 (H + 1) 72 ((.int .i64 0 :: .slice none 0 0 :: .int .i64 0 :: .int .i64 0 :: .bool true :: .int .i64 nr :: .bool false :: byteVals (Cf.zeros 32)).toArray) := by
      have e : (.int .i64 0 :: .slice none 0 0 :: .int .i64 0 :: .int .i64 0 :: .bool true :: .int .i64 0 :: .bool false :: byteVals (Cf.zeros 32)).set 5 (.int .i64 nr) = (.int .i64 0 :: .slice none 0 0 :: .int .i64 0 :: .int .i64 0 :: .bool true :: .int .i64 nr :: .bool false :: byteVals (Cf.zeros 32)) := rfl
      rw [← e]
      exact hR
    have HP5 := Lib.hid (HP4.out.only ((Only.refl [(H + 1)] w4).store (List.mem_singleton.2 rfl) hO hs) (by simp; omega) (by simp; omega))
    have HX5 : Hid (RowIs w5 (H + 1) 72 (.int .i64 0 :: .slice none 0 0 :: .int .i64 0 :: .int .i64 0 :: .bool true :: .int .i64 nr :: .bool false :: byteVals (Cf.zeros 32)).toArray) := hR
    have HR5 := Lib.hid (show RowIs w5 H 72 (.int .i64 0 :: .slice none 0 0 :: .int .i64 0 :: .int .i64 0 :: .bool false :: .int .i64 0 :: .bool false :: byteVals (Cf.zeros 32)).toArray from (hO _ (by omega)).trans HR4.out)
    have HO5 := Lib.hid (show Only [R] w w5 from HO4.out.newer (by omega) hO hs)
    have HB5 := Lib.hid (HB4.out.trans hb)
    clear hR hO hs hb HX4 HR4 HO4 HB4 HP4 HZ4
    have HZ5 : Hid (B ≤ w5.heap.size) := Nat.le_trans hBw HB5.out.size
    go_wp2_with fail
    by_cases q2 : 2 < ps.length
    case neg =>
      refine (next_no' R sb ps 2 _ HP5.out q2).mono ?_
      rintro e w' ⟨rfl, rfl⟩
      exact ⟨rfl, Cf.portAns_no (Cf.link_len HLW.out (by omega)), HO5.out, HB5.out⟩
    have HQ2 := Lib.hid q2
    clear q2
    refine (next_okX (B := B) HP5.out HQ2.out hBR hx2).mono ?_
    rintro e w6 ⟨rfl, hP, hO, hb⟩
    have HP6 := Lib.hid hP
    have HX6 := Lib.hid (HX5.out.only hO (by simp; omega))
    have HR6 := Lib.hid (HR5.out.only hO (by simp; omega))
    have HO6 := Lib.hid (HO5.out.trans hO)
    have HB6 := Lib.hid (HB5.out.trans hb)
    clear hP hO hb HX5 HR5 HO5 HB5 HP5 HZ5
    have HZ6 : Hid (B ≤ w6.heap.size) := Nat.le_trans hBw HB6.out.size
    by_cases hg : x2.data.toList = [103] ∨ x2.data.toList = [97]
    case neg =>
      have hno := Lib.hid (Cf.link_bad HLW.out (.inr (.inl ⟨by rw [Cf.part_x hx2]; exact fun h => hg (.inl h), by rw [Cf.part_x hx2]; exact fun h => hg (.inr h)⟩)))
      have d1 : (x2.toList == [103]) = false := Cf.eqF (fun h => hg (.inl h))
      have d2 : (x2.toList == [97]) = false := Cf.eqF (fun h => hg (.inr h))
      clear hg
      go_wp2_with fail
      refine (must_not _).mono ?_
      rintro e w' ⟨rfl, rfl⟩
      exact ⟨rfl, Cf.portAns_no hno.out, HO6.out, HB6.out⟩
    have HG := Lib.hid (show Cf.part ps 2 = [103] ∨ Cf.part ps 2 = [97] by rw [Cf.part_x hx2]; exact hg)
    have HGE := Lib.hid (show (Cf.part ps 2 == [103]) = (x2.toList == [103]) by rw [Cf.part_x hx2, Lib.toList_data])
    have dor : ((x2.toList == [103]) = true) ∨ ((x2.toList == [103]) = false ∧ (x2.toList == [97]) = true) := by
      rcases hg with h | h
      · exact .inl (Cf.eqT h)
      · exact .inr ⟨Cf.eqF (by rw [h]; decide), Cf.eqT h⟩
    clear hg
    obtain ⟨gr, hgr⟩ : ∃ gr, (x2.toList == [103]) = gr := ⟨_, rfl⟩
    rw [hgr] at HGE dor
    cases gr
    case false =>
      have d97 : (x2.toList == [97]) = true := (dor.resolve_left (by simp)).2
      clear dor
      go_wp2_with fail
      refine (must_ok _).mono ?_
      rintro e w' ⟨rfl, rfl⟩
      go_upto_region 8 with fail
      refine wp_region_any (by kernel_rfl) ?_
      try (change wpAny _ _ _ _ _ _ _ (World.drew _))
      have hdr : Below w6.heap.size w6 w6.drew := ⟨rfl, rfl, rfl, Nat.le_refl _, fun _ _ => rfl⟩
      generalize w6.drew = w7 at *
      have HP7 := Lib.hid (HP6.out.kept hdr)
      have HX7 := Lib.hid (HX6.out.kept hdr)
      have HR7 := Lib.hid (HR6.out.kept hdr)
      have HO7 := Lib.hid (HO6.out.below hdr)
      have HB7 := Lib.hid (HB6.out.trans (hdr.mono HZ6.out))
      clear hdr HX6 HR6 HO6 HB6 HP6 HZ6
      have HZ7 : Hid (B ≤ w7.heap.size) := Nat.le_trans hBw HB7.out.size
      refine wpAny_take (i := 0) (v := .string x2) rfl (by kernel_rfl) (by kernel_rfl) (by kernel_rfl) (fun _ _ _ h => h) (Or.inl ⟨by rfl, ?_⟩) ?_
      · (intro w; go_simp)
      try simp only [Act.put, List.getElem_toArray, List.getElem_cons_succ, List.getElem_cons_zero, List.setIfInBounds_toArray, List.set]
      refine wpAny_take (i := 1) (v := .bool false) rfl (by kernel_rfl) (by kernel_rfl) (by kernel_rfl) (fun _ _ _ h => h) (Or.inl ⟨by rfl, ?_⟩) ?_
      · (intro w; go_simp)
      try simp only [Act.put, List.getElem_toArray, List.getElem_cons_succ, List.getElem_cons_zero, List.setIfInBounds_toArray, List.set]
      refine wpAny_take (i := 2) (v := .pointer (some ⟨R, 0, none⟩)) rfl (by kernel_rfl) (by kernel_rfl) (by kernel_rfl) (fun _ _ _ h => h) (Or.inl ⟨by rfl, ?_⟩) ?_
      · (intro w; go_simp)
      try simp only [Act.put, List.getElem_toArray, List.getElem_cons_succ, List.getElem_cons_zero, List.setIfInBounds_toArray, List.set]
      refine wpAny_take (i := 7) (v := .pointer (some ⟨H + 1, 6, none⟩)) rfl (by kernel_rfl) (by kernel_rfl) (by kernel_rfl) (fun _ _ _ h => h) (Or.inl ⟨by rfl, ?_⟩) ?_
      · (intro w; go_simp)
      try simp only [Act.put, List.getElem_toArray, List.getElem_cons_succ, List.getElem_cons_zero, List.setIfInBounds_toArray, List.set]
      refine wpAny_ready (rs := [3]) (by kernel_rfl) (by simp) ?_
      refine AllReady.cons (by first | (simp only [List.getElem?_toArray, List.getElem?_cons_succ, List.getElem?_cons_zero]; done) | (simp only [List.getElem?_toArray, List.getElem?_cons_succ, List.getElem?_cons_zero]; rfl)) (fun K hK => ?_) AllReady.nil
      go_simp
      by_cases q3 : 3 < ps.length
      case neg =>
        refine (next_no' R sb ps 3 _ HP7.out q3).mono ?_
        rintro e w' ⟨rfl, rfl⟩
        exact ⟨rfl, Cf.portAns_no (Cf.link_len HLW.out (by omega)), HO7.out, HB7.out⟩
      have HQ3 := Lib.hid q3
      clear q3
      refine (next_okX (B := B) HP7.out HQ3.out hBR hx3).mono ?_
      rintro e w8 ⟨rfl, hP, hO, hb⟩
      have HP8 := Lib.hid hP
      have HX8 := Lib.hid (HX7.out.only hO (by simp; omega))
      have HR8 := Lib.hid (HR7.out.only hO (by simp; omega))
      have HO8 := Lib.hid (HO7.out.trans hO)
      have HB8 := Lib.hid (HB7.out.trans hb)
      clear hP hO hb HX7 HR7 HO7 HB7 HP7 HZ7
      have HZ8 : Hid (B ≤ w8.heap.size) := Nat.le_trans hBw HB8.out.size
      refine hK _ _ ?_
      clear hK K
      try simp only [Act.put, List.getElem_toArray, List.getElem_cons_succ, List.getElem_cons_zero, List.setIfInBounds_toArray, List.set]
      refine wpAny_ready (rs := [4]) (by kernel_rfl) (by simp) ?_
      refine AllReady.cons (by first | (simp only [List.getElem?_toArray, List.getElem?_cons_succ, List.getElem?_cons_zero]; done) | (simp only [List.getElem?_toArray, List.getElem?_cons_succ, List.getElem?_cons_zero]; rfl)) (fun K hK => ?_) AllReady.nil
      go_simp
      cases hn : Cf.bytesOf x3.data.toList 32 with
      | none =>
        refine (bytes_bad (n := 32) hn (by decide) _).mono ?_
        rintro e w' ⟨rfl, hb⟩
        exact ⟨rfl, Cf.portAns_no (Cf.link_bad HLW.out (.inr (.inr (by rw [Cf.part_x hx3]; exact hn)))), HO8.out.below hb, HB8.out.trans (hb.mono HZ8.out)⟩
      | some bs =>
        refine (bytes_ok (n := 32) hn (by decide) (by decide) _).mono ?_
        rintro e w9 ⟨⟨gb, cap, rfl, hgb, hcb⟩, hb⟩
        have hgn : H + 1 < gb := Nat.lt_of_lt_of_le HX8.out.lt hgb
        have HNbs := Lib.hid hn
        have HCB := Lib.hid hcb
        have HLbs := Lib.hid (Cf.bytesOf_length hn)
        clear hn hcb
        have HP9 := Lib.hid (HP8.out.kept hb)
        have HX9 := Lib.hid (HX8.out.kept hb)
        have HR9 := Lib.hid (HR8.out.kept hb)
        have HO9 := Lib.hid (HO8.out.below hb)
        have HB9 := Lib.hid (HB8.out.trans (hb.mono HZ8.out))
        clear hb HX8 HR8 HO8 HB8 HP8 HZ8
        have HZ9 : Hid (B ≤ w9.heap.size) := Nat.le_trans hBw HB9.out.size
        refine hK _ _ ?_
        clear hK K
        try simp only [Act.put, List.getElem_toArray, List.getElem_cons_succ, List.getElem_cons_zero, List.setIfInBounds_toArray, List.set]
        have HPL := HLbs.out
        refine wpAny_take (i := 5) (v := .pointer (some ⟨gb, 0, none⟩)) rfl (by kernel_rfl) (by kernel_rfl) (by kernel_rfl) (fun _ _ _ h => h) (Or.inl ⟨by rfl, ?_⟩) ?_
        · (intro w; go_simp; rw [run_arrayAt w 70 5 32 _ _ cap Tryz.underlying70 (by decide)]; rfl)
        try simp only [Act.put, List.getElem_toArray, List.getElem_cons_succ, List.getElem_cons_zero, List.setIfInBounds_toArray, List.set]
        refine wpAny_ready (rs := [6, 8]) (by kernel_rfl) (by simp) ?_
        have HTL0 := Lib.hid (Cf.tail_link (ps := ps) HLW.out (by rw [Cf.part_x hx1]; exact HNnr.out) HG.out (by rw [Cf.part_x hx3]; exact HNbs.out))
        rw [HGE.out] at HTL0
        have HTL := HTL0
        clear HTL0
        refine AllReady.cons (by first | (simp only [List.getElem?_toArray, List.getElem?_cons_succ, List.getElem?_cons_zero]; done) | (simp only [List.getElem?_toArray, List.getElem?_cons_succ, List.getElem?_cons_zero]; rfl)) (fun K hK => ?_) ?_
        case refine_1 =>
          refine step_load_cells rfl 70 5 32 (.tmp 36) rfl gb (byteVals bs) rfl HCB.out Tryz.underlying70 (by rw [byteVals_length, HPL]; kernel_rfl) ?_
          refine hK _ _ ?_
          clear hK K
          try simp only [Act.put, List.getElem_toArray, List.getElem_cons_succ, List.getElem_cons_zero, List.setIfInBounds_toArray, List.set]
          refine wpAny_ready (rs := [8]) (by kernel_rfl) (by simp) ?_
          refine AllReady.cons (by first | (simp only [List.getElem?_toArray, List.getElem?_cons_succ, List.getElem?_cons_zero]; done) | (simp only [List.getElem?_toArray, List.getElem?_cons_succ, List.getElem?_cons_zero]; rfl)) (fun K hK => ?_) AllReady.nil
          refine step_store_cell rfl 4 (.tmp 38) (.tmp 32) rfl (H + 1) 6 (.bool false) rfl rfl 72 _ HX9.out (by simp) (by kernel_rfl) rfl B (by omega) ?_
          intro w10 hR hO hs hb
          have hR : RowIs w10 (H + 1) 72 ((.int .i64 0 :: .slice none 0 0 :: .int .i64 0 :: .int .i64 0 :: .bool true :: .int .i64 nr :: .bool false :: byteVals (Cf.zeros 32)).toArray) := by
            have e : (.int .i64 0 :: .slice none 0 0 :: .int .i64 0 :: .int .i64 0 :: .bool true :: .int .i64 nr :: .bool false :: byteVals (Cf.zeros 32)).set 6 (.bool false) = (.int .i64 0 :: .slice none 0 0 :: .int .i64 0 :: .int .i64 0 :: .bool true :: .int .i64 nr :: .bool false :: byteVals (Cf.zeros 32)) := rfl
            rw [← e]
            first | exact hR | (simpa using hR)
          have HP10 := Lib.hid (HP9.out.only ((Only.refl [(H + 1)] w9).store (List.mem_singleton.2 rfl) hO hs) (by simp; omega) (by simp; omega))
          have HX10 : Hid (RowIs w10 (H + 1) 72 (.int .i64 0 :: .slice none 0 0 :: .int .i64 0 :: .int .i64 0 :: .bool true :: .int .i64 nr :: .bool false :: byteVals (Cf.zeros 32)).toArray) := hR
          have HR10 := Lib.hid (show RowIs w10 H 72 (.int .i64 0 :: .slice none 0 0 :: .int .i64 0 :: .int .i64 0 :: .bool false :: .int .i64 0 :: .bool false :: byteVals (Cf.zeros 32)).toArray from (hO _ (by omega)).trans HR9.out)
          have HO10 := Lib.hid (show Only [R] w w10 from HO9.out.newer (by omega) hO hs)
          have HB10 := Lib.hid (HB9.out.trans hb)
          clear hR hO hs hb HX9 HR9 HO9 HB9 HP9 HZ9
          have HZ10 : Hid (B ≤ w10.heap.size) := Nat.le_trans hBw HB10.out.size
          refine hK _ _ ?_
          clear hK K
          try simp only [Act.put, List.getElem_toArray, List.getElem_cons_succ, List.getElem_cons_zero, List.setIfInBounds_toArray, List.set]
          refine wpAny_take (i := 9) (v := .pointer (some ⟨H + 1, 7, none⟩)) rfl (by kernel_rfl) (by kernel_rfl) (by kernel_rfl) (fun _ _ _ h => h) (Or.inl ⟨by rfl, ?_⟩) ?_
          · (intro w; go_simp)
          try simp only [Act.put, List.getElem_toArray, List.getElem_cons_succ, List.getElem_cons_zero, List.setIfInBounds_toArray, List.set]
          refine wpAny_ready (rs := [10]) (by kernel_rfl) (by simp) ?_
          refine AllReady.cons (by first | (simp only [List.getElem?_toArray, List.getElem?_cons_succ, List.getElem?_cons_zero]; done) | (simp only [List.getElem?_toArray, List.getElem?_cons_succ, List.getElem?_cons_zero]; rfl)) (fun K hK => ?_) AllReady.nil
          refine step_store_part rfl 70 (.tmp 39) (.tmp 37) rfl (H + 1) 7 (byteVals bs).toArray rfl rfl 72 _ HX10.out (by simp [byteVals_length, HPL, Cf.zeros]) (by rw [List.size_toArray, byteVals_length, HPL]; kernel_rfl) (Cf.one_bytes bs) ((.int .i64 0 :: .slice none 0 0 :: .int .i64 0 :: .int .i64 0 :: .bool true :: .int .i64 nr :: .bool false :: byteVals bs).toArray) (congrArg List.toArray (Cf.put_seven (byteVals (Cf.zeros 32)) (byteVals bs) (by rw [byteVals_length, byteVals_length, HPL]; rfl))) B (by omega) ?_
          intro w11 hR hO hs hb
          have HP11 := Lib.hid (HP10.out.only ((Only.refl [(H + 1)] w10).store (List.mem_singleton.2 rfl) hO hs) (by simp; omega) (by simp; omega))
          have HX11 : Hid (RowIs w11 (H + 1) 72 (.int .i64 0 :: .slice none 0 0 :: .int .i64 0 :: .int .i64 0 :: .bool true :: .int .i64 nr :: .bool false :: byteVals bs).toArray) := hR
          have HR11 := Lib.hid (show RowIs w11 H 72 (.int .i64 0 :: .slice none 0 0 :: .int .i64 0 :: .int .i64 0 :: .bool false :: .int .i64 0 :: .bool false :: byteVals (Cf.zeros 32)).toArray from (hO _ (by omega)).trans HR10.out)
          have HO11 := Lib.hid (show Only [R] w w11 from HO10.out.newer (by omega) hO hs)
          have HB11 := Lib.hid (HB10.out.trans hb)
          clear hR hO hs hb HX10 HR10 HO10 HB10 HP10 HZ10
          have HZ11 : Hid (B ≤ w11.heap.size) := Nat.le_trans hBw HB11.out.size
          refine hK _ _ ?_
          clear hK K
          try simp only [Act.put, List.getElem_toArray, List.getElem_cons_succ, List.getElem_cons_zero, List.setIfInBounds_toArray, List.set]
          refine wpAny_done (by kernel_rfl) ?_ _
          go_wp2_with fail
          by_cases q4 : 4 < ps.length
          case neg =>
            refine (next_no' R sb ps 4 _ HP11.out q4).mono ?_
            rintro e w' ⟨rfl, rfl⟩
            exact ⟨rfl, Cf.portAns_no (HTL.out.len (by omega)), HO11.out, HB11.out⟩
          have HQ4 := Lib.hid q4
          clear q4
          refine (next_okX (B := B) HP11.out HQ4.out hBR hx4).mono ?_
          rintro e w12 ⟨rfl, hP, hO, hb⟩
          have HP12 := Lib.hid hP
          have HX12 := Lib.hid (HX11.out.only hO (by simp; omega))
          have HR12 := Lib.hid (HR11.out.only hO (by simp; omega))
          have HO12 := Lib.hid (HO11.out.trans hO)
          have HB12 := Lib.hid (HB11.out.trans hb)
          clear hP hO hb HX11 HR11 HO11 HB11 HP11 HZ11
          have HZ12 : Hid (B ≤ w12.heap.size) := Nat.le_trans hBw HB12.out.size
          go_wp2_with fail
          cases hn : Cf.numOf x4.data.toList with
          | none =>
            refine (number_badC hn _).mono ?_
            rintro e w' ⟨rfl, hb⟩
            exact ⟨rfl, Cf.portAns_no (HTL.out.bad (.inl (by rw [Cf.part_x hx4]; exact hn))), HO12.out.below hb, HB12.out.trans (hb.mono HZ12.out)⟩
          | some na =>
            refine (number_okC hn _).mono ?_
            rintro e w13 ⟨rfl, hb⟩
            have HNna := Lib.hid hn
            clear hn
            have HP13 := Lib.hid (HP12.out.kept hb)
            have HX13 := Lib.hid (HX12.out.kept hb)
            have HR13 := Lib.hid (HR12.out.kept hb)
            have HO13 := Lib.hid (HO12.out.below hb)
            have HB13 := Lib.hid (HB12.out.trans (hb.mono HZ12.out))
            clear hb HX12 HR12 HO12 HB12 HP12 HZ12
            have HZ13 : Hid (B ≤ w13.heap.size) := Nat.le_trans hBw HB13.out.size
            go_wp2_with fail
            by_cases q5 : 5 < ps.length
            case neg =>
              refine (next_no' R sb ps 5 _ HP13.out q5).mono ?_
              rintro e w' ⟨rfl, rfl⟩
              exact ⟨rfl, Cf.portAns_no (HTL.out.len (by omega)), HO13.out, HB13.out⟩
            have HQ5 := Lib.hid q5
            clear q5
            refine (next_okX (B := B) HP13.out HQ5.out hBR hx5).mono ?_
            rintro e w14 ⟨rfl, hP, hO, hb⟩
            have HP14 := Lib.hid hP
            have HX14 := Lib.hid (HX13.out.only hO (by simp; omega))
            have HR14 := Lib.hid (HR13.out.only hO (by simp; omega))
            have HO14 := Lib.hid (HO13.out.trans hO)
            have HB14 := Lib.hid (HB13.out.trans hb)
            clear hP hO hb HX13 HR13 HO13 HB13 HP13 HZ13
            have HZ14 : Hid (B ≤ w14.heap.size) := Nat.le_trans hBw HB14.out.size
            go_wp2_with fail
            cases hn : Cf.tagsOf x5.data.toList with
            | none =>
              refine (tags_bad hn (hszs _ x5 hx5) _).mono ?_
              rintro e w' ⟨rfl, hb⟩
              exact ⟨rfl, Cf.portAns_no (HTL.out.bad (.inr (.inl (by rw [Cf.part_x hx5]; exact hn)))), HO14.out.below hb, HB14.out.trans (hb.mono HZ14.out)⟩
            | some ts =>
              refine (tags_ok hn (hszs _ x5 hx5) (H + 2) _ (Nat.le_of_lt_succ (Nat.succ_lt_succ HX14.out.lt))).mono ?_
              rintro e w15 ⟨⟨tv, rfl, hot⟩, hb⟩
              have HNts := Lib.hid hn
              clear hn
              have HP15 := Lib.hid (HP14.out.kept hb)
              have HX15 := Lib.hid (HX14.out.kept hb)
              have HR15 := Lib.hid (HR14.out.kept hb)
              have HO15 := Lib.hid (HO14.out.below hb)
              have HB15 := Lib.hid (HB14.out.trans (hb.mono HZ14.out))
              clear hb HX14 HR14 HO14 HB14 HP14 HZ14
              have HZ15 : Hid (B ≤ w15.heap.size) := Nat.le_trans hBw HB15.out.size
              obtain ⟨ta, tn, tc, rfl⟩ := tv_form hot
              have HT15 := Lib.hid hot
              clear hot
              go_wp2_with ((with_reducible refine at_store 67 (.tmp 48) (.tmp 46) ?_); refine wpList_store_part rfl 67 (.tmp 48) (.tmp 46) rfl (H + 1) 0 #[.int .i64 na, .slice ta tn tc] rfl rfl 72 _ HX15.out (by simp) (by kernel_rfl) (by simp [Value.oneCell']) ((.int .i64 na :: (.slice ta tn tc) :: .int .i64 0 :: .int .i64 0 :: .bool true :: .int .i64 nr :: .bool false :: byteVals bs).toArray) rfl B (by omega) ?_)
              intro w16 hR hO hs hb
              have HP16 := Lib.hid (HP15.out.only ((Only.refl [(H + 1)] w15).store (List.mem_singleton.2 rfl) hO hs) (by simp; omega) (by simp; omega))
              have HX16 : Hid (RowIs w16 (H + 1) 72 (.int .i64 na :: (.slice ta tn tc) :: .int .i64 0 :: .int .i64 0 :: .bool true :: .int .i64 nr :: .bool false :: byteVals bs).toArray) := hR
              have HR16 := Lib.hid (show RowIs w16 H 72 (.int .i64 0 :: .slice none 0 0 :: .int .i64 0 :: .int .i64 0 :: .bool false :: .int .i64 0 :: .bool false :: byteVals (Cf.zeros 32)).toArray from (hO _ (by omega)).trans HR15.out)
              have HT16 := Lib.hid (owns_stored HT15.out hO (by omega))
              have HO16 := Lib.hid (show Only [R] w w16 from HO15.out.newer (by omega) hO hs)
              have HB16 := Lib.hid (HB15.out.trans hb)
              clear hR hO hs hb HX15 HR15 HT15 HO15 HB15 HP15 HZ15
              have HZ16 : Hid (B ≤ w16.heap.size) := Nat.le_trans hBw HB16.out.size
              go_wp2_with fail
              by_cases q6 : 6 < ps.length
              case neg =>
                refine (next_no' R sb ps 6 _ HP16.out q6).mono ?_
                rintro e w' ⟨rfl, rfl⟩
                exact ⟨rfl, Cf.portAns_no (HTL.out.len (by omega)), HO16.out, HB16.out⟩
              have HQ6 := Lib.hid q6
              clear q6
              refine (next_okX (B := B) HP16.out HQ6.out hBR hx6).mono ?_
              rintro e w17 ⟨rfl, hP, hO, hb⟩
              have HP17 := Lib.hid hP
              have HX17 := Lib.hid (HX16.out.only hO (by simp; omega))
              have HR17 := Lib.hid (HR16.out.only hO (by simp; omega))
              have HT17 := Lib.hid (owns_only HT16.out hO (by simp; omega))
              have HO17 := Lib.hid (HO16.out.trans hO)
              have HB17 := Lib.hid (HB16.out.trans hb)
              clear hP hO hb HX16 HR16 HT16 HO16 HB16 HP16 HZ16
              have HZ17 : Hid (B ≤ w17.heap.size) := Nat.le_trans hBw HB17.out.size
              go_wp2_with fail
              cases hn : Cf.numOf x6.data.toList with
              | none =>
                refine (number_badC hn _).mono ?_
                rintro e w' ⟨rfl, hb⟩
                exact ⟨rfl, Cf.portAns_no (HTL.out.bad (.inr (.inr (.inl (by rw [Cf.part_x hx6]; exact hn))))), HO17.out.below hb, HB17.out.trans (hb.mono HZ17.out)⟩
              | some nh =>
                refine (number_okC hn _).mono ?_
                rintro e w18 ⟨rfl, hb⟩
                have HNnh := Lib.hid hn
                clear hn
                have HP18 := Lib.hid (HP17.out.kept hb)
                have HX18 := Lib.hid (HX17.out.kept hb)
                have HR18 := Lib.hid (HR17.out.kept hb)
                have HT18 := Lib.hid (OutInts.later HT17.out hb)
                have HO18 := Lib.hid (HO17.out.below hb)
                have HB18 := Lib.hid (HB17.out.trans (hb.mono HZ17.out))
                clear hb HX17 HR17 HT17 HO17 HB17 HP17 HZ17
                have HZ18 : Hid (B ≤ w18.heap.size) := Nat.le_trans hBw HB18.out.size
                go_wp2_with fail
                by_cases q7 : 7 < ps.length
                case neg =>
                  refine (next_no' R sb ps 7 _ HP18.out q7).mono ?_
                  rintro e w' ⟨rfl, rfl⟩
                  exact ⟨rfl, Cf.portAns_no (HTL.out.len (by omega)), HO18.out, HB18.out⟩
                have HQ7 := Lib.hid q7
                clear q7
                refine (next_okX (B := B) HP18.out HQ7.out hBR hx7).mono ?_
                rintro e w19 ⟨rfl, hP, hO, hb⟩
                have HP19 := Lib.hid hP
                have HX19 := Lib.hid (HX18.out.only hO (by simp; omega))
                have HR19 := Lib.hid (HR18.out.only hO (by simp; omega))
                have HT19 := Lib.hid (owns_only HT18.out hO (by simp; omega))
                have HO19 := Lib.hid (HO18.out.trans hO)
                have HB19 := Lib.hid (HB18.out.trans hb)
                clear hP hO hb HX18 HR18 HT18 HO18 HB18 HP18 HZ18
                have HZ19 : Hid (B ≤ w19.heap.size) := Nat.le_trans hBw HB19.out.size
                go_wp2_with fail
                cases hn : Cf.numOf x7.data.toList with
                | none =>
                  refine (number_badC hn _).mono ?_
                  rintro e w' ⟨rfl, hb⟩
                  exact ⟨rfl, Cf.portAns_no (HTL.out.bad (.inr (.inr (.inr (by rw [Cf.part_x hx7]; exact hn))))), HO19.out.below hb, HB19.out.trans (hb.mono HZ19.out)⟩
                | some nl =>
                  refine (number_okC hn _).mono ?_
                  rintro e w20 ⟨rfl, hb⟩
                  have HNnl := Lib.hid hn
                  clear hn
                  have HP20 := Lib.hid (HP19.out.kept hb)
                  have HX20 := Lib.hid (HX19.out.kept hb)
                  have HR20 := Lib.hid (HR19.out.kept hb)
                  have HT20 := Lib.hid (OutInts.later HT19.out hb)
                  have HO20 := Lib.hid (HO19.out.below hb)
                  have HB20 := Lib.hid (HB19.out.trans (hb.mono HZ19.out))
                  clear hb HX19 HR19 HT19 HO19 HB19 HP19 HZ19
                  have HZ20 : Hid (B ≤ w20.heap.size) := Nat.le_trans hBw HB20.out.size
                  go_wp2_with ((with_reducible refine at_store 3 (.tmp 56) (.tmp 51) ?_); refine wpList_store_cell rfl 3 (.tmp 56) (.tmp 51) rfl (H + 1) 2 _ rfl rfl 72 _ HX20.out (by simp) (by kernel_rfl) rfl B (by omega) ?_)
                  intro w21 hR hO hs hb
                  have hR : RowIs w21 (H + 1) 72 ((.int .i64 na :: (.slice ta tn tc) :: .int .i64 nh :: .int .i64 0 :: .bool true :: .int .i64 nr :: .bool false :: byteVals bs).toArray) := by
                    have e : (.int .i64 na :: (.slice ta tn tc) :: .int .i64 0 :: .int .i64 0 :: .bool true :: .int .i64 nr :: .bool false :: byteVals bs).set 2 (.int .i64 nh) = (.int .i64 na :: (.slice ta tn tc) :: .int .i64 nh :: .int .i64 0 :: .bool true :: .int .i64 nr :: .bool false :: byteVals bs) := rfl
                    rw [← e]
                    exact hR
                  have HP21 := Lib.hid (HP20.out.only ((Only.refl [(H + 1)] w20).store (List.mem_singleton.2 rfl) hO hs) (by simp; omega) (by simp; omega))
                  have HX21 : Hid (RowIs w21 (H + 1) 72 (.int .i64 na :: (.slice ta tn tc) :: .int .i64 nh :: .int .i64 0 :: .bool true :: .int .i64 nr :: .bool false :: byteVals bs).toArray) := hR
                  have HR21 := Lib.hid (show RowIs w21 H 72 (.int .i64 0 :: .slice none 0 0 :: .int .i64 0 :: .int .i64 0 :: .bool false :: .int .i64 0 :: .bool false :: byteVals (Cf.zeros 32)).toArray from (hO _ (by omega)).trans HR20.out)
                  have HT21 := Lib.hid (owns_stored HT20.out hO (by omega))
                  have HO21 := Lib.hid (show Only [R] w w21 from HO20.out.newer (by omega) hO hs)
                  have HB21 := Lib.hid (HB20.out.trans hb)
                  clear hR hO hs hb HX20 HR20 HT20 HO20 HB20 HP20 HZ20
                  have HZ21 : Hid (B ≤ w21.heap.size) := Nat.le_trans hBw HB21.out.size
                  go_wp2_with ((with_reducible refine at_store 3 (.tmp 58) (.tmp 54) ?_); refine wpList_store_cell rfl 3 (.tmp 58) (.tmp 54) rfl (H + 1) 3 _ rfl rfl 72 _ HX21.out (by simp) (by kernel_rfl) rfl B (by omega) ?_)
                  intro w22 hR hO hs hb
                  have hR : RowIs w22 (H + 1) 72 ((.int .i64 na :: (.slice ta tn tc) :: .int .i64 nh :: .int .i64 nl :: .bool true :: .int .i64 nr :: .bool false :: byteVals bs).toArray) := by
                    have e : (.int .i64 na :: (.slice ta tn tc) :: .int .i64 nh :: .int .i64 0 :: .bool true :: .int .i64 nr :: .bool false :: byteVals bs).set 3 (.int .i64 nl) = (.int .i64 na :: (.slice ta tn tc) :: .int .i64 nh :: .int .i64 nl :: .bool true :: .int .i64 nr :: .bool false :: byteVals bs) := rfl
                    rw [← e]
                    exact hR
                  have HP22 := Lib.hid (HP21.out.only ((Only.refl [(H + 1)] w21).store (List.mem_singleton.2 rfl) hO hs) (by simp; omega) (by simp; omega))
                  have HX22 : Hid (RowIs w22 (H + 1) 72 (.int .i64 na :: (.slice ta tn tc) :: .int .i64 nh :: .int .i64 nl :: .bool true :: .int .i64 nr :: .bool false :: byteVals bs).toArray) := hR
                  have HR22 := Lib.hid (show RowIs w22 H 72 (.int .i64 0 :: .slice none 0 0 :: .int .i64 0 :: .int .i64 0 :: .bool false :: .int .i64 0 :: .bool false :: byteVals (Cf.zeros 32)).toArray from (hO _ (by omega)).trans HR21.out)
                  have HT22 := Lib.hid (owns_stored HT21.out hO (by omega))
                  have HO22 := Lib.hid (show Only [R] w w22 from HO21.out.newer (by omega) hO hs)
                  have HB22 := Lib.hid (HB21.out.trans hb)
                  clear hR hO hs hb HX21 HR21 HT21 HO21 HB21 HP21 HZ21
                  have HZ22 : Hid (B ≤ w22.heap.size) := Nat.le_trans hBw HB22.out.size
                  obtain ⟨off, c0⟩ : ∃ off, w22.cell? ⟨R, 0, none⟩ = some (.slice (some ⟨sb, off, none⟩) (ps.length - 8) (ps.length - 8)) := by
                    obtain ⟨_, _, _, _, off, _, h⟩ := HP22.out
                    exact ⟨off, h.cell 0⟩
                  obtain ⟨m, hm⟩ : ∃ m, m = ps.length - 8 := ⟨_, rfl⟩
                  rw [← hm] at c0
                  have HM := Lib.hid hm
                  clear hm
                  by_cases hm0 : m = 0
                  case neg =>
                    have dm : ((m : Int) == 0) = false := by rw [beq_eq_false_iff_ne]; omega
                    go_wp2_with fail
                    refine (must_not _).mono ?_
                    rintro e w' ⟨rfl, rfl⟩
                    exact ⟨rfl, Cf.portAns_no (HTL.out.len (by have := HM.out; omega)), HO22.out, HB22.out⟩
                  subst hm0
                  go_wp2_with fail
                  refine (must_ok _).mono ?_
                  rintro e w' ⟨rfl, rfl⟩
                  clear c0
                  go_wp2_with (first | ((with_reducible refine at_load 72 (.tmp 3) ?_); refine wpList_load_own rfl 72 (.tmp 3) rfl (H + 1) rfl 72 _ _ HX22.out Tryz.underlying72 rfl (pc_info HPL) ?_) | ((with_reducible refine at_store 72 (.tmp 2) (.tmp 65) ?_); refine wpList_store_own rfl 72 (.tmp 2) (.tmp 65) rfl H _ rfl rfl 72 _ HR22.out (pc_info HPL) (by simp [byteVals_length, HPL, Cf.zeros]) (pc_one (by simp [Value.oneCell', tv_one HT22.out])) B (by omega) ?_))
                  intro w23 hR hO hs hb
                  have HP23 := Lib.hid (HP22.out.only ((Only.refl [H] w22).store (List.mem_singleton.2 rfl) hO hs) (by simp; omega) (by simp; omega))
                  have HX23 := Lib.hid (show RowIs w23 (H + 1) 72 (.int .i64 na :: (.slice ta tn tc) :: .int .i64 nh :: .int .i64 nl :: .bool true :: .int .i64 nr :: .bool false :: byteVals bs).toArray from (hO _ (by omega)).trans HX22.out)
                  have HR23 : Hid (RowIs w23 H 72 (.int .i64 na :: (.slice ta tn tc) :: .int .i64 nh :: .int .i64 nl :: .bool true :: .int .i64 nr :: .bool false :: byteVals bs).toArray) := hR
                  have HT23 := Lib.hid (owns_stored HT22.out hO (by omega))
                  have HO23 := Lib.hid (show Only [R] w w23 from HO22.out.newer (by omega) hO hs)
                  have HB23 := Lib.hid (HB22.out.trans hb)
                  clear hR hO hs hb HX22 HR22 HT22 HO22 HB22 HP22 HZ22
                  have HZ23 : Hid (B ≤ w23.heap.size) := Nat.le_trans hBw HB23.out.size
                  go_wp2_with fail
                  exact bodyPost_ret (results_row Tryz.results40 _ _ H 72 _ _ rfl HR23.out Tryz.underlying72  rfl (pc_info HPL)) rfl ⟨Cf.portAns_yes (p := ⟨true, nr, false, bs, na, ts, nh, nl⟩) (HTL.out.good _ _ _ _ (by have := HM.out; have := HQ7.out; omega) (by rw [Cf.part_x hx4]; exact HNna.out) (by rw [Cf.part_x hx5]; exact HNts.out) (by rw [Cf.part_x hx6]; exact HNnh.out) (by rw [Cf.part_x hx7]; exact HNnl.out)) (owns_base HT23.out (by omega)) HPL, HO23.out, HB23.out⟩
        refine AllReady.cons (by first | (simp only [List.getElem?_toArray, List.getElem?_cons_succ, List.getElem?_cons_zero]; done) | (simp only [List.getElem?_toArray, List.getElem?_cons_succ, List.getElem?_cons_zero]; rfl)) (fun K hK => ?_) AllReady.nil
        refine step_store_cell rfl 4 (.tmp 38) (.tmp 32) rfl (H + 1) 6 (.bool false) rfl rfl 72 _ HX9.out (by simp) (by kernel_rfl) rfl B (by omega) ?_
        intro w10 hR hO hs hb
        have hR : RowIs w10 (H + 1) 72 ((.int .i64 0 :: .slice none 0 0 :: .int .i64 0 :: .int .i64 0 :: .bool true :: .int .i64 nr :: .bool false :: byteVals (Cf.zeros 32)).toArray) := by
          have e : (.int .i64 0 :: .slice none 0 0 :: .int .i64 0 :: .int .i64 0 :: .bool true :: .int .i64 nr :: .bool false :: byteVals (Cf.zeros 32)).set 6 (.bool false) = (.int .i64 0 :: .slice none 0 0 :: .int .i64 0 :: .int .i64 0 :: .bool true :: .int .i64 nr :: .bool false :: byteVals (Cf.zeros 32)) := rfl
          rw [← e]
          first | exact hR | (simpa using hR)
        have hcb2 := HCB.out.stored hO hs hgn
        clear HCB
        have HCB := Lib.hid hcb2
        have HP10 := Lib.hid (HP9.out.only ((Only.refl [(H + 1)] w9).store (List.mem_singleton.2 rfl) hO hs) (by simp; omega) (by simp; omega))
        have HX10 : Hid (RowIs w10 (H + 1) 72 (.int .i64 0 :: .slice none 0 0 :: .int .i64 0 :: .int .i64 0 :: .bool true :: .int .i64 nr :: .bool false :: byteVals (Cf.zeros 32)).toArray) := hR
        have HR10 := Lib.hid (show RowIs w10 H 72 (.int .i64 0 :: .slice none 0 0 :: .int .i64 0 :: .int .i64 0 :: .bool false :: .int .i64 0 :: .bool false :: byteVals (Cf.zeros 32)).toArray from (hO _ (by omega)).trans HR9.out)
        have HO10 := Lib.hid (show Only [R] w w10 from HO9.out.newer (by omega) hO hs)
        have HB10 := Lib.hid (HB9.out.trans hb)
        clear hR hO hs hb HX9 HR9 HO9 HB9 HP9 HZ9
        have HZ10 : Hid (B ≤ w10.heap.size) := Nat.le_trans hBw HB10.out.size
        refine hK _ _ ?_
        clear hK K
        try simp only [Act.put, List.getElem_toArray, List.getElem_cons_succ, List.getElem_cons_zero, List.setIfInBounds_toArray, List.set]
        refine wpAny_ready (rs := [6]) (by kernel_rfl) (by simp) ?_
        refine AllReady.cons (by first | (simp only [List.getElem?_toArray, List.getElem?_cons_succ, List.getElem?_cons_zero]; done) | (simp only [List.getElem?_toArray, List.getElem?_cons_succ, List.getElem?_cons_zero]; rfl)) (fun K hK => ?_) AllReady.nil
        refine step_load_cells rfl 70 5 32 (.tmp 36) rfl gb (byteVals bs) rfl HCB.out Tryz.underlying70 (by rw [byteVals_length, HPL]; kernel_rfl) ?_
        refine hK _ _ ?_
        clear hK K
        try simp only [Act.put, List.getElem_toArray, List.getElem_cons_succ, List.getElem_cons_zero, List.setIfInBounds_toArray, List.set]
        refine wpAny_take (i := 9) (v := .pointer (some ⟨H + 1, 7, none⟩)) rfl (by kernel_rfl) (by kernel_rfl) (by kernel_rfl) (fun _ _ _ h => h) (Or.inl ⟨by rfl, ?_⟩) ?_
        · (intro w; go_simp)
        try simp only [Act.put, List.getElem_toArray, List.getElem_cons_succ, List.getElem_cons_zero, List.setIfInBounds_toArray, List.set]
        refine wpAny_ready (rs := [10]) (by kernel_rfl) (by simp) ?_
        refine AllReady.cons (by first | (simp only [List.getElem?_toArray, List.getElem?_cons_succ, List.getElem?_cons_zero]; done) | (simp only [List.getElem?_toArray, List.getElem?_cons_succ, List.getElem?_cons_zero]; rfl)) (fun K hK => ?_) AllReady.nil
        refine step_store_part rfl 70 (.tmp 39) (.tmp 37) rfl (H + 1) 7 (byteVals bs).toArray rfl rfl 72 _ HX10.out (by simp [byteVals_length, HPL, Cf.zeros]) (by rw [List.size_toArray, byteVals_length, HPL]; kernel_rfl) (Cf.one_bytes bs) ((.int .i64 0 :: .slice none 0 0 :: .int .i64 0 :: .int .i64 0 :: .bool true :: .int .i64 nr :: .bool false :: byteVals bs).toArray) (congrArg List.toArray (Cf.put_seven (byteVals (Cf.zeros 32)) (byteVals bs) (by rw [byteVals_length, byteVals_length, HPL]; rfl))) B (by omega) ?_
        intro w11 hR hO hs hb
        have HP11 := Lib.hid (HP10.out.only ((Only.refl [(H + 1)] w10).store (List.mem_singleton.2 rfl) hO hs) (by simp; omega) (by simp; omega))
        have HX11 : Hid (RowIs w11 (H + 1) 72 (.int .i64 0 :: .slice none 0 0 :: .int .i64 0 :: .int .i64 0 :: .bool true :: .int .i64 nr :: .bool false :: byteVals bs).toArray) := hR
        have HR11 := Lib.hid (show RowIs w11 H 72 (.int .i64 0 :: .slice none 0 0 :: .int .i64 0 :: .int .i64 0 :: .bool false :: .int .i64 0 :: .bool false :: byteVals (Cf.zeros 32)).toArray from (hO _ (by omega)).trans HR10.out)
        have HO11 := Lib.hid (show Only [R] w w11 from HO10.out.newer (by omega) hO hs)
        have HB11 := Lib.hid (HB10.out.trans hb)
        clear hR hO hs hb HX10 HR10 HO10 HB10 HP10 HZ10
        have HZ11 : Hid (B ≤ w11.heap.size) := Nat.le_trans hBw HB11.out.size
        refine hK _ _ ?_
        clear hK K
        try simp only [Act.put, List.getElem_toArray, List.getElem_cons_succ, List.getElem_cons_zero, List.setIfInBounds_toArray, List.set]
        refine wpAny_done (by kernel_rfl) ?_ _
        go_wp2_with fail
        by_cases q4 : 4 < ps.length
        case neg =>
          refine (next_no' R sb ps 4 _ HP11.out q4).mono ?_
          rintro e w' ⟨rfl, rfl⟩
          exact ⟨rfl, Cf.portAns_no (HTL.out.len (by omega)), HO11.out, HB11.out⟩
        have HQ4 := Lib.hid q4
        clear q4
        refine (next_okX (B := B) HP11.out HQ4.out hBR hx4).mono ?_
        rintro e w12 ⟨rfl, hP, hO, hb⟩
        have HP12 := Lib.hid hP
        have HX12 := Lib.hid (HX11.out.only hO (by simp; omega))
        have HR12 := Lib.hid (HR11.out.only hO (by simp; omega))
        have HO12 := Lib.hid (HO11.out.trans hO)
        have HB12 := Lib.hid (HB11.out.trans hb)
        clear hP hO hb HX11 HR11 HO11 HB11 HP11 HZ11
        have HZ12 : Hid (B ≤ w12.heap.size) := Nat.le_trans hBw HB12.out.size
        go_wp2_with fail
        cases hn : Cf.numOf x4.data.toList with
        | none =>
          refine (number_badC hn _).mono ?_
          rintro e w' ⟨rfl, hb⟩
          exact ⟨rfl, Cf.portAns_no (HTL.out.bad (.inl (by rw [Cf.part_x hx4]; exact hn))), HO12.out.below hb, HB12.out.trans (hb.mono HZ12.out)⟩
        | some na =>
          refine (number_okC hn _).mono ?_
          rintro e w13 ⟨rfl, hb⟩
          have HNna := Lib.hid hn
          clear hn
          have HP13 := Lib.hid (HP12.out.kept hb)
          have HX13 := Lib.hid (HX12.out.kept hb)
          have HR13 := Lib.hid (HR12.out.kept hb)
          have HO13 := Lib.hid (HO12.out.below hb)
          have HB13 := Lib.hid (HB12.out.trans (hb.mono HZ12.out))
          clear hb HX12 HR12 HO12 HB12 HP12 HZ12
          have HZ13 : Hid (B ≤ w13.heap.size) := Nat.le_trans hBw HB13.out.size
          go_wp2_with fail
          by_cases q5 : 5 < ps.length
          case neg =>
            refine (next_no' R sb ps 5 _ HP13.out q5).mono ?_
            rintro e w' ⟨rfl, rfl⟩
            exact ⟨rfl, Cf.portAns_no (HTL.out.len (by omega)), HO13.out, HB13.out⟩
          have HQ5 := Lib.hid q5
          clear q5
          refine (next_okX (B := B) HP13.out HQ5.out hBR hx5).mono ?_
          rintro e w14 ⟨rfl, hP, hO, hb⟩
          have HP14 := Lib.hid hP
          have HX14 := Lib.hid (HX13.out.only hO (by simp; omega))
          have HR14 := Lib.hid (HR13.out.only hO (by simp; omega))
          have HO14 := Lib.hid (HO13.out.trans hO)
          have HB14 := Lib.hid (HB13.out.trans hb)
          clear hP hO hb HX13 HR13 HO13 HB13 HP13 HZ13
          have HZ14 : Hid (B ≤ w14.heap.size) := Nat.le_trans hBw HB14.out.size
          go_wp2_with fail
          cases hn : Cf.tagsOf x5.data.toList with
          | none =>
            refine (tags_bad hn (hszs _ x5 hx5) _).mono ?_
            rintro e w' ⟨rfl, hb⟩
            exact ⟨rfl, Cf.portAns_no (HTL.out.bad (.inr (.inl (by rw [Cf.part_x hx5]; exact hn)))), HO14.out.below hb, HB14.out.trans (hb.mono HZ14.out)⟩
          | some ts =>
            refine (tags_ok hn (hszs _ x5 hx5) (H + 2) _ (Nat.le_of_lt_succ (Nat.succ_lt_succ HX14.out.lt))).mono ?_
            rintro e w15 ⟨⟨tv, rfl, hot⟩, hb⟩
            have HNts := Lib.hid hn
            clear hn
            have HP15 := Lib.hid (HP14.out.kept hb)
            have HX15 := Lib.hid (HX14.out.kept hb)
            have HR15 := Lib.hid (HR14.out.kept hb)
            have HO15 := Lib.hid (HO14.out.below hb)
            have HB15 := Lib.hid (HB14.out.trans (hb.mono HZ14.out))
            clear hb HX14 HR14 HO14 HB14 HP14 HZ14
            have HZ15 : Hid (B ≤ w15.heap.size) := Nat.le_trans hBw HB15.out.size
            obtain ⟨ta, tn, tc, rfl⟩ := tv_form hot
            have HT15 := Lib.hid hot
            clear hot
            go_wp2_with ((with_reducible refine at_store 67 (.tmp 48) (.tmp 46) ?_); refine wpList_store_part rfl 67 (.tmp 48) (.tmp 46) rfl (H + 1) 0 #[.int .i64 na, .slice ta tn tc] rfl rfl 72 _ HX15.out (by simp) (by kernel_rfl) (by simp [Value.oneCell']) ((.int .i64 na :: (.slice ta tn tc) :: .int .i64 0 :: .int .i64 0 :: .bool true :: .int .i64 nr :: .bool false :: byteVals bs).toArray) rfl B (by omega) ?_)
            intro w16 hR hO hs hb
            have HP16 := Lib.hid (HP15.out.only ((Only.refl [(H + 1)] w15).store (List.mem_singleton.2 rfl) hO hs) (by simp; omega) (by simp; omega))
            have HX16 : Hid (RowIs w16 (H + 1) 72 (.int .i64 na :: (.slice ta tn tc) :: .int .i64 0 :: .int .i64 0 :: .bool true :: .int .i64 nr :: .bool false :: byteVals bs).toArray) := hR
            have HR16 := Lib.hid (show RowIs w16 H 72 (.int .i64 0 :: .slice none 0 0 :: .int .i64 0 :: .int .i64 0 :: .bool false :: .int .i64 0 :: .bool false :: byteVals (Cf.zeros 32)).toArray from (hO _ (by omega)).trans HR15.out)
            have HT16 := Lib.hid (owns_stored HT15.out hO (by omega))
            have HO16 := Lib.hid (show Only [R] w w16 from HO15.out.newer (by omega) hO hs)
            have HB16 := Lib.hid (HB15.out.trans hb)
            clear hR hO hs hb HX15 HR15 HT15 HO15 HB15 HP15 HZ15
            have HZ16 : Hid (B ≤ w16.heap.size) := Nat.le_trans hBw HB16.out.size
            go_wp2_with fail
            by_cases q6 : 6 < ps.length
            case neg =>
              refine (next_no' R sb ps 6 _ HP16.out q6).mono ?_
              rintro e w' ⟨rfl, rfl⟩
              exact ⟨rfl, Cf.portAns_no (HTL.out.len (by omega)), HO16.out, HB16.out⟩
            have HQ6 := Lib.hid q6
            clear q6
            refine (next_okX (B := B) HP16.out HQ6.out hBR hx6).mono ?_
            rintro e w17 ⟨rfl, hP, hO, hb⟩
            have HP17 := Lib.hid hP
            have HX17 := Lib.hid (HX16.out.only hO (by simp; omega))
            have HR17 := Lib.hid (HR16.out.only hO (by simp; omega))
            have HT17 := Lib.hid (owns_only HT16.out hO (by simp; omega))
            have HO17 := Lib.hid (HO16.out.trans hO)
            have HB17 := Lib.hid (HB16.out.trans hb)
            clear hP hO hb HX16 HR16 HT16 HO16 HB16 HP16 HZ16
            have HZ17 : Hid (B ≤ w17.heap.size) := Nat.le_trans hBw HB17.out.size
            go_wp2_with fail
            cases hn : Cf.numOf x6.data.toList with
            | none =>
              refine (number_badC hn _).mono ?_
              rintro e w' ⟨rfl, hb⟩
              exact ⟨rfl, Cf.portAns_no (HTL.out.bad (.inr (.inr (.inl (by rw [Cf.part_x hx6]; exact hn))))), HO17.out.below hb, HB17.out.trans (hb.mono HZ17.out)⟩
            | some nh =>
              refine (number_okC hn _).mono ?_
              rintro e w18 ⟨rfl, hb⟩
              have HNnh := Lib.hid hn
              clear hn
              have HP18 := Lib.hid (HP17.out.kept hb)
              have HX18 := Lib.hid (HX17.out.kept hb)
              have HR18 := Lib.hid (HR17.out.kept hb)
              have HT18 := Lib.hid (OutInts.later HT17.out hb)
              have HO18 := Lib.hid (HO17.out.below hb)
              have HB18 := Lib.hid (HB17.out.trans (hb.mono HZ17.out))
              clear hb HX17 HR17 HT17 HO17 HB17 HP17 HZ17
              have HZ18 : Hid (B ≤ w18.heap.size) := Nat.le_trans hBw HB18.out.size
              go_wp2_with fail
              by_cases q7 : 7 < ps.length
              case neg =>
                refine (next_no' R sb ps 7 _ HP18.out q7).mono ?_
                rintro e w' ⟨rfl, rfl⟩
                exact ⟨rfl, Cf.portAns_no (HTL.out.len (by omega)), HO18.out, HB18.out⟩
              have HQ7 := Lib.hid q7
              clear q7
              refine (next_okX (B := B) HP18.out HQ7.out hBR hx7).mono ?_
              rintro e w19 ⟨rfl, hP, hO, hb⟩
              have HP19 := Lib.hid hP
              have HX19 := Lib.hid (HX18.out.only hO (by simp; omega))
              have HR19 := Lib.hid (HR18.out.only hO (by simp; omega))
              have HT19 := Lib.hid (owns_only HT18.out hO (by simp; omega))
              have HO19 := Lib.hid (HO18.out.trans hO)
              have HB19 := Lib.hid (HB18.out.trans hb)
              clear hP hO hb HX18 HR18 HT18 HO18 HB18 HP18 HZ18
              have HZ19 : Hid (B ≤ w19.heap.size) := Nat.le_trans hBw HB19.out.size
              go_wp2_with fail
              cases hn : Cf.numOf x7.data.toList with
              | none =>
                refine (number_badC hn _).mono ?_
                rintro e w' ⟨rfl, hb⟩
                exact ⟨rfl, Cf.portAns_no (HTL.out.bad (.inr (.inr (.inr (by rw [Cf.part_x hx7]; exact hn))))), HO19.out.below hb, HB19.out.trans (hb.mono HZ19.out)⟩
              | some nl =>
                refine (number_okC hn _).mono ?_
                rintro e w20 ⟨rfl, hb⟩
                have HNnl := Lib.hid hn
                clear hn
                have HP20 := Lib.hid (HP19.out.kept hb)
                have HX20 := Lib.hid (HX19.out.kept hb)
                have HR20 := Lib.hid (HR19.out.kept hb)
                have HT20 := Lib.hid (OutInts.later HT19.out hb)
                have HO20 := Lib.hid (HO19.out.below hb)
                have HB20 := Lib.hid (HB19.out.trans (hb.mono HZ19.out))
                clear hb HX19 HR19 HT19 HO19 HB19 HP19 HZ19
                have HZ20 : Hid (B ≤ w20.heap.size) := Nat.le_trans hBw HB20.out.size
                go_wp2_with ((with_reducible refine at_store 3 (.tmp 56) (.tmp 51) ?_); refine wpList_store_cell rfl 3 (.tmp 56) (.tmp 51) rfl (H + 1) 2 _ rfl rfl 72 _ HX20.out (by simp) (by kernel_rfl) rfl B (by omega) ?_)
                intro w21 hR hO hs hb
                have hR : RowIs w21 (H + 1) 72 ((.int .i64 na :: (.slice ta tn tc) :: .int .i64 nh :: .int .i64 0 :: .bool true :: .int .i64 nr :: .bool false :: byteVals bs).toArray) := by
                  have e : (.int .i64 na :: (.slice ta tn tc) :: .int .i64 0 :: .int .i64 0 :: .bool true :: .int .i64 nr :: .bool false :: byteVals bs).set 2 (.int .i64 nh) = (.int .i64 na :: (.slice ta tn tc) :: .int .i64 nh :: .int .i64 0 :: .bool true :: .int .i64 nr :: .bool false :: byteVals bs) := rfl
                  rw [← e]
                  exact hR
                have HP21 := Lib.hid (HP20.out.only ((Only.refl [(H + 1)] w20).store (List.mem_singleton.2 rfl) hO hs) (by simp; omega) (by simp; omega))
                have HX21 : Hid (RowIs w21 (H + 1) 72 (.int .i64 na :: (.slice ta tn tc) :: .int .i64 nh :: .int .i64 0 :: .bool true :: .int .i64 nr :: .bool false :: byteVals bs).toArray) := hR
                have HR21 := Lib.hid (show RowIs w21 H 72 (.int .i64 0 :: .slice none 0 0 :: .int .i64 0 :: .int .i64 0 :: .bool false :: .int .i64 0 :: .bool false :: byteVals (Cf.zeros 32)).toArray from (hO _ (by omega)).trans HR20.out)
                have HT21 := Lib.hid (owns_stored HT20.out hO (by omega))
                have HO21 := Lib.hid (show Only [R] w w21 from HO20.out.newer (by omega) hO hs)
                have HB21 := Lib.hid (HB20.out.trans hb)
                clear hR hO hs hb HX20 HR20 HT20 HO20 HB20 HP20 HZ20
                have HZ21 : Hid (B ≤ w21.heap.size) := Nat.le_trans hBw HB21.out.size
                go_wp2_with ((with_reducible refine at_store 3 (.tmp 58) (.tmp 54) ?_); refine wpList_store_cell rfl 3 (.tmp 58) (.tmp 54) rfl (H + 1) 3 _ rfl rfl 72 _ HX21.out (by simp) (by kernel_rfl) rfl B (by omega) ?_)
                intro w22 hR hO hs hb
                have hR : RowIs w22 (H + 1) 72 ((.int .i64 na :: (.slice ta tn tc) :: .int .i64 nh :: .int .i64 nl :: .bool true :: .int .i64 nr :: .bool false :: byteVals bs).toArray) := by
                  have e : (.int .i64 na :: (.slice ta tn tc) :: .int .i64 nh :: .int .i64 0 :: .bool true :: .int .i64 nr :: .bool false :: byteVals bs).set 3 (.int .i64 nl) = (.int .i64 na :: (.slice ta tn tc) :: .int .i64 nh :: .int .i64 nl :: .bool true :: .int .i64 nr :: .bool false :: byteVals bs) := rfl
                  rw [← e]
                  exact hR
                have HP22 := Lib.hid (HP21.out.only ((Only.refl [(H + 1)] w21).store (List.mem_singleton.2 rfl) hO hs) (by simp; omega) (by simp; omega))
                have HX22 : Hid (RowIs w22 (H + 1) 72 (.int .i64 na :: (.slice ta tn tc) :: .int .i64 nh :: .int .i64 nl :: .bool true :: .int .i64 nr :: .bool false :: byteVals bs).toArray) := hR
                have HR22 := Lib.hid (show RowIs w22 H 72 (.int .i64 0 :: .slice none 0 0 :: .int .i64 0 :: .int .i64 0 :: .bool false :: .int .i64 0 :: .bool false :: byteVals (Cf.zeros 32)).toArray from (hO _ (by omega)).trans HR21.out)
                have HT22 := Lib.hid (owns_stored HT21.out hO (by omega))
                have HO22 := Lib.hid (show Only [R] w w22 from HO21.out.newer (by omega) hO hs)
                have HB22 := Lib.hid (HB21.out.trans hb)
                clear hR hO hs hb HX21 HR21 HT21 HO21 HB21 HP21 HZ21
                have HZ22 : Hid (B ≤ w22.heap.size) := Nat.le_trans hBw HB22.out.size
                obtain ⟨off, c0⟩ : ∃ off, w22.cell? ⟨R, 0, none⟩ = some (.slice (some ⟨sb, off, none⟩) (ps.length - 8) (ps.length - 8)) := by
                  obtain ⟨_, _, _, _, off, _, h⟩ := HP22.out
                  exact ⟨off, h.cell 0⟩
                obtain ⟨m, hm⟩ : ∃ m, m = ps.length - 8 := ⟨_, rfl⟩
                rw [← hm] at c0
                have HM := Lib.hid hm
                clear hm
                by_cases hm0 : m = 0
                case neg =>
                  have dm : ((m : Int) == 0) = false := by rw [beq_eq_false_iff_ne]; omega
                  go_wp2_with fail
                  refine (must_not _).mono ?_
                  rintro e w' ⟨rfl, rfl⟩
                  exact ⟨rfl, Cf.portAns_no (HTL.out.len (by have := HM.out; omega)), HO22.out, HB22.out⟩
                subst hm0
                go_wp2_with fail
                refine (must_ok _).mono ?_
                rintro e w' ⟨rfl, rfl⟩
                clear c0
                go_wp2_with (first | ((with_reducible refine at_load 72 (.tmp 3) ?_); refine wpList_load_own rfl 72 (.tmp 3) rfl (H + 1) rfl 72 _ _ HX22.out Tryz.underlying72 rfl (pc_info HPL) ?_) | ((with_reducible refine at_store 72 (.tmp 2) (.tmp 65) ?_); refine wpList_store_own rfl 72 (.tmp 2) (.tmp 65) rfl H _ rfl rfl 72 _ HR22.out (pc_info HPL) (by simp [byteVals_length, HPL, Cf.zeros]) (pc_one (by simp [Value.oneCell', tv_one HT22.out])) B (by omega) ?_))
                intro w23 hR hO hs hb
                have HP23 := Lib.hid (HP22.out.only ((Only.refl [H] w22).store (List.mem_singleton.2 rfl) hO hs) (by simp; omega) (by simp; omega))
                have HX23 := Lib.hid (show RowIs w23 (H + 1) 72 (.int .i64 na :: (.slice ta tn tc) :: .int .i64 nh :: .int .i64 nl :: .bool true :: .int .i64 nr :: .bool false :: byteVals bs).toArray from (hO _ (by omega)).trans HX22.out)
                have HR23 : Hid (RowIs w23 H 72 (.int .i64 na :: (.slice ta tn tc) :: .int .i64 nh :: .int .i64 nl :: .bool true :: .int .i64 nr :: .bool false :: byteVals bs).toArray) := hR
                have HT23 := Lib.hid (owns_stored HT22.out hO (by omega))
                have HO23 := Lib.hid (show Only [R] w w23 from HO22.out.newer (by omega) hO hs)
                have HB23 := Lib.hid (HB22.out.trans hb)
                clear hR hO hs hb HX22 HR22 HT22 HO22 HB22 HP22 HZ22
                have HZ23 : Hid (B ≤ w23.heap.size) := Nat.le_trans hBw HB23.out.size
                go_wp2_with fail
                exact bodyPost_ret (results_row Tryz.results40 _ _ H 72 _ _ rfl HR23.out Tryz.underlying72  rfl (pc_info HPL)) rfl ⟨Cf.portAns_yes (p := ⟨true, nr, false, bs, na, ts, nh, nl⟩) (HTL.out.good _ _ _ _ (by have := HM.out; have := HQ7.out; omega) (by rw [Cf.part_x hx4]; exact HNna.out) (by rw [Cf.part_x hx5]; exact HNts.out) (by rw [Cf.part_x hx6]; exact HNnh.out) (by rw [Cf.part_x hx7]; exact HNnl.out)) (owns_base HT23.out (by omega)) HPL, HO23.out, HB23.out⟩
    case true =>
      clear dor
      go_wp2_with fail
      refine (must_ok _).mono ?_
      rintro e w' ⟨rfl, rfl⟩
      go_upto_region 8 with fail
      refine wp_region_any (by kernel_rfl) ?_
      try (change wpAny _ _ _ _ _ _ _ (World.drew _))
      have hdr : Below w6.heap.size w6 w6.drew := ⟨rfl, rfl, rfl, Nat.le_refl _, fun _ _ => rfl⟩
      generalize w6.drew = w7 at *
      have HP7 := Lib.hid (HP6.out.kept hdr)
      have HX7 := Lib.hid (HX6.out.kept hdr)
      have HR7 := Lib.hid (HR6.out.kept hdr)
      have HO7 := Lib.hid (HO6.out.below hdr)
      have HB7 := Lib.hid (HB6.out.trans (hdr.mono HZ6.out))
      clear hdr HX6 HR6 HO6 HB6 HP6 HZ6
      have HZ7 : Hid (B ≤ w7.heap.size) := Nat.le_trans hBw HB7.out.size
      refine wpAny_take (i := 0) (v := .string x2) rfl (by kernel_rfl) (by kernel_rfl) (by kernel_rfl) (fun _ _ _ h => h) (Or.inl ⟨by rfl, ?_⟩) ?_
      · (intro w; go_simp)
      try simp only [Act.put, List.getElem_toArray, List.getElem_cons_succ, List.getElem_cons_zero, List.setIfInBounds_toArray, List.set]
      refine wpAny_take (i := 1) (v := .bool true) rfl (by kernel_rfl) (by kernel_rfl) (by kernel_rfl) (fun _ _ _ h => h) (Or.inl ⟨by rfl, ?_⟩) ?_
      · (intro w; go_simp)
      try simp only [Act.put, List.getElem_toArray, List.getElem_cons_succ, List.getElem_cons_zero, List.setIfInBounds_toArray, List.set]
      refine wpAny_take (i := 2) (v := .pointer (some ⟨R, 0, none⟩)) rfl (by kernel_rfl) (by kernel_rfl) (by kernel_rfl) (fun _ _ _ h => h) (Or.inl ⟨by rfl, ?_⟩) ?_
      · (intro w; go_simp)
      try simp only [Act.put, List.getElem_toArray, List.getElem_cons_succ, List.getElem_cons_zero, List.setIfInBounds_toArray, List.set]
      refine wpAny_take (i := 7) (v := .pointer (some ⟨H + 1, 6, none⟩)) rfl (by kernel_rfl) (by kernel_rfl) (by kernel_rfl) (fun _ _ _ h => h) (Or.inl ⟨by rfl, ?_⟩) ?_
      · (intro w; go_simp)
      try simp only [Act.put, List.getElem_toArray, List.getElem_cons_succ, List.getElem_cons_zero, List.setIfInBounds_toArray, List.set]
      refine wpAny_ready (rs := [3]) (by kernel_rfl) (by simp) ?_
      refine AllReady.cons (by first | (simp only [List.getElem?_toArray, List.getElem?_cons_succ, List.getElem?_cons_zero]; done) | (simp only [List.getElem?_toArray, List.getElem?_cons_succ, List.getElem?_cons_zero]; rfl)) (fun K hK => ?_) AllReady.nil
      go_simp
      by_cases q3 : 3 < ps.length
      case neg =>
        refine (next_no' R sb ps 3 _ HP7.out q3).mono ?_
        rintro e w' ⟨rfl, rfl⟩
        exact ⟨rfl, Cf.portAns_no (Cf.link_len HLW.out (by omega)), HO7.out, HB7.out⟩
      have HQ3 := Lib.hid q3
      clear q3
      refine (next_okX (B := B) HP7.out HQ3.out hBR hx3).mono ?_
      rintro e w8 ⟨rfl, hP, hO, hb⟩
      have HP8 := Lib.hid hP
      have HX8 := Lib.hid (HX7.out.only hO (by simp; omega))
      have HR8 := Lib.hid (HR7.out.only hO (by simp; omega))
      have HO8 := Lib.hid (HO7.out.trans hO)
      have HB8 := Lib.hid (HB7.out.trans hb)
      clear hP hO hb HX7 HR7 HO7 HB7 HP7 HZ7
      have HZ8 : Hid (B ≤ w8.heap.size) := Nat.le_trans hBw HB8.out.size
      refine hK _ _ ?_
      clear hK K
      try simp only [Act.put, List.getElem_toArray, List.getElem_cons_succ, List.getElem_cons_zero, List.setIfInBounds_toArray, List.set]
      refine wpAny_ready (rs := [4]) (by kernel_rfl) (by simp) ?_
      refine AllReady.cons (by first | (simp only [List.getElem?_toArray, List.getElem?_cons_succ, List.getElem?_cons_zero]; done) | (simp only [List.getElem?_toArray, List.getElem?_cons_succ, List.getElem?_cons_zero]; rfl)) (fun K hK => ?_) AllReady.nil
      go_simp
      cases hn : Cf.bytesOf x3.data.toList 32 with
      | none =>
        refine (bytes_bad (n := 32) hn (by decide) _).mono ?_
        rintro e w' ⟨rfl, hb⟩
        exact ⟨rfl, Cf.portAns_no (Cf.link_bad HLW.out (.inr (.inr (by rw [Cf.part_x hx3]; exact hn)))), HO8.out.below hb, HB8.out.trans (hb.mono HZ8.out)⟩
      | some bs =>
        refine (bytes_ok (n := 32) hn (by decide) (by decide) _).mono ?_
        rintro e w9 ⟨⟨gb, cap, rfl, hgb, hcb⟩, hb⟩
        have hgn : H + 1 < gb := Nat.lt_of_lt_of_le HX8.out.lt hgb
        have HNbs := Lib.hid hn
        have HCB := Lib.hid hcb
        have HLbs := Lib.hid (Cf.bytesOf_length hn)
        clear hn hcb
        have HP9 := Lib.hid (HP8.out.kept hb)
        have HX9 := Lib.hid (HX8.out.kept hb)
        have HR9 := Lib.hid (HR8.out.kept hb)
        have HO9 := Lib.hid (HO8.out.below hb)
        have HB9 := Lib.hid (HB8.out.trans (hb.mono HZ8.out))
        clear hb HX8 HR8 HO8 HB8 HP8 HZ8
        have HZ9 : Hid (B ≤ w9.heap.size) := Nat.le_trans hBw HB9.out.size
        refine hK _ _ ?_
        clear hK K
        try simp only [Act.put, List.getElem_toArray, List.getElem_cons_succ, List.getElem_cons_zero, List.setIfInBounds_toArray, List.set]
        have HPL := HLbs.out
        refine wpAny_take (i := 5) (v := .pointer (some ⟨gb, 0, none⟩)) rfl (by kernel_rfl) (by kernel_rfl) (by kernel_rfl) (fun _ _ _ h => h) (Or.inl ⟨by rfl, ?_⟩) ?_
        · (intro w; go_simp; rw [run_arrayAt w 70 5 32 _ _ cap Tryz.underlying70 (by decide)]; rfl)
        try simp only [Act.put, List.getElem_toArray, List.getElem_cons_succ, List.getElem_cons_zero, List.setIfInBounds_toArray, List.set]
        refine wpAny_ready (rs := [6, 8]) (by kernel_rfl) (by simp) ?_
        have HTL0 := Lib.hid (Cf.tail_link (ps := ps) HLW.out (by rw [Cf.part_x hx1]; exact HNnr.out) HG.out (by rw [Cf.part_x hx3]; exact HNbs.out))
        rw [HGE.out] at HTL0
        have HTL := HTL0
        clear HTL0
        refine AllReady.cons (by first | (simp only [List.getElem?_toArray, List.getElem?_cons_succ, List.getElem?_cons_zero]; done) | (simp only [List.getElem?_toArray, List.getElem?_cons_succ, List.getElem?_cons_zero]; rfl)) (fun K hK => ?_) ?_
        case refine_1 =>
          refine step_load_cells rfl 70 5 32 (.tmp 36) rfl gb (byteVals bs) rfl HCB.out Tryz.underlying70 (by rw [byteVals_length, HPL]; kernel_rfl) ?_
          refine hK _ _ ?_
          clear hK K
          try simp only [Act.put, List.getElem_toArray, List.getElem_cons_succ, List.getElem_cons_zero, List.setIfInBounds_toArray, List.set]
          refine wpAny_ready (rs := [8]) (by kernel_rfl) (by simp) ?_
          refine AllReady.cons (by first | (simp only [List.getElem?_toArray, List.getElem?_cons_succ, List.getElem?_cons_zero]; done) | (simp only [List.getElem?_toArray, List.getElem?_cons_succ, List.getElem?_cons_zero]; rfl)) (fun K hK => ?_) AllReady.nil
          refine step_store_cell rfl 4 (.tmp 38) (.tmp 32) rfl (H + 1) 6 (.bool true) rfl rfl 72 _ HX9.out (by simp) (by kernel_rfl) rfl B (by omega) ?_
          intro w10 hR hO hs hb
          have hR : RowIs w10 (H + 1) 72 ((.int .i64 0 :: .slice none 0 0 :: .int .i64 0 :: .int .i64 0 :: .bool true :: .int .i64 nr :: .bool true :: byteVals (Cf.zeros 32)).toArray) := by
            have e : (.int .i64 0 :: .slice none 0 0 :: .int .i64 0 :: .int .i64 0 :: .bool true :: .int .i64 nr :: .bool false :: byteVals (Cf.zeros 32)).set 6 (.bool true) = (.int .i64 0 :: .slice none 0 0 :: .int .i64 0 :: .int .i64 0 :: .bool true :: .int .i64 nr :: .bool true :: byteVals (Cf.zeros 32)) := rfl
            rw [← e]
            first | exact hR | (simpa using hR)
          have HP10 := Lib.hid (HP9.out.only ((Only.refl [(H + 1)] w9).store (List.mem_singleton.2 rfl) hO hs) (by simp; omega) (by simp; omega))
          have HX10 : Hid (RowIs w10 (H + 1) 72 (.int .i64 0 :: .slice none 0 0 :: .int .i64 0 :: .int .i64 0 :: .bool true :: .int .i64 nr :: .bool true :: byteVals (Cf.zeros 32)).toArray) := hR
          have HR10 := Lib.hid (show RowIs w10 H 72 (.int .i64 0 :: .slice none 0 0 :: .int .i64 0 :: .int .i64 0 :: .bool false :: .int .i64 0 :: .bool false :: byteVals (Cf.zeros 32)).toArray from (hO _ (by omega)).trans HR9.out)
          have HO10 := Lib.hid (show Only [R] w w10 from HO9.out.newer (by omega) hO hs)
          have HB10 := Lib.hid (HB9.out.trans hb)
          clear hR hO hs hb HX9 HR9 HO9 HB9 HP9 HZ9
          have HZ10 : Hid (B ≤ w10.heap.size) := Nat.le_trans hBw HB10.out.size
          refine hK _ _ ?_
          clear hK K
          try simp only [Act.put, List.getElem_toArray, List.getElem_cons_succ, List.getElem_cons_zero, List.setIfInBounds_toArray, List.set]
          refine wpAny_take (i := 9) (v := .pointer (some ⟨H + 1, 7, none⟩)) rfl (by kernel_rfl) (by kernel_rfl) (by kernel_rfl) (fun _ _ _ h => h) (Or.inl ⟨by rfl, ?_⟩) ?_
          · (intro w; go_simp)
          try simp only [Act.put, List.getElem_toArray, List.getElem_cons_succ, List.getElem_cons_zero, List.setIfInBounds_toArray, List.set]
          refine wpAny_ready (rs := [10]) (by kernel_rfl) (by simp) ?_
          refine AllReady.cons (by first | (simp only [List.getElem?_toArray, List.getElem?_cons_succ, List.getElem?_cons_zero]; done) | (simp only [List.getElem?_toArray, List.getElem?_cons_succ, List.getElem?_cons_zero]; rfl)) (fun K hK => ?_) AllReady.nil
          refine step_store_part rfl 70 (.tmp 39) (.tmp 37) rfl (H + 1) 7 (byteVals bs).toArray rfl rfl 72 _ HX10.out (by simp [byteVals_length, HPL, Cf.zeros]) (by rw [List.size_toArray, byteVals_length, HPL]; kernel_rfl) (Cf.one_bytes bs) ((.int .i64 0 :: .slice none 0 0 :: .int .i64 0 :: .int .i64 0 :: .bool true :: .int .i64 nr :: .bool true :: byteVals bs).toArray) (congrArg List.toArray (Cf.put_seven (byteVals (Cf.zeros 32)) (byteVals bs) (by rw [byteVals_length, byteVals_length, HPL]; rfl))) B (by omega) ?_
          intro w11 hR hO hs hb
          have HP11 := Lib.hid (HP10.out.only ((Only.refl [(H + 1)] w10).store (List.mem_singleton.2 rfl) hO hs) (by simp; omega) (by simp; omega))
          have HX11 : Hid (RowIs w11 (H + 1) 72 (.int .i64 0 :: .slice none 0 0 :: .int .i64 0 :: .int .i64 0 :: .bool true :: .int .i64 nr :: .bool true :: byteVals bs).toArray) := hR
          have HR11 := Lib.hid (show RowIs w11 H 72 (.int .i64 0 :: .slice none 0 0 :: .int .i64 0 :: .int .i64 0 :: .bool false :: .int .i64 0 :: .bool false :: byteVals (Cf.zeros 32)).toArray from (hO _ (by omega)).trans HR10.out)
          have HO11 := Lib.hid (show Only [R] w w11 from HO10.out.newer (by omega) hO hs)
          have HB11 := Lib.hid (HB10.out.trans hb)
          clear hR hO hs hb HX10 HR10 HO10 HB10 HP10 HZ10
          have HZ11 : Hid (B ≤ w11.heap.size) := Nat.le_trans hBw HB11.out.size
          refine hK _ _ ?_
          clear hK K
          try simp only [Act.put, List.getElem_toArray, List.getElem_cons_succ, List.getElem_cons_zero, List.setIfInBounds_toArray, List.set]
          refine wpAny_done (by kernel_rfl) ?_ _
          go_wp2_with fail
          by_cases q4 : 4 < ps.length
          case neg =>
            refine (next_no' R sb ps 4 _ HP11.out q4).mono ?_
            rintro e w' ⟨rfl, rfl⟩
            exact ⟨rfl, Cf.portAns_no (HTL.out.len (by omega)), HO11.out, HB11.out⟩
          have HQ4 := Lib.hid q4
          clear q4
          refine (next_okX (B := B) HP11.out HQ4.out hBR hx4).mono ?_
          rintro e w12 ⟨rfl, hP, hO, hb⟩
          have HP12 := Lib.hid hP
          have HX12 := Lib.hid (HX11.out.only hO (by simp; omega))
          have HR12 := Lib.hid (HR11.out.only hO (by simp; omega))
          have HO12 := Lib.hid (HO11.out.trans hO)
          have HB12 := Lib.hid (HB11.out.trans hb)
          clear hP hO hb HX11 HR11 HO11 HB11 HP11 HZ11
          have HZ12 : Hid (B ≤ w12.heap.size) := Nat.le_trans hBw HB12.out.size
          go_wp2_with fail
          cases hn : Cf.numOf x4.data.toList with
          | none =>
            refine (number_badC hn _).mono ?_
            rintro e w' ⟨rfl, hb⟩
            exact ⟨rfl, Cf.portAns_no (HTL.out.bad (.inl (by rw [Cf.part_x hx4]; exact hn))), HO12.out.below hb, HB12.out.trans (hb.mono HZ12.out)⟩
          | some na =>
            refine (number_okC hn _).mono ?_
            rintro e w13 ⟨rfl, hb⟩
            have HNna := Lib.hid hn
            clear hn
            have HP13 := Lib.hid (HP12.out.kept hb)
            have HX13 := Lib.hid (HX12.out.kept hb)
            have HR13 := Lib.hid (HR12.out.kept hb)
            have HO13 := Lib.hid (HO12.out.below hb)
            have HB13 := Lib.hid (HB12.out.trans (hb.mono HZ12.out))
            clear hb HX12 HR12 HO12 HB12 HP12 HZ12
            have HZ13 : Hid (B ≤ w13.heap.size) := Nat.le_trans hBw HB13.out.size
            go_wp2_with fail
            by_cases q5 : 5 < ps.length
            case neg =>
              refine (next_no' R sb ps 5 _ HP13.out q5).mono ?_
              rintro e w' ⟨rfl, rfl⟩
              exact ⟨rfl, Cf.portAns_no (HTL.out.len (by omega)), HO13.out, HB13.out⟩
            have HQ5 := Lib.hid q5
            clear q5
            refine (next_okX (B := B) HP13.out HQ5.out hBR hx5).mono ?_
            rintro e w14 ⟨rfl, hP, hO, hb⟩
            have HP14 := Lib.hid hP
            have HX14 := Lib.hid (HX13.out.only hO (by simp; omega))
            have HR14 := Lib.hid (HR13.out.only hO (by simp; omega))
            have HO14 := Lib.hid (HO13.out.trans hO)
            have HB14 := Lib.hid (HB13.out.trans hb)
            clear hP hO hb HX13 HR13 HO13 HB13 HP13 HZ13
            have HZ14 : Hid (B ≤ w14.heap.size) := Nat.le_trans hBw HB14.out.size
            go_wp2_with fail
            cases hn : Cf.tagsOf x5.data.toList with
            | none =>
              refine (tags_bad hn (hszs _ x5 hx5) _).mono ?_
              rintro e w' ⟨rfl, hb⟩
              exact ⟨rfl, Cf.portAns_no (HTL.out.bad (.inr (.inl (by rw [Cf.part_x hx5]; exact hn)))), HO14.out.below hb, HB14.out.trans (hb.mono HZ14.out)⟩
            | some ts =>
              refine (tags_ok hn (hszs _ x5 hx5) (H + 2) _ (Nat.le_of_lt_succ (Nat.succ_lt_succ HX14.out.lt))).mono ?_
              rintro e w15 ⟨⟨tv, rfl, hot⟩, hb⟩
              have HNts := Lib.hid hn
              clear hn
              have HP15 := Lib.hid (HP14.out.kept hb)
              have HX15 := Lib.hid (HX14.out.kept hb)
              have HR15 := Lib.hid (HR14.out.kept hb)
              have HO15 := Lib.hid (HO14.out.below hb)
              have HB15 := Lib.hid (HB14.out.trans (hb.mono HZ14.out))
              clear hb HX14 HR14 HO14 HB14 HP14 HZ14
              have HZ15 : Hid (B ≤ w15.heap.size) := Nat.le_trans hBw HB15.out.size
              obtain ⟨ta, tn, tc, rfl⟩ := tv_form hot
              have HT15 := Lib.hid hot
              clear hot
              go_wp2_with ((with_reducible refine at_store 67 (.tmp 48) (.tmp 46) ?_); refine wpList_store_part rfl 67 (.tmp 48) (.tmp 46) rfl (H + 1) 0 #[.int .i64 na, .slice ta tn tc] rfl rfl 72 _ HX15.out (by simp) (by kernel_rfl) (by simp [Value.oneCell']) ((.int .i64 na :: (.slice ta tn tc) :: .int .i64 0 :: .int .i64 0 :: .bool true :: .int .i64 nr :: .bool true :: byteVals bs).toArray) rfl B (by omega) ?_)
              intro w16 hR hO hs hb
              have HP16 := Lib.hid (HP15.out.only ((Only.refl [(H + 1)] w15).store (List.mem_singleton.2 rfl) hO hs) (by simp; omega) (by simp; omega))
              have HX16 : Hid (RowIs w16 (H + 1) 72 (.int .i64 na :: (.slice ta tn tc) :: .int .i64 0 :: .int .i64 0 :: .bool true :: .int .i64 nr :: .bool true :: byteVals bs).toArray) := hR
              have HR16 := Lib.hid (show RowIs w16 H 72 (.int .i64 0 :: .slice none 0 0 :: .int .i64 0 :: .int .i64 0 :: .bool false :: .int .i64 0 :: .bool false :: byteVals (Cf.zeros 32)).toArray from (hO _ (by omega)).trans HR15.out)
              have HT16 := Lib.hid (owns_stored HT15.out hO (by omega))
              have HO16 := Lib.hid (show Only [R] w w16 from HO15.out.newer (by omega) hO hs)
              have HB16 := Lib.hid (HB15.out.trans hb)
              clear hR hO hs hb HX15 HR15 HT15 HO15 HB15 HP15 HZ15
              have HZ16 : Hid (B ≤ w16.heap.size) := Nat.le_trans hBw HB16.out.size
              go_wp2_with fail
              by_cases q6 : 6 < ps.length
              case neg =>
                refine (next_no' R sb ps 6 _ HP16.out q6).mono ?_
                rintro e w' ⟨rfl, rfl⟩
                exact ⟨rfl, Cf.portAns_no (HTL.out.len (by omega)), HO16.out, HB16.out⟩
              have HQ6 := Lib.hid q6
              clear q6
              refine (next_okX (B := B) HP16.out HQ6.out hBR hx6).mono ?_
              rintro e w17 ⟨rfl, hP, hO, hb⟩
              have HP17 := Lib.hid hP
              have HX17 := Lib.hid (HX16.out.only hO (by simp; omega))
              have HR17 := Lib.hid (HR16.out.only hO (by simp; omega))
              have HT17 := Lib.hid (owns_only HT16.out hO (by simp; omega))
              have HO17 := Lib.hid (HO16.out.trans hO)
              have HB17 := Lib.hid (HB16.out.trans hb)
              clear hP hO hb HX16 HR16 HT16 HO16 HB16 HP16 HZ16
              have HZ17 : Hid (B ≤ w17.heap.size) := Nat.le_trans hBw HB17.out.size
              go_wp2_with fail
              cases hn : Cf.numOf x6.data.toList with
              | none =>
                refine (number_badC hn _).mono ?_
                rintro e w' ⟨rfl, hb⟩
                exact ⟨rfl, Cf.portAns_no (HTL.out.bad (.inr (.inr (.inl (by rw [Cf.part_x hx6]; exact hn))))), HO17.out.below hb, HB17.out.trans (hb.mono HZ17.out)⟩
              | some nh =>
                refine (number_okC hn _).mono ?_
                rintro e w18 ⟨rfl, hb⟩
                have HNnh := Lib.hid hn
                clear hn
                have HP18 := Lib.hid (HP17.out.kept hb)
                have HX18 := Lib.hid (HX17.out.kept hb)
                have HR18 := Lib.hid (HR17.out.kept hb)
                have HT18 := Lib.hid (OutInts.later HT17.out hb)
                have HO18 := Lib.hid (HO17.out.below hb)
                have HB18 := Lib.hid (HB17.out.trans (hb.mono HZ17.out))
                clear hb HX17 HR17 HT17 HO17 HB17 HP17 HZ17
                have HZ18 : Hid (B ≤ w18.heap.size) := Nat.le_trans hBw HB18.out.size
                go_wp2_with fail
                by_cases q7 : 7 < ps.length
                case neg =>
                  refine (next_no' R sb ps 7 _ HP18.out q7).mono ?_
                  rintro e w' ⟨rfl, rfl⟩
                  exact ⟨rfl, Cf.portAns_no (HTL.out.len (by omega)), HO18.out, HB18.out⟩
                have HQ7 := Lib.hid q7
                clear q7
                refine (next_okX (B := B) HP18.out HQ7.out hBR hx7).mono ?_
                rintro e w19 ⟨rfl, hP, hO, hb⟩
                have HP19 := Lib.hid hP
                have HX19 := Lib.hid (HX18.out.only hO (by simp; omega))
                have HR19 := Lib.hid (HR18.out.only hO (by simp; omega))
                have HT19 := Lib.hid (owns_only HT18.out hO (by simp; omega))
                have HO19 := Lib.hid (HO18.out.trans hO)
                have HB19 := Lib.hid (HB18.out.trans hb)
                clear hP hO hb HX18 HR18 HT18 HO18 HB18 HP18 HZ18
                have HZ19 : Hid (B ≤ w19.heap.size) := Nat.le_trans hBw HB19.out.size
                go_wp2_with fail
                cases hn : Cf.numOf x7.data.toList with
                | none =>
                  refine (number_badC hn _).mono ?_
                  rintro e w' ⟨rfl, hb⟩
                  exact ⟨rfl, Cf.portAns_no (HTL.out.bad (.inr (.inr (.inr (by rw [Cf.part_x hx7]; exact hn))))), HO19.out.below hb, HB19.out.trans (hb.mono HZ19.out)⟩
                | some nl =>
                  refine (number_okC hn _).mono ?_
                  rintro e w20 ⟨rfl, hb⟩
                  have HNnl := Lib.hid hn
                  clear hn
                  have HP20 := Lib.hid (HP19.out.kept hb)
                  have HX20 := Lib.hid (HX19.out.kept hb)
                  have HR20 := Lib.hid (HR19.out.kept hb)
                  have HT20 := Lib.hid (OutInts.later HT19.out hb)
                  have HO20 := Lib.hid (HO19.out.below hb)
                  have HB20 := Lib.hid (HB19.out.trans (hb.mono HZ19.out))
                  clear hb HX19 HR19 HT19 HO19 HB19 HP19 HZ19
                  have HZ20 : Hid (B ≤ w20.heap.size) := Nat.le_trans hBw HB20.out.size
                  go_wp2_with ((with_reducible refine at_store 3 (.tmp 56) (.tmp 51) ?_); refine wpList_store_cell rfl 3 (.tmp 56) (.tmp 51) rfl (H + 1) 2 _ rfl rfl 72 _ HX20.out (by simp) (by kernel_rfl) rfl B (by omega) ?_)
                  intro w21 hR hO hs hb
                  have hR : RowIs w21 (H + 1) 72 ((.int .i64 na :: (.slice ta tn tc) :: .int .i64 nh :: .int .i64 0 :: .bool true :: .int .i64 nr :: .bool true :: byteVals bs).toArray) := by
                    have e : (.int .i64 na :: (.slice ta tn tc) :: .int .i64 0 :: .int .i64 0 :: .bool true :: .int .i64 nr :: .bool true :: byteVals bs).set 2 (.int .i64 nh) = (.int .i64 na :: (.slice ta tn tc) :: .int .i64 nh :: .int .i64 0 :: .bool true :: .int .i64 nr :: .bool true :: byteVals bs) := rfl
                    rw [← e]
                    exact hR
                  have HP21 := Lib.hid (HP20.out.only ((Only.refl [(H + 1)] w20).store (List.mem_singleton.2 rfl) hO hs) (by simp; omega) (by simp; omega))
                  have HX21 : Hid (RowIs w21 (H + 1) 72 (.int .i64 na :: (.slice ta tn tc) :: .int .i64 nh :: .int .i64 0 :: .bool true :: .int .i64 nr :: .bool true :: byteVals bs).toArray) := hR
                  have HR21 := Lib.hid (show RowIs w21 H 72 (.int .i64 0 :: .slice none 0 0 :: .int .i64 0 :: .int .i64 0 :: .bool false :: .int .i64 0 :: .bool false :: byteVals (Cf.zeros 32)).toArray from (hO _ (by omega)).trans HR20.out)
                  have HT21 := Lib.hid (owns_stored HT20.out hO (by omega))
                  have HO21 := Lib.hid (show Only [R] w w21 from HO20.out.newer (by omega) hO hs)
                  have HB21 := Lib.hid (HB20.out.trans hb)
                  clear hR hO hs hb HX20 HR20 HT20 HO20 HB20 HP20 HZ20
                  have HZ21 : Hid (B ≤ w21.heap.size) := Nat.le_trans hBw HB21.out.size
                  go_wp2_with ((with_reducible refine at_store 3 (.tmp 58) (.tmp 54) ?_); refine wpList_store_cell rfl 3 (.tmp 58) (.tmp 54) rfl (H + 1) 3 _ rfl rfl 72 _ HX21.out (by simp) (by kernel_rfl) rfl B (by omega) ?_)
                  intro w22 hR hO hs hb
                  have hR : RowIs w22 (H + 1) 72 ((.int .i64 na :: (.slice ta tn tc) :: .int .i64 nh :: .int .i64 nl :: .bool true :: .int .i64 nr :: .bool true :: byteVals bs).toArray) := by
                    have e : (.int .i64 na :: (.slice ta tn tc) :: .int .i64 nh :: .int .i64 0 :: .bool true :: .int .i64 nr :: .bool true :: byteVals bs).set 3 (.int .i64 nl) = (.int .i64 na :: (.slice ta tn tc) :: .int .i64 nh :: .int .i64 nl :: .bool true :: .int .i64 nr :: .bool true :: byteVals bs) := rfl
                    rw [← e]
                    exact hR
                  have HP22 := Lib.hid (HP21.out.only ((Only.refl [(H + 1)] w21).store (List.mem_singleton.2 rfl) hO hs) (by simp; omega) (by simp; omega))
                  have HX22 : Hid (RowIs w22 (H + 1) 72 (.int .i64 na :: (.slice ta tn tc) :: .int .i64 nh :: .int .i64 nl :: .bool true :: .int .i64 nr :: .bool true :: byteVals bs).toArray) := hR
                  have HR22 := Lib.hid (show RowIs w22 H 72 (.int .i64 0 :: .slice none 0 0 :: .int .i64 0 :: .int .i64 0 :: .bool false :: .int .i64 0 :: .bool false :: byteVals (Cf.zeros 32)).toArray from (hO _ (by omega)).trans HR21.out)
                  have HT22 := Lib.hid (owns_stored HT21.out hO (by omega))
                  have HO22 := Lib.hid (show Only [R] w w22 from HO21.out.newer (by omega) hO hs)
                  have HB22 := Lib.hid (HB21.out.trans hb)
                  clear hR hO hs hb HX21 HR21 HT21 HO21 HB21 HP21 HZ21
                  have HZ22 : Hid (B ≤ w22.heap.size) := Nat.le_trans hBw HB22.out.size
                  obtain ⟨off, c0⟩ : ∃ off, w22.cell? ⟨R, 0, none⟩ = some (.slice (some ⟨sb, off, none⟩) (ps.length - 8) (ps.length - 8)) := by
                    obtain ⟨_, _, _, _, off, _, h⟩ := HP22.out
                    exact ⟨off, h.cell 0⟩
                  obtain ⟨m, hm⟩ : ∃ m, m = ps.length - 8 := ⟨_, rfl⟩
                  rw [← hm] at c0
                  have HM := Lib.hid hm
                  clear hm
                  by_cases hm0 : m = 0
                  case neg =>
                    have dm : ((m : Int) == 0) = false := by rw [beq_eq_false_iff_ne]; omega
                    go_wp2_with fail
                    refine (must_not _).mono ?_
                    rintro e w' ⟨rfl, rfl⟩
                    exact ⟨rfl, Cf.portAns_no (HTL.out.len (by have := HM.out; omega)), HO22.out, HB22.out⟩
                  subst hm0
                  go_wp2_with fail
                  refine (must_ok _).mono ?_
                  rintro e w' ⟨rfl, rfl⟩
                  clear c0
                  go_wp2_with (first | ((with_reducible refine at_load 72 (.tmp 3) ?_); refine wpList_load_own rfl 72 (.tmp 3) rfl (H + 1) rfl 72 _ _ HX22.out Tryz.underlying72 rfl (pc_info HPL) ?_) | ((with_reducible refine at_store 72 (.tmp 2) (.tmp 65) ?_); refine wpList_store_own rfl 72 (.tmp 2) (.tmp 65) rfl H _ rfl rfl 72 _ HR22.out (pc_info HPL) (by simp [byteVals_length, HPL, Cf.zeros]) (pc_one (by simp [Value.oneCell', tv_one HT22.out])) B (by omega) ?_))
                  intro w23 hR hO hs hb
                  have HP23 := Lib.hid (HP22.out.only ((Only.refl [H] w22).store (List.mem_singleton.2 rfl) hO hs) (by simp; omega) (by simp; omega))
                  have HX23 := Lib.hid (show RowIs w23 (H + 1) 72 (.int .i64 na :: (.slice ta tn tc) :: .int .i64 nh :: .int .i64 nl :: .bool true :: .int .i64 nr :: .bool true :: byteVals bs).toArray from (hO _ (by omega)).trans HX22.out)
                  have HR23 : Hid (RowIs w23 H 72 (.int .i64 na :: (.slice ta tn tc) :: .int .i64 nh :: .int .i64 nl :: .bool true :: .int .i64 nr :: .bool true :: byteVals bs).toArray) := hR
                  have HT23 := Lib.hid (owns_stored HT22.out hO (by omega))
                  have HO23 := Lib.hid (show Only [R] w w23 from HO22.out.newer (by omega) hO hs)
                  have HB23 := Lib.hid (HB22.out.trans hb)
                  clear hR hO hs hb HX22 HR22 HT22 HO22 HB22 HP22 HZ22
                  have HZ23 : Hid (B ≤ w23.heap.size) := Nat.le_trans hBw HB23.out.size
                  go_wp2_with fail
                  exact bodyPost_ret (results_row Tryz.results40 _ _ H 72 _ _ rfl HR23.out Tryz.underlying72  rfl (pc_info HPL)) rfl ⟨Cf.portAns_yes (p := ⟨true, nr, true, bs, na, ts, nh, nl⟩) (HTL.out.good _ _ _ _ (by have := HM.out; have := HQ7.out; omega) (by rw [Cf.part_x hx4]; exact HNna.out) (by rw [Cf.part_x hx5]; exact HNts.out) (by rw [Cf.part_x hx6]; exact HNnh.out) (by rw [Cf.part_x hx7]; exact HNnl.out)) (owns_base HT23.out (by omega)) HPL, HO23.out, HB23.out⟩
        refine AllReady.cons (by first | (simp only [List.getElem?_toArray, List.getElem?_cons_succ, List.getElem?_cons_zero]; done) | (simp only [List.getElem?_toArray, List.getElem?_cons_succ, List.getElem?_cons_zero]; rfl)) (fun K hK => ?_) AllReady.nil
        refine step_store_cell rfl 4 (.tmp 38) (.tmp 32) rfl (H + 1) 6 (.bool true) rfl rfl 72 _ HX9.out (by simp) (by kernel_rfl) rfl B (by omega) ?_
        intro w10 hR hO hs hb
        have hR : RowIs w10 (H + 1) 72 ((.int .i64 0 :: .slice none 0 0 :: .int .i64 0 :: .int .i64 0 :: .bool true :: .int .i64 nr :: .bool true :: byteVals (Cf.zeros 32)).toArray) := by
          have e : (.int .i64 0 :: .slice none 0 0 :: .int .i64 0 :: .int .i64 0 :: .bool true :: .int .i64 nr :: .bool false :: byteVals (Cf.zeros 32)).set 6 (.bool true) = (.int .i64 0 :: .slice none 0 0 :: .int .i64 0 :: .int .i64 0 :: .bool true :: .int .i64 nr :: .bool true :: byteVals (Cf.zeros 32)) := rfl
          rw [← e]
          first | exact hR | (simpa using hR)
        have hcb2 := HCB.out.stored hO hs hgn
        clear HCB
        have HCB := Lib.hid hcb2
        have HP10 := Lib.hid (HP9.out.only ((Only.refl [(H + 1)] w9).store (List.mem_singleton.2 rfl) hO hs) (by simp; omega) (by simp; omega))
        have HX10 : Hid (RowIs w10 (H + 1) 72 (.int .i64 0 :: .slice none 0 0 :: .int .i64 0 :: .int .i64 0 :: .bool true :: .int .i64 nr :: .bool true :: byteVals (Cf.zeros 32)).toArray) := hR
        have HR10 := Lib.hid (show RowIs w10 H 72 (.int .i64 0 :: .slice none 0 0 :: .int .i64 0 :: .int .i64 0 :: .bool false :: .int .i64 0 :: .bool false :: byteVals (Cf.zeros 32)).toArray from (hO _ (by omega)).trans HR9.out)
        have HO10 := Lib.hid (show Only [R] w w10 from HO9.out.newer (by omega) hO hs)
        have HB10 := Lib.hid (HB9.out.trans hb)
        clear hR hO hs hb HX9 HR9 HO9 HB9 HP9 HZ9
        have HZ10 : Hid (B ≤ w10.heap.size) := Nat.le_trans hBw HB10.out.size
        refine hK _ _ ?_
        clear hK K
        try simp only [Act.put, List.getElem_toArray, List.getElem_cons_succ, List.getElem_cons_zero, List.setIfInBounds_toArray, List.set]
        refine wpAny_ready (rs := [6]) (by kernel_rfl) (by simp) ?_
        refine AllReady.cons (by first | (simp only [List.getElem?_toArray, List.getElem?_cons_succ, List.getElem?_cons_zero]; done) | (simp only [List.getElem?_toArray, List.getElem?_cons_succ, List.getElem?_cons_zero]; rfl)) (fun K hK => ?_) AllReady.nil
        refine step_load_cells rfl 70 5 32 (.tmp 36) rfl gb (byteVals bs) rfl HCB.out Tryz.underlying70 (by rw [byteVals_length, HPL]; kernel_rfl) ?_
        refine hK _ _ ?_
        clear hK K
        try simp only [Act.put, List.getElem_toArray, List.getElem_cons_succ, List.getElem_cons_zero, List.setIfInBounds_toArray, List.set]
        refine wpAny_take (i := 9) (v := .pointer (some ⟨H + 1, 7, none⟩)) rfl (by kernel_rfl) (by kernel_rfl) (by kernel_rfl) (fun _ _ _ h => h) (Or.inl ⟨by rfl, ?_⟩) ?_
        · (intro w; go_simp)
        try simp only [Act.put, List.getElem_toArray, List.getElem_cons_succ, List.getElem_cons_zero, List.setIfInBounds_toArray, List.set]
        refine wpAny_ready (rs := [10]) (by kernel_rfl) (by simp) ?_
        refine AllReady.cons (by first | (simp only [List.getElem?_toArray, List.getElem?_cons_succ, List.getElem?_cons_zero]; done) | (simp only [List.getElem?_toArray, List.getElem?_cons_succ, List.getElem?_cons_zero]; rfl)) (fun K hK => ?_) AllReady.nil
        refine step_store_part rfl 70 (.tmp 39) (.tmp 37) rfl (H + 1) 7 (byteVals bs).toArray rfl rfl 72 _ HX10.out (by simp [byteVals_length, HPL, Cf.zeros]) (by rw [List.size_toArray, byteVals_length, HPL]; kernel_rfl) (Cf.one_bytes bs) ((.int .i64 0 :: .slice none 0 0 :: .int .i64 0 :: .int .i64 0 :: .bool true :: .int .i64 nr :: .bool true :: byteVals bs).toArray) (congrArg List.toArray (Cf.put_seven (byteVals (Cf.zeros 32)) (byteVals bs) (by rw [byteVals_length, byteVals_length, HPL]; rfl))) B (by omega) ?_
        intro w11 hR hO hs hb
        have HP11 := Lib.hid (HP10.out.only ((Only.refl [(H + 1)] w10).store (List.mem_singleton.2 rfl) hO hs) (by simp; omega) (by simp; omega))
        have HX11 : Hid (RowIs w11 (H + 1) 72 (.int .i64 0 :: .slice none 0 0 :: .int .i64 0 :: .int .i64 0 :: .bool true :: .int .i64 nr :: .bool true :: byteVals bs).toArray) := hR
        have HR11 := Lib.hid (show RowIs w11 H 72 (.int .i64 0 :: .slice none 0 0 :: .int .i64 0 :: .int .i64 0 :: .bool false :: .int .i64 0 :: .bool false :: byteVals (Cf.zeros 32)).toArray from (hO _ (by omega)).trans HR10.out)
        have HO11 := Lib.hid (show Only [R] w w11 from HO10.out.newer (by omega) hO hs)
        have HB11 := Lib.hid (HB10.out.trans hb)
        clear hR hO hs hb HX10 HR10 HO10 HB10 HP10 HZ10
        have HZ11 : Hid (B ≤ w11.heap.size) := Nat.le_trans hBw HB11.out.size
        refine hK _ _ ?_
        clear hK K
        try simp only [Act.put, List.getElem_toArray, List.getElem_cons_succ, List.getElem_cons_zero, List.setIfInBounds_toArray, List.set]
        refine wpAny_done (by kernel_rfl) ?_ _
        go_wp2_with fail
        by_cases q4 : 4 < ps.length
        case neg =>
          refine (next_no' R sb ps 4 _ HP11.out q4).mono ?_
          rintro e w' ⟨rfl, rfl⟩
          exact ⟨rfl, Cf.portAns_no (HTL.out.len (by omega)), HO11.out, HB11.out⟩
        have HQ4 := Lib.hid q4
        clear q4
        refine (next_okX (B := B) HP11.out HQ4.out hBR hx4).mono ?_
        rintro e w12 ⟨rfl, hP, hO, hb⟩
        have HP12 := Lib.hid hP
        have HX12 := Lib.hid (HX11.out.only hO (by simp; omega))
        have HR12 := Lib.hid (HR11.out.only hO (by simp; omega))
        have HO12 := Lib.hid (HO11.out.trans hO)
        have HB12 := Lib.hid (HB11.out.trans hb)
        clear hP hO hb HX11 HR11 HO11 HB11 HP11 HZ11
        have HZ12 : Hid (B ≤ w12.heap.size) := Nat.le_trans hBw HB12.out.size
        go_wp2_with fail
        cases hn : Cf.numOf x4.data.toList with
        | none =>
          refine (number_badC hn _).mono ?_
          rintro e w' ⟨rfl, hb⟩
          exact ⟨rfl, Cf.portAns_no (HTL.out.bad (.inl (by rw [Cf.part_x hx4]; exact hn))), HO12.out.below hb, HB12.out.trans (hb.mono HZ12.out)⟩
        | some na =>
          refine (number_okC hn _).mono ?_
          rintro e w13 ⟨rfl, hb⟩
          have HNna := Lib.hid hn
          clear hn
          have HP13 := Lib.hid (HP12.out.kept hb)
          have HX13 := Lib.hid (HX12.out.kept hb)
          have HR13 := Lib.hid (HR12.out.kept hb)
          have HO13 := Lib.hid (HO12.out.below hb)
          have HB13 := Lib.hid (HB12.out.trans (hb.mono HZ12.out))
          clear hb HX12 HR12 HO12 HB12 HP12 HZ12
          have HZ13 : Hid (B ≤ w13.heap.size) := Nat.le_trans hBw HB13.out.size
          go_wp2_with fail
          by_cases q5 : 5 < ps.length
          case neg =>
            refine (next_no' R sb ps 5 _ HP13.out q5).mono ?_
            rintro e w' ⟨rfl, rfl⟩
            exact ⟨rfl, Cf.portAns_no (HTL.out.len (by omega)), HO13.out, HB13.out⟩
          have HQ5 := Lib.hid q5
          clear q5
          refine (next_okX (B := B) HP13.out HQ5.out hBR hx5).mono ?_
          rintro e w14 ⟨rfl, hP, hO, hb⟩
          have HP14 := Lib.hid hP
          have HX14 := Lib.hid (HX13.out.only hO (by simp; omega))
          have HR14 := Lib.hid (HR13.out.only hO (by simp; omega))
          have HO14 := Lib.hid (HO13.out.trans hO)
          have HB14 := Lib.hid (HB13.out.trans hb)
          clear hP hO hb HX13 HR13 HO13 HB13 HP13 HZ13
          have HZ14 : Hid (B ≤ w14.heap.size) := Nat.le_trans hBw HB14.out.size
          go_wp2_with fail
          cases hn : Cf.tagsOf x5.data.toList with
          | none =>
            refine (tags_bad hn (hszs _ x5 hx5) _).mono ?_
            rintro e w' ⟨rfl, hb⟩
            exact ⟨rfl, Cf.portAns_no (HTL.out.bad (.inr (.inl (by rw [Cf.part_x hx5]; exact hn)))), HO14.out.below hb, HB14.out.trans (hb.mono HZ14.out)⟩
          | some ts =>
            refine (tags_ok hn (hszs _ x5 hx5) (H + 2) _ (Nat.le_of_lt_succ (Nat.succ_lt_succ HX14.out.lt))).mono ?_
            rintro e w15 ⟨⟨tv, rfl, hot⟩, hb⟩
            have HNts := Lib.hid hn
            clear hn
            have HP15 := Lib.hid (HP14.out.kept hb)
            have HX15 := Lib.hid (HX14.out.kept hb)
            have HR15 := Lib.hid (HR14.out.kept hb)
            have HO15 := Lib.hid (HO14.out.below hb)
            have HB15 := Lib.hid (HB14.out.trans (hb.mono HZ14.out))
            clear hb HX14 HR14 HO14 HB14 HP14 HZ14
            have HZ15 : Hid (B ≤ w15.heap.size) := Nat.le_trans hBw HB15.out.size
            obtain ⟨ta, tn, tc, rfl⟩ := tv_form hot
            have HT15 := Lib.hid hot
            clear hot
            go_wp2_with ((with_reducible refine at_store 67 (.tmp 48) (.tmp 46) ?_); refine wpList_store_part rfl 67 (.tmp 48) (.tmp 46) rfl (H + 1) 0 #[.int .i64 na, .slice ta tn tc] rfl rfl 72 _ HX15.out (by simp) (by kernel_rfl) (by simp [Value.oneCell']) ((.int .i64 na :: (.slice ta tn tc) :: .int .i64 0 :: .int .i64 0 :: .bool true :: .int .i64 nr :: .bool true :: byteVals bs).toArray) rfl B (by omega) ?_)
            intro w16 hR hO hs hb
            have HP16 := Lib.hid (HP15.out.only ((Only.refl [(H + 1)] w15).store (List.mem_singleton.2 rfl) hO hs) (by simp; omega) (by simp; omega))
            have HX16 : Hid (RowIs w16 (H + 1) 72 (.int .i64 na :: (.slice ta tn tc) :: .int .i64 0 :: .int .i64 0 :: .bool true :: .int .i64 nr :: .bool true :: byteVals bs).toArray) := hR
            have HR16 := Lib.hid (show RowIs w16 H 72 (.int .i64 0 :: .slice none 0 0 :: .int .i64 0 :: .int .i64 0 :: .bool false :: .int .i64 0 :: .bool false :: byteVals (Cf.zeros 32)).toArray from (hO _ (by omega)).trans HR15.out)
            have HT16 := Lib.hid (owns_stored HT15.out hO (by omega))
            have HO16 := Lib.hid (show Only [R] w w16 from HO15.out.newer (by omega) hO hs)
            have HB16 := Lib.hid (HB15.out.trans hb)
            clear hR hO hs hb HX15 HR15 HT15 HO15 HB15 HP15 HZ15
            have HZ16 : Hid (B ≤ w16.heap.size) := Nat.le_trans hBw HB16.out.size
            go_wp2_with fail
            by_cases q6 : 6 < ps.length
            case neg =>
              refine (next_no' R sb ps 6 _ HP16.out q6).mono ?_
              rintro e w' ⟨rfl, rfl⟩
              exact ⟨rfl, Cf.portAns_no (HTL.out.len (by omega)), HO16.out, HB16.out⟩
            have HQ6 := Lib.hid q6
            clear q6
            refine (next_okX (B := B) HP16.out HQ6.out hBR hx6).mono ?_
            rintro e w17 ⟨rfl, hP, hO, hb⟩
            have HP17 := Lib.hid hP
            have HX17 := Lib.hid (HX16.out.only hO (by simp; omega))
            have HR17 := Lib.hid (HR16.out.only hO (by simp; omega))
            have HT17 := Lib.hid (owns_only HT16.out hO (by simp; omega))
            have HO17 := Lib.hid (HO16.out.trans hO)
            have HB17 := Lib.hid (HB16.out.trans hb)
            clear hP hO hb HX16 HR16 HT16 HO16 HB16 HP16 HZ16
            have HZ17 : Hid (B ≤ w17.heap.size) := Nat.le_trans hBw HB17.out.size
            go_wp2_with fail
            cases hn : Cf.numOf x6.data.toList with
            | none =>
              refine (number_badC hn _).mono ?_
              rintro e w' ⟨rfl, hb⟩
              exact ⟨rfl, Cf.portAns_no (HTL.out.bad (.inr (.inr (.inl (by rw [Cf.part_x hx6]; exact hn))))), HO17.out.below hb, HB17.out.trans (hb.mono HZ17.out)⟩
            | some nh =>
              refine (number_okC hn _).mono ?_
              rintro e w18 ⟨rfl, hb⟩
              have HNnh := Lib.hid hn
              clear hn
              have HP18 := Lib.hid (HP17.out.kept hb)
              have HX18 := Lib.hid (HX17.out.kept hb)
              have HR18 := Lib.hid (HR17.out.kept hb)
              have HT18 := Lib.hid (OutInts.later HT17.out hb)
              have HO18 := Lib.hid (HO17.out.below hb)
              have HB18 := Lib.hid (HB17.out.trans (hb.mono HZ17.out))
              clear hb HX17 HR17 HT17 HO17 HB17 HP17 HZ17
              have HZ18 : Hid (B ≤ w18.heap.size) := Nat.le_trans hBw HB18.out.size
              go_wp2_with fail
              by_cases q7 : 7 < ps.length
              case neg =>
                refine (next_no' R sb ps 7 _ HP18.out q7).mono ?_
                rintro e w' ⟨rfl, rfl⟩
                exact ⟨rfl, Cf.portAns_no (HTL.out.len (by omega)), HO18.out, HB18.out⟩
              have HQ7 := Lib.hid q7
              clear q7
              refine (next_okX (B := B) HP18.out HQ7.out hBR hx7).mono ?_
              rintro e w19 ⟨rfl, hP, hO, hb⟩
              have HP19 := Lib.hid hP
              have HX19 := Lib.hid (HX18.out.only hO (by simp; omega))
              have HR19 := Lib.hid (HR18.out.only hO (by simp; omega))
              have HT19 := Lib.hid (owns_only HT18.out hO (by simp; omega))
              have HO19 := Lib.hid (HO18.out.trans hO)
              have HB19 := Lib.hid (HB18.out.trans hb)
              clear hP hO hb HX18 HR18 HT18 HO18 HB18 HP18 HZ18
              have HZ19 : Hid (B ≤ w19.heap.size) := Nat.le_trans hBw HB19.out.size
              go_wp2_with fail
              cases hn : Cf.numOf x7.data.toList with
              | none =>
                refine (number_badC hn _).mono ?_
                rintro e w' ⟨rfl, hb⟩
                exact ⟨rfl, Cf.portAns_no (HTL.out.bad (.inr (.inr (.inr (by rw [Cf.part_x hx7]; exact hn))))), HO19.out.below hb, HB19.out.trans (hb.mono HZ19.out)⟩
              | some nl =>
                refine (number_okC hn _).mono ?_
                rintro e w20 ⟨rfl, hb⟩
                have HNnl := Lib.hid hn
                clear hn
                have HP20 := Lib.hid (HP19.out.kept hb)
                have HX20 := Lib.hid (HX19.out.kept hb)
                have HR20 := Lib.hid (HR19.out.kept hb)
                have HT20 := Lib.hid (OutInts.later HT19.out hb)
                have HO20 := Lib.hid (HO19.out.below hb)
                have HB20 := Lib.hid (HB19.out.trans (hb.mono HZ19.out))
                clear hb HX19 HR19 HT19 HO19 HB19 HP19 HZ19
                have HZ20 : Hid (B ≤ w20.heap.size) := Nat.le_trans hBw HB20.out.size
                go_wp2_with ((with_reducible refine at_store 3 (.tmp 56) (.tmp 51) ?_); refine wpList_store_cell rfl 3 (.tmp 56) (.tmp 51) rfl (H + 1) 2 _ rfl rfl 72 _ HX20.out (by simp) (by kernel_rfl) rfl B (by omega) ?_)
                intro w21 hR hO hs hb
                have hR : RowIs w21 (H + 1) 72 ((.int .i64 na :: (.slice ta tn tc) :: .int .i64 nh :: .int .i64 0 :: .bool true :: .int .i64 nr :: .bool true :: byteVals bs).toArray) := by
                  have e : (.int .i64 na :: (.slice ta tn tc) :: .int .i64 0 :: .int .i64 0 :: .bool true :: .int .i64 nr :: .bool true :: byteVals bs).set 2 (.int .i64 nh) = (.int .i64 na :: (.slice ta tn tc) :: .int .i64 nh :: .int .i64 0 :: .bool true :: .int .i64 nr :: .bool true :: byteVals bs) := rfl
                  rw [← e]
                  exact hR
                have HP21 := Lib.hid (HP20.out.only ((Only.refl [(H + 1)] w20).store (List.mem_singleton.2 rfl) hO hs) (by simp; omega) (by simp; omega))
                have HX21 : Hid (RowIs w21 (H + 1) 72 (.int .i64 na :: (.slice ta tn tc) :: .int .i64 nh :: .int .i64 0 :: .bool true :: .int .i64 nr :: .bool true :: byteVals bs).toArray) := hR
                have HR21 := Lib.hid (show RowIs w21 H 72 (.int .i64 0 :: .slice none 0 0 :: .int .i64 0 :: .int .i64 0 :: .bool false :: .int .i64 0 :: .bool false :: byteVals (Cf.zeros 32)).toArray from (hO _ (by omega)).trans HR20.out)
                have HT21 := Lib.hid (owns_stored HT20.out hO (by omega))
                have HO21 := Lib.hid (show Only [R] w w21 from HO20.out.newer (by omega) hO hs)
                have HB21 := Lib.hid (HB20.out.trans hb)
                clear hR hO hs hb HX20 HR20 HT20 HO20 HB20 HP20 HZ20
                have HZ21 : Hid (B ≤ w21.heap.size) := Nat.le_trans hBw HB21.out.size
                go_wp2_with ((with_reducible refine at_store 3 (.tmp 58) (.tmp 54) ?_); refine wpList_store_cell rfl 3 (.tmp 58) (.tmp 54) rfl (H + 1) 3 _ rfl rfl 72 _ HX21.out (by simp) (by kernel_rfl) rfl B (by omega) ?_)
                intro w22 hR hO hs hb
                have hR : RowIs w22 (H + 1) 72 ((.int .i64 na :: (.slice ta tn tc) :: .int .i64 nh :: .int .i64 nl :: .bool true :: .int .i64 nr :: .bool true :: byteVals bs).toArray) := by
                  have e : (.int .i64 na :: (.slice ta tn tc) :: .int .i64 nh :: .int .i64 0 :: .bool true :: .int .i64 nr :: .bool true :: byteVals bs).set 3 (.int .i64 nl) = (.int .i64 na :: (.slice ta tn tc) :: .int .i64 nh :: .int .i64 nl :: .bool true :: .int .i64 nr :: .bool true :: byteVals bs) := rfl
                  rw [← e]
                  exact hR
                have HP22 := Lib.hid (HP21.out.only ((Only.refl [(H + 1)] w21).store (List.mem_singleton.2 rfl) hO hs) (by simp; omega) (by simp; omega))
                have HX22 : Hid (RowIs w22 (H + 1) 72 (.int .i64 na :: (.slice ta tn tc) :: .int .i64 nh :: .int .i64 nl :: .bool true :: .int .i64 nr :: .bool true :: byteVals bs).toArray) := hR
                have HR22 := Lib.hid (show RowIs w22 H 72 (.int .i64 0 :: .slice none 0 0 :: .int .i64 0 :: .int .i64 0 :: .bool false :: .int .i64 0 :: .bool false :: byteVals (Cf.zeros 32)).toArray from (hO _ (by omega)).trans HR21.out)
                have HT22 := Lib.hid (owns_stored HT21.out hO (by omega))
                have HO22 := Lib.hid (show Only [R] w w22 from HO21.out.newer (by omega) hO hs)
                have HB22 := Lib.hid (HB21.out.trans hb)
                clear hR hO hs hb HX21 HR21 HT21 HO21 HB21 HP21 HZ21
                have HZ22 : Hid (B ≤ w22.heap.size) := Nat.le_trans hBw HB22.out.size
                obtain ⟨off, c0⟩ : ∃ off, w22.cell? ⟨R, 0, none⟩ = some (.slice (some ⟨sb, off, none⟩) (ps.length - 8) (ps.length - 8)) := by
                  obtain ⟨_, _, _, _, off, _, h⟩ := HP22.out
                  exact ⟨off, h.cell 0⟩
                obtain ⟨m, hm⟩ : ∃ m, m = ps.length - 8 := ⟨_, rfl⟩
                rw [← hm] at c0
                have HM := Lib.hid hm
                clear hm
                by_cases hm0 : m = 0
                case neg =>
                  have dm : ((m : Int) == 0) = false := by rw [beq_eq_false_iff_ne]; omega
                  go_wp2_with fail
                  refine (must_not _).mono ?_
                  rintro e w' ⟨rfl, rfl⟩
                  exact ⟨rfl, Cf.portAns_no (HTL.out.len (by have := HM.out; omega)), HO22.out, HB22.out⟩
                subst hm0
                go_wp2_with fail
                refine (must_ok _).mono ?_
                rintro e w' ⟨rfl, rfl⟩
                clear c0
                go_wp2_with (first | ((with_reducible refine at_load 72 (.tmp 3) ?_); refine wpList_load_own rfl 72 (.tmp 3) rfl (H + 1) rfl 72 _ _ HX22.out Tryz.underlying72 rfl (pc_info HPL) ?_) | ((with_reducible refine at_store 72 (.tmp 2) (.tmp 65) ?_); refine wpList_store_own rfl 72 (.tmp 2) (.tmp 65) rfl H _ rfl rfl 72 _ HR22.out (pc_info HPL) (by simp [byteVals_length, HPL, Cf.zeros]) (pc_one (by simp [Value.oneCell', tv_one HT22.out])) B (by omega) ?_))
                intro w23 hR hO hs hb
                have HP23 := Lib.hid (HP22.out.only ((Only.refl [H] w22).store (List.mem_singleton.2 rfl) hO hs) (by simp; omega) (by simp; omega))
                have HX23 := Lib.hid (show RowIs w23 (H + 1) 72 (.int .i64 na :: (.slice ta tn tc) :: .int .i64 nh :: .int .i64 nl :: .bool true :: .int .i64 nr :: .bool true :: byteVals bs).toArray from (hO _ (by omega)).trans HX22.out)
                have HR23 : Hid (RowIs w23 H 72 (.int .i64 na :: (.slice ta tn tc) :: .int .i64 nh :: .int .i64 nl :: .bool true :: .int .i64 nr :: .bool true :: byteVals bs).toArray) := hR
                have HT23 := Lib.hid (owns_stored HT22.out hO (by omega))
                have HO23 := Lib.hid (show Only [R] w w23 from HO22.out.newer (by omega) hO hs)
                have HB23 := Lib.hid (HB22.out.trans hb)
                clear hR hO hs hb HX22 HR22 HT22 HO22 HB22 HP22 HZ22
                have HZ23 : Hid (B ≤ w23.heap.size) := Nat.le_trans hBw HB23.out.size
                go_wp2_with fail
                exact bodyPost_ret (results_row Tryz.results40 _ _ H 72 _ _ rfl HR23.out Tryz.underlying72  rfl (pc_info HPL)) rfl ⟨Cf.portAns_yes (p := ⟨true, nr, true, bs, na, ts, nh, nl⟩) (HTL.out.good _ _ _ _ (by have := HM.out; have := HQ7.out; omega) (by rw [Cf.part_x hx4]; exact HNna.out) (by rw [Cf.part_x hx5]; exact HNts.out) (by rw [Cf.part_x hx6]; exact HNnh.out) (by rw [Cf.part_x hx7]; exact HNnl.out)) (owns_base HT23.out (by omega)) HPL, HO23.out, HB23.out⟩
end Go.Proofs.YthfckdnennfnoaaGreatDoor
