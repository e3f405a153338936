/- The walk of OctPlays. By an AI agent. -/
import Derived.Test.YtknnadnjikfibaaDoorOctBack
import Derived.Test.YtknnadnjikfibaaDoorRefIp
import Derived.Test.YtknnadnjikfibaaDoorRefSum
namespace Go.Proofs.YtknnadnjikfibaaDoor
open Go.RowKit Go.Sort

/-- both readers of a station's address -/
theorem mac_both {s : ByteArray} {e1 : Ending} (h : RefMacAns s e1) : ∃ (a b c d e f : UInt8) (ok : Bool), e1 = .returned (.tuple #[.agg #[.int .u8 (a.toNat : Int), .int .u8 (b.toNat : Int), .int .u8 (c.toNat : Int), .int .u8 (d.toNat : Int), .int .u8 (e.toNat : Int), .int .u8 (f.toNat : Int)], .bool ok]) ∧ ∀ e2, MacAns s e2 → ∃ er : Int, e2 = .returned (.tuple #[.agg #[.int .u8 (a.toNat : Int), .int .u8 (b.toNat : Int), .int .u8 (c.toNat : Int), .int .u8 (d.toNat : Int), .int .u8 (e.toNat : Int), .int .u8 (f.toNat : Int)], .int .i64 er]) ∧ (er == 0) = ok := by
  rcases h with ⟨a, b, c, d, e, f, hs, rfl⟩ | ⟨hno, rfl⟩
  · refine ⟨a, b, c, d, e, f, true, rfl, fun e2 h2 => ⟨0, ?_, rfl⟩⟩
    rcases macAns_two h2 with ⟨a', b', c', d', x', y', hs', rfl⟩ | ⟨hno, _⟩
    · rw [hs] at hs'
      have := macText_inj6 hs'
      simp only [List.cons.injEq, and_true] at this
      obtain ⟨rfl, rfl, rfl, rfl, rfl, rfl⟩ := this
      rfl
    · exact absurd hs (hno a b c d e f)
  · refine ⟨0, 0, 0, 0, 0, 0, false, rfl, fun e2 h2 => ⟨3, ?_, rfl⟩⟩
    rcases macAns_two h2 with ⟨a', b', c', d', x', y', hs', rfl⟩ | ⟨_, rfl⟩
    · exact absurd hs' (hno _ _ _ _ _ _)
    · rfl
theorem ip_both {s : ByteArray} {e1 : Ending} (h : RefIpAns s e1) : ∃ (p q r t : UInt8) (ok : Bool), e1 = .returned (.tuple #[.agg #[.int .u8 (p.toNat : Int), .int .u8 (q.toNat : Int), .int .u8 (r.toNat : Int), .int .u8 (t.toNat : Int)], .bool ok]) ∧ ∀ e2, IpAns s e2 → ∃ er : Int, e2 = .returned (.tuple #[.agg #[.int .u8 (p.toNat : Int), .int .u8 (q.toNat : Int), .int .u8 (r.toNat : Int), .int .u8 (t.toNat : Int)], .int .i64 er]) ∧ (er == 0) = ok := by
  rcases h with ⟨p, q, r, t, hs, rfl⟩ | ⟨hno, rfl⟩
  · refine ⟨p, q, r, t, true, rfl, fun e2 h2 => ⟨0, ?_, rfl⟩⟩
    rcases ipAns_two h2 with ⟨a', b', c', d', hs', rfl⟩ | ⟨hno, _⟩
    · rw [hs] at hs'
      obtain ⟨rfl, rfl, rfl, rfl⟩ := Oct.ipText_inj _ _ _ _ _ _ _ _ hs'
      rfl
    · exact absurd hs (hno p q r t)
  · refine ⟨0, 0, 0, 0, false, rfl, fun e2 h2 => ⟨3, ?_, rfl⟩⟩
    rcases ipAns_two h2 with ⟨a', b', c', d', hs', rfl⟩ | ⟨_, rfl⟩
    · exact absurd hs' (hno _ _ _ _)
    · rfl
theorem number_both (s : ByteArray) (w : World) : Calls Tryd.prog 11 #[.string s] w fun e w' => (∃ x er : Int, e = .returned (.tuple #[.int .i64 x, .int .i64 er]) ∧ ((7 < s.size ∧ x = 0 ∧ er = 1) ∨ (s.size ≤ 7 ∧ x = (Oct.num s.data.toList : Nat) ∧ er = 0))) ∧ w = w' := by
  by_cases h : s.size ≤ 7
  · refine (number_any s w h).mono ?_
    rintro e w' ⟨rfl, rfl⟩
    exact ⟨⟨_, _, rfl, .inr ⟨h, rfl, rfl⟩⟩, rfl⟩
  · refine (number_long s w (by omega)).mono ?_
    rintro e w' ⟨rfl, rfl⟩
    exact ⟨⟨_, _, rfl, .inl ⟨by omega, rfl, rfl⟩⟩, rfl⟩

set_option maxRecDepth 40000 in
set_option maxHeartbeats 40000000 in
theorem octPlays_go (n : Int) (s : ByteArray) (hs : s.size ≤ 1000) (a b c d e f p q r t : UInt8) (w : World) :
    Calls Tryd.prog 5 #[.int .i64 n, .string s, .agg #[.int .u8 (a.toNat : Int), .int .u8 (b.toNat : Int), .int .u8 (c.toNat : Int), .int .u8 (d.toNat : Int), .int .u8 (e.toNat : Int), .int .u8 (f.toNat : Int)], .agg #[.int .u8 (p.toNat : Int), .int .u8 (q.toNat : Int), .int .u8 (r.toNat : Int), .int .u8 (t.toNat : Int)]] w fun e' w' => e' = .returned (.bool true) ∧ Below w.heap.size w w' := by
  have d1000 : decide (1000 < (s.size : Int)) = false := decide_eq_false (by omega)
  obtain ⟨two, htwo⟩ : ∃ two : ByteArray, two = ⟨(Oct.two n).toArray⟩ := ⟨_, rfl⟩
  obtain ⟨four, hfour⟩ : ∃ four : ByteArray, four = ⟨(Oct.four n).toArray⟩ := ⟨_, rfl⟩
  obtain ⟨g2, hg2⟩ : ∃ g2 : Bool, g2 = (decide (0 ≤ n) && decide (n < 65536)) := ⟨_, rfl⟩
  obtain ⟨g4, hg4⟩ : ∃ g4 : Bool, g4 = (decide (0 ≤ n) && decide (n < 4294967296)) := ⟨_, rfl⟩
  have HG2 := Lib.hid hg2
  have HG4 := Lib.hid hg4
  clear hg2 hg4
  have HTWO := Lib.hid htwo
  have HFOUR := Lib.hid hfour
  clear htwo hfour
  go_enter Tryd.func5, Tryd.ntmps5
  go_wp2_with fail
  generalize hW : (w.alloc _).alloc _ = W
  have HRM : Hid (RowIs W w.heap.size 24 #[.int .u8 (a.toNat : Int), .int .u8 (b.toNat : Int), .int .u8 (c.toNat : Int), .int .u8 (d.toNat : Int), .int .u8 (e.toNat : Int), .int .u8 (f.toNat : Int)]) := by rw [← hW]; exact (rowIs_new w _ _).alloc _
  have HRI : Hid (RowIs W (w.heap.size + 1) 28 #[.int .u8 (p.toNat : Int), .int .u8 (q.toNat : Int), .int .u8 (r.toNat : Int), .int .u8 (t.toNat : Int)]) := by
    rw [← hW]
    have := rowIs_new (w.alloc (.cells #[.int .u8 (a.toNat : Int), .int .u8 (b.toNat : Int), .int .u8 (c.toNat : Int), .int .u8 (d.toNat : Int), .int .u8 (e.toNat : Int), .int .u8 (f.toNat : Int)] 24)) 28 #[.int .u8 (p.toNat : Int), .int .u8 (q.toNat : Int), .int .u8 (r.toNat : Int), .int .u8 (t.toNat : Int)]
    rwa [World.size_alloc] at this
  have hbW : Below w.heap.size w W := by rw [← hW]; exact ((Below.refl _ _).alloc (Nat.le_refl _) _).alloc (by simp) _
  clear hW
  refine (awake_any _).mono ?_
  rintro e' w1 ⟨rfl, hb1⟩
  have HRM := Lib.hid (HRM.out.kept hb1)
  have HRI := Lib.hid (HRI.out.kept hb1)
  have hbW := hbW.trans (hb1.mono hbW.size)
  clear hb1
  go_upto_region 4 with fail
  go_cut [34] (fun v wx => v = .bool g2 ∧ w1 = wx)
  case first =>
    by_cases h1 : 0 ≤ n
    · have q1 : decide (0 ≤ n) = true := decide_eq_true h1
      clear h1
      go_wp2_with fail
      go_meet
      exact ⟨by rw [HG2.out, q1]; rfl, rfl⟩
    · have q1 : decide (0 ≤ n) = false := decide_eq_false h1
      clear h1
      go_wp2_with fail
      go_meet
      exact ⟨by rw [HG2.out, q1]; rfl, rfl⟩
  case rest =>
    obtain ⟨rfl, rfl⟩ := hcut
    go_upto_if 34 with fail
    go_cut [9] (fun v wx => v = .string two ∧ Below w1.heap.size w1 wx)
    case first =>
      cases g2 with
      | true =>
        have hg : 0 ≤ n ∧ n < 65536 := by
          have := HG2.out
          have h := Bool.and_eq_true_iff.1 this.symm
          exact ⟨of_decide_eq_true h.1, of_decide_eq_true h.2⟩
        obtain ⟨m, rfl⟩ := Int.eq_ofNat_of_zero_le hg.1
        have HB := Lib.hid (fun w => refBytes_any m 2 w (by omega) (by decide))
        have HE : Hid ((⟨(Oct.be 2 m).toArray⟩ : ByteArray) = two) := by
          show _ = _
          rw [HTWO.out]
          unfold Oct.two
          rw [if_pos (by omega)]
          rfl
        clear hg
        go_wp2_with fail
        refine (HB.out _).mono ?_
        rintro e' wb ⟨rfl, hbb⟩
        rw [HE.out]
        go_wp2_with fail
        go_meet
        exact ⟨rfl, hbb⟩
      | false =>
        have hg : ¬ (0 ≤ n ∧ n < 65536) := fun h => by
          have := HG2.out
          rw [decide_eq_true h.1, decide_eq_true h.2] at this
          cases this
        have HE : Hid ((⟨#[]⟩ : ByteArray) = two) := by
          show _ = _
          rw [HTWO.out]
          unfold Oct.two
          rw [if_neg (by omega)]
        clear hg
        go_wp2_with fail
        go_meet
        exact ⟨by rw [HE.out], Below.refl _ _⟩
    case rest =>
      obtain ⟨rfl, hb1⟩ := hcut
      rename World => w2
      have HRM := Lib.hid (HRM.out.kept hb1)
      have HRI := Lib.hid (HRI.out.kept hb1)
      have hbW := hbW.trans (hb1.mono hbW.size)
      clear hb1
      go_upto_region 6 with fail
      go_cut [42] (fun v wx => v = .bool g4 ∧ w2 = wx)
      case first =>
        by_cases h1 : 0 ≤ n
        · have q1 : decide (0 ≤ n) = true := decide_eq_true h1
          clear h1
          go_wp2_with fail
          go_meet
          exact ⟨by rw [HG4.out, q1]; rfl, rfl⟩
        · have q1 : decide (0 ≤ n) = false := decide_eq_false h1
          clear h1
          go_wp2_with fail
          go_meet
          exact ⟨by rw [HG4.out, q1]; rfl, rfl⟩
      case rest =>
        obtain ⟨rfl, rfl⟩ := hcut
        go_upto_if 42 with fail
        go_cut [10] (fun v wx => v = .string four ∧ Below w2.heap.size w2 wx)
        case first =>
          cases g4 with
          | true =>
            have hg : 0 ≤ n ∧ n < 4294967296 := by
              have := HG4.out
              have h := Bool.and_eq_true_iff.1 this.symm
              exact ⟨of_decide_eq_true h.1, of_decide_eq_true h.2⟩
            obtain ⟨m, rfl⟩ := Int.eq_ofNat_of_zero_le hg.1
            have HB := Lib.hid (fun w => refBytes_any m 4 w (by omega) (by decide))
            have HE : Hid ((⟨(Oct.be 4 m).toArray⟩ : ByteArray) = four) := by
              show _ = _
              rw [HFOUR.out]
              unfold Oct.four
              rw [if_pos (by omega)]
              rfl
            clear hg
            go_wp2_with fail
            refine (HB.out _).mono ?_
            rintro e' wb ⟨rfl, hbb⟩
            rw [HE.out]
            go_wp2_with fail
            go_meet
            exact ⟨rfl, hbb⟩
          | false =>
            have hg : ¬ (0 ≤ n ∧ n < 4294967296) := fun h => by
              have := HG4.out
              rw [decide_eq_true h.1, decide_eq_true h.2] at this
              cases this
            have HE : Hid ((⟨#[]⟩ : ByteArray) = four) := by
              show _ = _
              rw [HFOUR.out]
              unfold Oct.four
              rw [if_neg (by omega)]
            clear hg
            go_wp2_with fail
            go_meet
            exact ⟨by rw [HE.out], Below.refl _ _⟩
        case rest =>
          obtain ⟨rfl, hb1⟩ := hcut
          rename World => w3
          have HRM := Lib.hid (HRM.out.kept hb1)
          have HRI := Lib.hid (HRI.out.kept hb1)
          have hbW := hbW.trans (hb1.mono hbW.size)
          clear hb1
          have HN := Lib.hid (number_both s w3)
          go_upto_region 8 with fail
          go_wp2_with fail
          refine HN.out.mono ?_
          rintro e' w4 ⟨⟨xn, er0, rfl, hxe⟩, rfl⟩
          have HXE := Lib.hid hxe
          clear hxe HN
          go_upto_region 9 with fail
          go_cut [75] (fun v wx => v = .bool false ∧ w3 = wx)
          case first =>
            rcases HXE.out with ⟨h7, rfl, rfl⟩ | ⟨h7, rfl, rfl⟩
            · have q1 : decide (7 < (s.size : Int)) = true := decide_eq_true (by omega)
              have q2 : decide ((s.size : Int) ≤ 7) = false := decide_eq_false (by omega)
              clear h7
              go_wp2_with fail
              go_meet
              exact ⟨rfl, rfl⟩
            · have q1 : decide (7 < (s.size : Int)) = false := decide_eq_false (by omega)
              have q2 : decide ((s.size : Int) ≤ 7) = true := decide_eq_true (by omega)
              have HRN := Lib.hid (refNumber_any s w3 h7)
              clear h7
              go_wp2_with fail
              refine HRN.out.mono ?_
              rintro e' w4 ⟨rfl, rfl⟩
              go_wp2_with fail
              go_meet
              exact ⟨rfl, rfl⟩
          case rest =>
            obtain ⟨rfl, rfl⟩ := hcut
            clear HXE
            go_wp2_with fail
            refine (refReadMac_any s (by omega) _).mono ?_
            rintro e' w4 ⟨hm1, hb1⟩
            obtain ⟨a1, b1, c1, d1, e1, f1, ok1, rfl, hm2⟩ := mac_both hm1
            have HM2 := Lib.hid hm2
            clear hm1 hm2
            have HRM := Lib.hid (HRM.out.kept hb1)
            have HRI := Lib.hid (HRI.out.kept hb1)
            have hbW := hbW.trans (hb1.mono hbW.size)
            clear hb1
            go_wp2_with ((with_reducible refine at_store 23 (.tmp 13) (.tmp 79) ?_); refine wpList_store_own rfl 23 (.tmp 13) (.tmp 79) rfl w4.heap.size _ rfl rfl 23 _ (rowIs_new _ _ _) infoA6 rfl (by kernel_rfl) w4.heap.size (Nat.le_refl _) ?_; intro w5 r2 _ hs2 hb2; have hb8 : Below w4.heap.size w4 w5 := ((Below.refl _ _).alloc (Nat.le_refl _) _).trans hb2; have HR13 := Lib.hid r2; have HRM := Lib.hid (HRM.out.kept hb8); have HRI := Lib.hid (HRI.out.kept hb8); have hbW := hbW.trans (hb8.mono hbW.size); clear r2 hs2 hb2 hb8)
            refine (refReadIp_any s (by omega) _).mono ?_
            rintro e' w6 ⟨hi1, hb1⟩
            obtain ⟨p1, q1, r1, t1, ok2, rfl, hi2⟩ := ip_both hi1
            have HI2 := Lib.hid hi2
            clear hi1 hi2
            have HRM := Lib.hid (HRM.out.kept hb1)
            have HRI := Lib.hid (HRI.out.kept hb1)
            have HR13 := Lib.hid (HR13.out.kept hb1)
            have hbW := hbW.trans (hb1.mono hbW.size)
            clear hb1
            go_wp2_with ((with_reducible refine at_store 28 (.tmp 15) (.tmp 84) ?_); refine wpList_store_own rfl 28 (.tmp 15) (.tmp 84) rfl w6.heap.size _ rfl rfl 28 _ (rowIs_new _ _ _) infoA4 rfl (by kernel_rfl) w6.heap.size (Nat.le_refl _) ?_; intro w7 r2 _ hs2 hb2; have hb8 : Below w6.heap.size w6 w7 := ((Below.refl _ _).alloc (Nat.le_refl _) _).trans hb2; have HR15 := Lib.hid r2; have HRM := Lib.hid (HRM.out.kept hb8); have HRI := Lib.hid (HRI.out.kept hb8); have HR13 := Lib.hid (HR13.out.kept hb8); have hbW := hbW.trans (hb8.mono hbW.size); clear r2 hs2 hb2 hb8)
            refine (readMac_any s (by omega) _).mono ?_
            rintro e' w8 ⟨hm1, hb1⟩
            obtain ⟨er1, rfl, he1⟩ := HM2.out _ hm1
            clear hm1 HM2
            have HRM := Lib.hid (HRM.out.kept hb1)
            have HRI := Lib.hid (HRI.out.kept hb1)
            have HR13 := Lib.hid (HR13.out.kept hb1)
            have HR15 := Lib.hid (HR15.out.kept hb1)
            have hbW := hbW.trans (hb1.mono hbW.size)
            clear hb1
            go_wp2_with ((with_reducible refine at_store 24 (.tmp 17) (.tmp 89) ?_); refine wpList_store_own rfl 24 (.tmp 17) (.tmp 89) rfl w8.heap.size _ rfl rfl 24 _ (rowIs_new _ _ _) infoMac' rfl (by kernel_rfl) w8.heap.size (Nat.le_refl _) ?_; intro w9 r2 _ hs2 hb2; have hb8 : Below w8.heap.size w8 w9 := ((Below.refl _ _).alloc (Nat.le_refl _) _).trans hb2; have HR17 := Lib.hid r2; have HRM := Lib.hid (HRM.out.kept hb8); have HRI := Lib.hid (HRI.out.kept hb8); have HR13 := Lib.hid (HR13.out.kept hb8); have HR15 := Lib.hid (HR15.out.kept hb8); have hbW := hbW.trans (hb8.mono hbW.size); clear r2 hs2 hb2 hb8)
            refine (readIp_any s (by omega) _).mono ?_
            rintro e' wa ⟨hi1, hb1⟩
            obtain ⟨er2, rfl, he2⟩ := HI2.out _ hi1
            clear hi1 HI2
            have HRM := Lib.hid (HRM.out.kept hb1)
            have HRI := Lib.hid (HRI.out.kept hb1)
            have HR13 := Lib.hid (HR13.out.kept hb1)
            have HR15 := Lib.hid (HR15.out.kept hb1)
            have HR17 := Lib.hid (HR17.out.kept hb1)
            have hbW := hbW.trans (hb1.mono hbW.size)
            clear hb1
            go_upto_region 15 with ((with_reducible refine at_store 28 (.tmp 19) (.tmp 94) ?_); refine wpList_store_own rfl 28 (.tmp 19) (.tmp 94) rfl wa.heap.size _ rfl rfl 28 _ (rowIs_new _ _ _) infoIp rfl (by kernel_rfl) wa.heap.size (Nat.le_refl _) ?_; intro W r2 _ hs2 hb2; have hb8 : Below wa.heap.size wa W := ((Below.refl _ _).alloc (Nat.le_refl _) _).trans hb2; have HR19 := Lib.hid r2; have HRM := Lib.hid (HRM.out.kept hb8); have HRI := Lib.hid (HRI.out.kept hb8); have HR13 := Lib.hid (HR13.out.kept hb8); have HR15 := Lib.hid (HR15.out.kept hb8); have HR17 := Lib.hid (HR17.out.kept hb8); have hbW := hbW.trans (hb8.mono hbW.size); clear r2 hs2 hb2 hb8)
            obtain ⟨mt, hmt⟩ : ∃ mt : ByteArray, mt = ⟨(Oct.macText [a, b, c, d, e, f]).toArray⟩ := ⟨_, rfl⟩
            obtain ⟨it, hit⟩ : ∃ it : ByteArray, it = ⟨(Oct.ipText p q r t).toArray⟩ := ⟨_, rfl⟩
            have HMT := Lib.hid hmt
            have HIT := Lib.hid hit
            clear hmt hit
            have CTW : Hid (∀ dd os, Calls Tryd.prog 13 #[.int .i64 n] (grow (redrawn W dd) os) fun e w'' => e = .returned (.string two) ∧ ∃ p : Regrown, w'' = grow (redrawn W p.d) p.os) := fun dd os => Calls.regrown_of ((show Calls _ _ _ _ _ from by rw [HTWO.out]; exact two_any n _))
            have CFO : Hid (∀ dd os, Calls Tryd.prog 12 #[.int .i64 n] (grow (redrawn W dd) os) fun e w'' => e = .returned (.string four) ∧ ∃ p : Regrown, w'' = grow (redrawn W p.d) p.os) := fun dd os => Calls.regrown_of ((show Calls _ _ _ _ _ from by rw [HFOUR.out]; exact four_any n _))
            have CMT : Hid (∀ dd os, Calls Tryd.prog 9 #[.agg #[.int .u8 (a.toNat : Int), .int .u8 (b.toNat : Int), .int .u8 (c.toNat : Int), .int .u8 (d.toNat : Int), .int .u8 (e.toNat : Int), .int .u8 (f.toNat : Int)]] (grow (redrawn W dd) os) fun e w'' => e = .returned (.string mt) ∧ ∃ p : Regrown, w'' = grow (redrawn W p.d) p.os) := fun dd os => Calls.regrown_of ((show Calls _ _ _ _ _ from by rw [HMT.out]; exact macText_any a b c d e f _))
            have CRM : Hid (∀ dd os, Calls Tryd.prog 18 #[.agg #[.int .u8 (a.toNat : Int), .int .u8 (b.toNat : Int), .int .u8 (c.toNat : Int), .int .u8 (d.toNat : Int), .int .u8 (e.toNat : Int), .int .u8 (f.toNat : Int)]] (grow (redrawn W dd) os) fun e w'' => e = .returned (.string mt) ∧ ∃ p : Regrown, w'' = grow (redrawn W p.d) p.os) := fun dd os => Calls.regrown_of ((show Calls _ _ _ _ _ from by rw [HMT.out]; exact refMacText_any a b c d e f _))
            have CIT : Hid (∀ dd os, Calls Tryd.prog 10 #[.agg #[.int .u8 (p.toNat : Int), .int .u8 (q.toNat : Int), .int .u8 (r.toNat : Int), .int .u8 (t.toNat : Int)]] (grow (redrawn W dd) os) fun e w'' => e = .returned (.string it) ∧ ∃ p : Regrown, w'' = grow (redrawn W p.d) p.os) := fun dd os => Calls.regrown_of ((show Calls _ _ _ _ _ from by rw [HIT.out]; exact ipText_any p q r t _))
            have CRI : Hid (∀ dd os, Calls Tryd.prog 19 #[.agg #[.int .u8 (p.toNat : Int), .int .u8 (q.toNat : Int), .int .u8 (r.toNat : Int), .int .u8 (t.toNat : Int)]] (grow (redrawn W dd) os) fun e w'' => e = .returned (.string it) ∧ ∃ p : Regrown, w'' = grow (redrawn W p.d) p.os) := fun dd os => Calls.regrown_of ((show Calls _ _ _ _ _ from by rw [HIT.out]; exact refIpText_any p q r t _))
            have CSU : Hid (∀ dd os, Calls Tryd.prog 20 #[.string s] (grow (redrawn W dd) os) fun e w'' => e = .returned (.int .i64 (Oct.sum16 s.data.toList)) ∧ ∃ p : Regrown, w'' = grow (redrawn W p.d) p.os) := fun dd os => ((fun w => sum16_any s w (by omega)) _).mono fun e w' h => ⟨h.1, ⟨⟨dd, os⟩, h.2.symm⟩⟩
            have CRS : Hid (∀ dd os, Calls Tryd.prog 21 #[.string s] (grow (redrawn W dd) os) fun e w'' => e = .returned (.int .i64 (Oct.sum16 s.data.toList)) ∧ ∃ p : Regrown, w'' = grow (redrawn W p.d) p.os) := fun dd os => Calls.regrown_of ((fun w => refSum16_any s w (by omega)) _)
            have CGR : Hid (∀ dd os, Calls Tryd.prog 22 #[.agg #[.int .u8 (a.toNat : Int), .int .u8 (b.toNat : Int), .int .u8 (c.toNat : Int), .int .u8 (d.toNat : Int), .int .u8 (e.toNat : Int), .int .u8 (f.toNat : Int)]] (grow (redrawn W dd) os) fun e w'' => e = .returned (.bool (decide (a.toNat % 2 = 1))) ∧ ∃ p : Regrown, w'' = grow (redrawn W p.d) p.os) := fun dd os => Calls.regrown_of (group_any a b c d e f _)
            have kx0 := cell_regrown (HR17.out.cell 0)
            try simp only [List.getElem?_toArray, List.getElem?_cons_zero, List.getElem?_cons_succ] at kx0
            have kx1 := cell_regrown (HR17.out.cell 1)
            try simp only [List.getElem?_toArray, List.getElem?_cons_zero, List.getElem?_cons_succ] at kx1
            have kx2 := cell_regrown (HR17.out.cell 2)
            try simp only [List.getElem?_toArray, List.getElem?_cons_zero, List.getElem?_cons_succ] at kx2
            have kx3 := cell_regrown (HR17.out.cell 3)
            try simp only [List.getElem?_toArray, List.getElem?_cons_zero, List.getElem?_cons_succ] at kx3
            have kx4 := cell_regrown (HR17.out.cell 4)
            try simp only [List.getElem?_toArray, List.getElem?_cons_zero, List.getElem?_cons_succ] at kx4
            have kx5 := cell_regrown (HR17.out.cell 5)
            try simp only [List.getElem?_toArray, List.getElem?_cons_zero, List.getElem?_cons_succ] at kx5
            have ky0 := cell_regrown (HR13.out.cell 0)
            try simp only [List.getElem?_toArray, List.getElem?_cons_zero, List.getElem?_cons_succ] at ky0
            have ky1 := cell_regrown (HR13.out.cell 1)
            try simp only [List.getElem?_toArray, List.getElem?_cons_zero, List.getElem?_cons_succ] at ky1
            have ky2 := cell_regrown (HR13.out.cell 2)
            try simp only [List.getElem?_toArray, List.getElem?_cons_zero, List.getElem?_cons_succ] at ky2
            have ky3 := cell_regrown (HR13.out.cell 3)
            try simp only [List.getElem?_toArray, List.getElem?_cons_zero, List.getElem?_cons_succ] at ky3
            have ky4 := cell_regrown (HR13.out.cell 4)
            try simp only [List.getElem?_toArray, List.getElem?_cons_zero, List.getElem?_cons_succ] at ky4
            have ky5 := cell_regrown (HR13.out.cell 5)
            try simp only [List.getElem?_toArray, List.getElem?_cons_zero, List.getElem?_cons_succ] at ky5
            have kz0 := cell_regrown (HR19.out.cell 0)
            try simp only [List.getElem?_toArray, List.getElem?_cons_zero, List.getElem?_cons_succ] at kz0
            have kz1 := cell_regrown (HR19.out.cell 1)
            try simp only [List.getElem?_toArray, List.getElem?_cons_zero, List.getElem?_cons_succ] at kz1
            have kz2 := cell_regrown (HR19.out.cell 2)
            try simp only [List.getElem?_toArray, List.getElem?_cons_zero, List.getElem?_cons_succ] at kz2
            have kz3 := cell_regrown (HR19.out.cell 3)
            try simp only [List.getElem?_toArray, List.getElem?_cons_zero, List.getElem?_cons_succ] at kz3
            have kw0 := cell_regrown (HR15.out.cell 0)
            try simp only [List.getElem?_toArray, List.getElem?_cons_zero, List.getElem?_cons_succ] at kw0
            have kw1 := cell_regrown (HR15.out.cell 1)
            try simp only [List.getElem?_toArray, List.getElem?_cons_zero, List.getElem?_cons_succ] at kw1
            have kw2 := cell_regrown (HR15.out.cell 2)
            try simp only [List.getElem?_toArray, List.getElem?_cons_zero, List.getElem?_cons_succ] at kw2
            have kw3 := cell_regrown (HR15.out.cell 3)
            try simp only [List.getElem?_toArray, List.getElem?_cons_zero, List.getElem?_cons_succ] at kw3
            have km0 := cell_regrown (HRM.out.cell 0)
            try simp only [List.getElem?_toArray, List.getElem?_cons_zero, List.getElem?_cons_succ] at km0
            have km1 := cell_regrown (HRM.out.cell 1)
            try simp only [List.getElem?_toArray, List.getElem?_cons_zero, List.getElem?_cons_succ] at km1
            have km2 := cell_regrown (HRM.out.cell 2)
            try simp only [List.getElem?_toArray, List.getElem?_cons_zero, List.getElem?_cons_succ] at km2
            have km3 := cell_regrown (HRM.out.cell 3)
            try simp only [List.getElem?_toArray, List.getElem?_cons_zero, List.getElem?_cons_succ] at km3
            have km4 := cell_regrown (HRM.out.cell 4)
            try simp only [List.getElem?_toArray, List.getElem?_cons_zero, List.getElem?_cons_succ] at km4
            have km5 := cell_regrown (HRM.out.cell 5)
            try simp only [List.getElem?_toArray, List.getElem?_cons_zero, List.getElem?_cons_succ] at km5
            have ki0 := cell_regrown (HRI.out.cell 0)
            try simp only [List.getElem?_toArray, List.getElem?_cons_zero, List.getElem?_cons_succ] at ki0
            have ki1 := cell_regrown (HRI.out.cell 1)
            try simp only [List.getElem?_toArray, List.getElem?_cons_zero, List.getElem?_cons_succ] at ki1
            have ki2 := cell_regrown (HRI.out.cell 2)
            try simp only [List.getElem?_toArray, List.getElem?_cons_zero, List.getElem?_cons_succ] at ki2
            have ki3 := cell_regrown (HRI.out.cell 3)
            try simp only [List.getElem?_toArray, List.getElem?_cons_zero, List.getElem?_cons_succ] at ki3
            have ea := run_equalIn_mac 9998 a1 b1 c1 d1 e1 f1 a1 b1 c1 d1 e1 f1
            have eb := run_equalIn_ip 9998 p1 q1 r1 t1 p1 q1 r1 t1
            rw [show eqB [a1, b1, c1, d1, e1, f1] [a1, b1, c1, d1, e1, f1] = true from eqB_true.2 rfl] at ea
            rw [show eqB [p1, q1, r1, t1] [p1, q1, r1, t1] = true from eqB_true.2 rfl] at eb
            have hodd : (decide (a.toNat % 2 = 1) == (((a.toNat : Int)).tmod 2 == 1)) = true := by
              rw [Int.tmod_eq_emod_of_nonneg (by omega)]
              rcases Nat.mod_two_eq_zero_or_one a.toNat with h | h
              · rw [show ((a.toNat : Int)) % 2 = 0 by omega, h]; rfl
              · rw [show ((a.toNat : Int)) % 2 = 1 by omega, h]; rfl
            clear d1000 HTWO HFOUR HMT HIT HR17 HR13 HR19 HR15 HRM HRI HG2 HG4
            refine wp_region_quiet_below (by kernel_rfl) (by kernel_rfl) ?_
            repeat (quiet_step (first | (with_reducible exact CTW.out _ _) | (with_reducible exact CFO.out _ _) | (with_reducible exact CMT.out _ _) | (with_reducible exact CRM.out _ _) | (with_reducible exact CIT.out _ _) | (with_reducible exact CRI.out _ _) | (with_reducible exact CSU.out _ _) | (with_reducible exact CRS.out _ _) | (with_reducible exact CGR.out _ _)))
            refine wpQuiet_nil ?_
            intro _ hw'
            obtain ⟨⟨dq, osq⟩, hw''⟩ := hw'
            subst hw''
            have b3 := below_regrown W dq osq
            generalize grow (redrawn W dq) osq = W3 at *
            go_wp2_with fail
            go_ret
            exact ⟨rfl, hbW.trans (b3.mono hbW.size)⟩
theorem octPlays_walk (n : Int) (hn : (Lit.int .i64 n).wf = true) (s : ByteArray) (a b c d e f p q r t : UInt8) (w : World) :
    Calls Tryd.prog 5 #[.int .i64 n, .string s, .agg #[.int .u8 (a.toNat : Int), .int .u8 (b.toNat : Int), .int .u8 (c.toNat : Int), .int .u8 (d.toNat : Int), .int .u8 (e.toNat : Int), .int .u8 (f.toNat : Int)], .agg #[.int .u8 (p.toNat : Int), .int .u8 (q.toNat : Int), .int .u8 (r.toNat : Int), .int .u8 (t.toNat : Int)]] w fun e' w' => e' = .returned (.bool true) ∧ Below w.heap.size w w' := by
  by_cases hs : 1000 < s.size
  · go_enter Tryd.func5, Tryd.ntmps5
    go_wp2_with fail
    generalize hW : (w.alloc _).alloc _ = W
    have hbW : Below w.heap.size w W := by rw [← hW]; exact ((Below.refl _ _).alloc (Nat.le_refl _) _).alloc (by simp) _
    clear hW
    refine (awake_any _).mono ?_
    rintro e' w1 ⟨rfl, hb1⟩
    have hbW := hbW.trans (hb1.mono hbW.size)
    clear hb1
    go_wp2_with fail
    refine (awake_any _).mono ?_
    rintro e' w2 ⟨rfl, hb2⟩
    have hbW := hbW.trans (hb2.mono hbW.size)
    clear hb2
    go_wp2_with fail
    go_ret
    exact ⟨rfl, hbW⟩
  · exact octPlays_go n s (by omega) a b c d e f p q r t w
end Go.Proofs.YtknnadnjikfibaaDoor
