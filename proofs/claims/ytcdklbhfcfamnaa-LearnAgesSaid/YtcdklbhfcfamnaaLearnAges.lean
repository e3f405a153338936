/- The walk of LearnAges. By an AI agent. -/
import Derived.Test.YtcdklbhfcfamnaaLearnTick
import Derived.Test.YtcdklbhfcfamnaaLearnMoves
import Derived.Test.YtcdklbhfcfamnaaArrays
namespace Go.Proofs.Ytcdklbhfcfamnaa
open Go.RowKit Go.MapKept Go.Maps Go.WideShapes Go.Sort Grow

theorem tick_nil (w : World) : Calls Try.prog 14 #[.pointer none] w fun e w' => (∃ v, e = .returned v) ∧ Below w.heap.size w w' := by
  go_enter Try.func14, Try.ntmps14
  go_wp2_with fail
  refine bodyPost_ret (results_none rfl _ _ _) rfl ?_
  exact ⟨⟨_, rfl⟩, (Below.refl _ w).alloc (Nat.le_refl _) _⟩

theorem find_nil (v : Int) (m : Mac6) (w : World) : Calls Try.prog 12 #[.pointer none, .int .i64 v, .agg #[.int .u8 (m.a.toNat : Int), .int .u8 (m.b.toNat : Int), .int .u8 (m.c.toNat : Int), .int .u8 (m.d.toNat : Int), .int .u8 (m.e.toNat : Int), .int .u8 (m.f.toNat : Int)]] w fun e w' => e = .returned (.tuple #[.int .i64 0, .bool false]) ∧ Below w.heap.size w w' := by
  go_enter Try.func12, Try.ntmps12
  go_wp2_with fail
  go_ret2
  exact ⟨rfl, (Below.refl _ w).alloc (Nat.le_refl _) _⟩

theorem may_nil (v : Int) (m : Mac6) (p : Int) (w : World) : Calls Try.prog 27 #[.pointer none, .int .i64 v, .agg #[.int .u8 (m.a.toNat : Int), .int .u8 (m.b.toNat : Int), .int .u8 (m.c.toNat : Int), .int .u8 (m.d.toNat : Int), .int .u8 (m.e.toNat : Int), .int .u8 (m.f.toNat : Int)], .int .i64 p] w fun e w' => e = .returned (.int .i64 1) ∧ Below w.heap.size w w' := by
  go_enter Try.func27, Try.ntmps27
  go_wp2_with fail
  go_ret
  exact ⟨rfl, (Below.refl _ w).alloc (Nat.le_refl _) _⟩

theorem learn_nil (v : Int) (m : Mac6) (p : Int) (w : World) : Calls Try.prog 11 #[.pointer none, .int .i64 v, .agg #[.int .u8 (m.a.toNat : Int), .int .u8 (m.b.toNat : Int), .int .u8 (m.c.toNat : Int), .int .u8 (m.d.toNat : Int), .int .u8 (m.e.toNat : Int), .int .u8 (m.f.toNat : Int)], .int .i64 p] w fun e w' => e = .returned (.int .i64 1) ∧ Below w.heap.size w w' := by
  have HR : Hid (RowIs (w.alloc (.cells #[.int .u8 (m.a.toNat : Int), .int .u8 (m.b.toNat : Int), .int .u8 (m.c.toNat : Int), .int .u8 (m.d.toNat : Int), .int .u8 (m.e.toNat : Int), .int .u8 (m.f.toNat : Int)] 23)) w.heap.size 23 #[.int .u8 (m.a.toNat : Int), .int .u8 (m.b.toNat : Int), .int .u8 (m.c.toNat : Int), .int .u8 (m.d.toNat : Int), .int .u8 (m.e.toNat : Int), .int .u8 (m.f.toNat : Int)]) := rowIs_new w 23 #[.int .u8 (m.a.toNat : Int), .int .u8 (m.b.toNat : Int), .int .u8 (m.c.toNat : Int), .int .u8 (m.d.toNat : Int), .int .u8 (m.e.toNat : Int), .int .u8 (m.f.toNat : Int)]
  have hbW : Below w.heap.size w (w.alloc (.cells #[.int .u8 (m.a.toNat : Int), .int .u8 (m.b.toNat : Int), .int .u8 (m.c.toNat : Int), .int .u8 (m.d.toNat : Int), .int .u8 (m.e.toNat : Int), .int .u8 (m.f.toNat : Int)] 23)) := (Below.refl _ w).alloc (Nat.le_refl _) _
  go_enter Try.func11, Try.ntmps11
  go_wp2_with ((with_reducible refine at_load 23 (.tmp 6) ?_); refine wpList_load_own rfl 23 (.tmp 6) rfl _ rfl _ _ _ HR.out Try.underlying23 rfl info_mac ?_)
  refine (may_nil v m p _).mono ?_
  rintro e w1 ⟨rfl, hb1⟩
  have hbW := hbW.trans (hb1.mono hbW.size)
  clear hb1
  go_wp2_with fail
  go_ret
  exact ⟨rfl, hbW⟩

theorem fix_nil (v : Int) (m : Mac6) (p : Int) (w : World) : Calls Try.prog 17 #[.pointer none, .int .i64 v, .agg #[.int .u8 (m.a.toNat : Int), .int .u8 (m.b.toNat : Int), .int .u8 (m.c.toNat : Int), .int .u8 (m.d.toNat : Int), .int .u8 (m.e.toNat : Int), .int .u8 (m.f.toNat : Int)], .int .i64 p] w fun e w' => e = .returned (.int .i64 1) ∧ Below w.heap.size w w' := by
  have HR : Hid (RowIs (w.alloc (.cells #[.int .u8 (m.a.toNat : Int), .int .u8 (m.b.toNat : Int), .int .u8 (m.c.toNat : Int), .int .u8 (m.d.toNat : Int), .int .u8 (m.e.toNat : Int), .int .u8 (m.f.toNat : Int)] 23)) w.heap.size 23 #[.int .u8 (m.a.toNat : Int), .int .u8 (m.b.toNat : Int), .int .u8 (m.c.toNat : Int), .int .u8 (m.d.toNat : Int), .int .u8 (m.e.toNat : Int), .int .u8 (m.f.toNat : Int)]) := rowIs_new w 23 #[.int .u8 (m.a.toNat : Int), .int .u8 (m.b.toNat : Int), .int .u8 (m.c.toNat : Int), .int .u8 (m.d.toNat : Int), .int .u8 (m.e.toNat : Int), .int .u8 (m.f.toNat : Int)]
  have hbW : Below w.heap.size w (w.alloc (.cells #[.int .u8 (m.a.toNat : Int), .int .u8 (m.b.toNat : Int), .int .u8 (m.c.toNat : Int), .int .u8 (m.d.toNat : Int), .int .u8 (m.e.toNat : Int), .int .u8 (m.f.toNat : Int)] 23)) := (Below.refl _ w).alloc (Nat.le_refl _) _
  go_enter Try.func17, Try.ntmps17
  go_wp2_with ((with_reducible refine at_load 23 (.tmp 6) ?_); refine wpList_load_own rfl 23 (.tmp 6) rfl _ rfl _ _ _ HR.out Try.underlying23 rfl info_mac ?_)
  refine (may_nil v m p _).mono ?_
  rintro e w1 ⟨rfl, hb1⟩
  have hbW := hbW.trans (hb1.mono hbW.size)
  clear hb1
  go_wp2_with fail
  go_ret
  exact ⟨rfl, hbW⟩

theorem clear_nil (p : Int) (w : World) : Calls Try.prog 16 #[.pointer none, .int .i64 p] w fun e w' => e = .returned (.int .i64 0) ∧ Below w.heap.size w w' := by
  go_enter Try.func16, Try.ntmps16
  go_wp2_with fail
  go_ret
  exact ⟨rfl, (Below.refl _ w).alloc (Nat.le_refl _) _⟩

theorem drop_nil (p : Int) (w : World) : Calls Try.prog 13 #[.pointer none, .int .i64 p] w fun e w' => e = .returned (.int .i64 0) ∧ Below w.heap.size w w' := by
  go_enter Try.func13, Try.ntmps13
  go_wp2_with fail
  go_ret
  exact ⟨rfl, (Below.refl _ w).alloc (Nat.le_refl _) _⟩

theorem all_nil (w : World) : Calls Try.prog 15 #[.pointer none] w fun e w' => e = .returned (.slice none 0 0) ∧ Below w.heap.size w w' := by
  go_enter Try.func15, Try.ntmps15
  go_wp2_with fail
  go_ret
  exact ⟨rfl, Below.refl _ w⟩

theorem xor_u8 (a b : UInt8) : bits .xor .u8 (a.toNat : Int) (b.toNat : Int) = ((a ^^^ b).toNat : Int) := by
  have e : ∀ x : UInt8, (BitVec.ofInt 8 (x.toNat : Int)).toNat = x.toNat := fun x => by
    have := x.toNat_lt
    rw [BitVec.toNat_ofInt]
    omega
  show IntKind.u8.wrap ((BitVec.ofInt 8 (a.toNat : Int) ^^^ BitVec.ofInt 8 (b.toNat : Int)).toNat : Nat) = _
  rw [BitVec.toNat_xor, e, e, UInt8.toNat_xor]
  have h := (a ^^^ b).toNat_lt
  rw [UInt8.toNat_xor] at h
  rw [IntKind.wrap_u8']
  omega
theorem grp_xor (a : UInt8) : grp ((a &&& 254) ^^^ 2) = false := by
  have h : (((a &&& 254) ^^^ 2) &&& 1).toNat = 0 := by
    rw [UInt8.toNat_and, UInt8.toNat_xor, UInt8.toNat_and]
    show (a.toNat &&& 254 ^^^ 2) &&& 1 = 0
    rw [Nat.and_one_is_mod]
    have : (a.toNat &&& 254 ^^^ 2) % 2 ^ 1 = 0 := by
      rw [Nat.xor_mod_two_pow, Nat.and_mod_two_pow]
      simp
    exact this
  unfold grp
  rw [Bool.eq_false_iff]
  intro h2
  rw [beq_iff_eq] at h2
  rw [h2] at h
  cases h

/-- the table behind k ticks -/
def agesL (n : Int) (m o : Mac6) (k : Int) : List Ent := ⟨3, o, 1, k, true⟩ :: (if k < n then [⟨3, m, 0, k, false⟩] else [])
theorem ages_tick (n : Int) (m o : Mac6) (k : Int) (hk : k < n) : tickL n (agesL n m o k) = agesL n m o (k + 1) := by
  unfold tickL agesL
  rw [if_pos hk]
  by_cases h : k + 1 < n
  · rw [if_pos h]
    simp [Ent.older, Ent.stays, Ent.goes, Int.not_le.2 h]
  · rw [if_neg h]
    simp [Ent.older, Ent.stays, Ent.goes, Int.not_lt.1 h]

set_option maxRecDepth 20000 in
set_option maxHeartbeats 4000000 in
theorem learnAges_go (g : Nat) (hg : g < 256) (m0 o0 : Mac6) (w : World) :
    Calls Try.prog 8 #[.int .u8 g, .agg #[.int .u8 (m0.a.toNat : Int), .int .u8 (m0.b.toNat : Int), .int .u8 (m0.c.toNat : Int), .int .u8 (m0.d.toNat : Int), .int .u8 (m0.e.toNat : Int), .int .u8 (m0.f.toNat : Int)], .agg #[.int .u8 (o0.a.toNat : Int), .int .u8 (o0.b.toNat : Int), .int .u8 (o0.c.toNat : Int), .int .u8 (o0.d.toNat : Int), .int .u8 (o0.e.toNat : Int), .int .u8 (o0.f.toNat : Int)]] w fun e w' => e = .returned (.bool true) ∧ Below w.heap.size w w' := by
  have hand := and254 m0.a
  have hando := and254 o0.a
  have hxor : bits .xor .u8 (((o0.a.toNat &&& 254 : Nat)) : Int) 2 = ((o0.a.toNat &&& 254 ^^^ 2 : Nat) : Int) := by
    have := xor_u8 (o0.a &&& 254) 2
    rw [UInt8.toNat_xor, UInt8.toNat_and] at this
    exact this
  have RM : Hid (RowIs ((w.alloc (.cells #[.int .u8 (m0.a.toNat : Int), .int .u8 (m0.b.toNat : Int), .int .u8 (m0.c.toNat : Int), .int .u8 (m0.d.toNat : Int), .int .u8 (m0.e.toNat : Int), .int .u8 (m0.f.toNat : Int)] 23)).alloc (.cells #[.int .u8 (o0.a.toNat : Int), .int .u8 (o0.b.toNat : Int), .int .u8 (o0.c.toNat : Int), .int .u8 (o0.d.toNat : Int), .int .u8 (o0.e.toNat : Int), .int .u8 (o0.f.toNat : Int)] 23)) w.heap.size 23 #[.int .u8 (m0.a.toNat : Int), .int .u8 (m0.b.toNat : Int), .int .u8 (m0.c.toNat : Int), .int .u8 (m0.d.toNat : Int), .int .u8 (m0.e.toNat : Int), .int .u8 (m0.f.toNat : Int)]) := (rowIs_new w _ _).alloc _
  have RO : Hid (RowIs ((w.alloc (.cells #[.int .u8 (m0.a.toNat : Int), .int .u8 (m0.b.toNat : Int), .int .u8 (m0.c.toNat : Int), .int .u8 (m0.d.toNat : Int), .int .u8 (m0.e.toNat : Int), .int .u8 (m0.f.toNat : Int)] 23)).alloc (.cells #[.int .u8 (o0.a.toNat : Int), .int .u8 (o0.b.toNat : Int), .int .u8 (o0.c.toNat : Int), .int .u8 (o0.d.toNat : Int), .int .u8 (o0.e.toNat : Int), .int .u8 (o0.f.toNat : Int)] 23)) (w.heap.size + 1) 23 #[.int .u8 (o0.a.toNat : Int), .int .u8 (o0.b.toNat : Int), .int .u8 (o0.c.toNat : Int), .int .u8 (o0.d.toNat : Int), .int .u8 (o0.e.toNat : Int), .int .u8 (o0.f.toNat : Int)]) := rowIs_new1 w _ _ _
  have hbW : Below w.heap.size w ((w.alloc (.cells #[.int .u8 (m0.a.toNat : Int), .int .u8 (m0.b.toNat : Int), .int .u8 (m0.c.toNat : Int), .int .u8 (m0.d.toNat : Int), .int .u8 (m0.e.toNat : Int), .int .u8 (m0.f.toNat : Int)] 23)).alloc (.cells #[.int .u8 (o0.a.toNat : Int), .int .u8 (o0.b.toNat : Int), .int .u8 (o0.c.toNat : Int), .int .u8 (o0.d.toNat : Int), .int .u8 (o0.e.toNat : Int), .int .u8 (o0.f.toNat : Int)] 23)) := ((Below.refl _ w).alloc (Nat.le_refl _) _).alloc (by simp) _
  go_enter Try.func8, Try.ntmps8
  go_upto_region 1 with fail
  generalize ((w.alloc (.cells #[.int .u8 (m0.a.toNat : Int), .int .u8 (m0.b.toNat : Int), .int .u8 (m0.c.toNat : Int), .int .u8 (m0.d.toNat : Int), .int .u8 (m0.e.toNat : Int), .int .u8 (m0.f.toNat : Int)] 23)).alloc (.cells #[.int .u8 (o0.a.toNat : Int), .int .u8 (o0.b.toNat : Int), .int .u8 (o0.c.toNat : Int), .int .u8 (o0.d.toNat : Int), .int .u8 (o0.e.toNat : Int), .int .u8 (o0.f.toNat : Int)] 23)) = W at *
  go_upto_region 2 with fail
  have hn : 1 ≤ 1 + (g : Int) % 40 ∧ 1 + (g : Int) % 40 ≤ 40 := by omega
  generalize 1 + (g : Int) % 40 = n at *
  have hbS : Below W.heap.size W (W.alloc (.cells #[.int .i64 5, .int .i64 5] 3)) := (Below.refl _ W).alloc (Nat.le_refl _) _
  have HN := Lib.hid (new_ok n (by omega) (some ⟨W.heap.size, 0, none⟩) [5, 5] 2 (W.alloc (.cells #[.int .i64 5, .int .i64 5] 3)) (ints_new W [5, 5]) (by decide) (by decide))
  go_wp2_with fail
  refine HN.out.mono ?_
  rintro e w2 ⟨T, M, rfl, hT, hb2⟩
  have RM2 := Lib.hid ((RM.out.kept hbS).kept hb2)
  have RO2 := Lib.hid ((RO.out.kept hbS).kept hb2)
  have hs0 := RO.out.lt
  have hbW := (hbW.trans (hbS.mono hbW.size)).trans (hb2.mono (Nat.le_trans hbW.size hbS.size))
  have hB1 := hbS.size
  clear RM RO hb2 hbS HN
  generalize (W.alloc (.cells #[.int .i64 5, .int .i64 5] 3)).heap.size = BB at *
  have HTa := Lib.hid hT
  clear hT
  go_wp2_with fail
  refine (awake_any _).mono ?_
  rintro e w3 ⟨rfl, hb3⟩
  have RM3 := Lib.hid (RM2.out.kept hb3)
  have RO3 := Lib.hid (RO2.out.kept hb3)
  have hT3 := HTa.out.later hb3
  have hbW := hbW.trans (hb3.mono hbW.size)
  clear RM2 RO2 hb3
  have HT3 := Lib.hid hT3
  clear hT3 HTa
  have c0 : w3.cell? ⟨w.heap.size, 0, none⟩ = some (.int .u8 (m0.a.toNat : Int)) := RM3.out.cell 0
  go_wp2_with ((with_reducible refine at_store 5 (.tmp 37) (.tmp 36) ?_); refine wpList_store_cell rfl 5 (.tmp 37) (.tmp 36) rfl w.heap.size 0 _ rfl rfl 23 _ RM3.out (by simp) (by kernel_rfl) rfl w.heap.size (Nat.le_refl _) ?_)
  intro w4 hR4 hoth4 hsz4 hb4
  have RM4 := Lib.hid hR4
  have RO4 : Hid (RowIs w4 (w.heap.size + 1) 23 #[.int .u8 (o0.a.toNat : Int), .int .u8 (o0.b.toNat : Int), .int .u8 (o0.c.toNat : Int), .int .u8 (o0.d.toNat : Int), .int .u8 (o0.e.toNat : Int), .int .u8 (o0.f.toNat : Int)]) := (hoth4 _ (by omega)).trans RO3.out
  have HT4 := Lib.hid (HT3.out.apart hoth4 (Nat.lt_of_succ_lt hs0) hB1)
  have hbW := hbW.trans hb4
  clear hR4 hoth4 hb4 c0 HT3 RM3 RO3
  have c0 : w4.cell? ⟨w.heap.size + 1, 0, none⟩ = some (.int .u8 (o0.a.toNat : Int)) := RO4.out.cell 0
  go_wp2_with ((with_reducible refine at_store 5 (.tmp 42) (.tmp 41) ?_); refine wpList_store_cell rfl 5 (.tmp 42) (.tmp 41) rfl (w.heap.size + 1) 0 _ rfl rfl 23 _ RO4.out (by simp) (by kernel_rfl) rfl w.heap.size (by omega) ?_)
  intro w5 hR5 hoth5 hsz5 hb5
  obtain ⟨m, hm⟩ : ∃ m : Mac6, m = ⟨m0.a &&& 254, m0.b, m0.c, m0.d, m0.e, m0.f⟩ := ⟨_, rfl⟩
  obtain ⟨o, ho⟩ : ∃ o : Mac6, o = ⟨(o0.a &&& 254) ^^^ 2, o0.b, o0.c, o0.d, o0.e, o0.f⟩ := ⟨_, rfl⟩
  have hgm : grp m.a = false := by rw [hm]; exact grp254 _
  have hgo : grp o.a = false := by rw [ho]; exact grp_xor _
  have RM : Hid (RowIs w5 w.heap.size 23 #[.int .u8 (m.a.toNat : Int), .int .u8 (m.b.toNat : Int), .int .u8 (m.c.toNat : Int), .int .u8 (m.d.toNat : Int), .int .u8 (m.e.toNat : Int), .int .u8 (m.f.toNat : Int)]) := by
    show RowIs _ _ _ _
    rw [hm]
    exact (hoth5 _ (by omega)).trans RM4.out
  have RO : Hid (RowIs w5 (w.heap.size + 1) 23 #[.int .u8 (o.a.toNat : Int), .int .u8 (o.b.toNat : Int), .int .u8 (o.c.toNat : Int), .int .u8 (o.d.toNat : Int), .int .u8 (o.e.toNat : Int), .int .u8 (o.f.toNat : Int)]) := by
    show RowIs _ _ _ _
    rw [ho]
    exact hR5
  have hT5 := HT4.out.apart hoth5 hs0 hB1
  have hbW := hbW.trans hb5
  have hBM := hT5.baseM
  have hMw : w.heap.size ≤ M := by omega
  have hM4 : w.heap.size ≠ M := by omega
  have hM5 : w.heap.size + 1 ≠ M := by omega
  clear hR5 hoth5 hsz5 hb5 c0 RM4 RO4 HT4 hm ho hand hando hxor hs0 hB1 hBM hsz4
  have HT5 := Lib.hid hT5
  clear hT5
  go_upto_region 7 with fail
  have m1 := run_equalIn_mac 9998 m.a m.b m.c m.d m.e m.f o.a o.b o.c o.d o.e o.f
  cases hq : eqB [m.a, m.b, m.c, m.d, m.e, m.f] [o.a, o.b, o.c, o.d, o.e, o.f]
  · rw [hq] at m1
    have hne : m ≠ o := fun e => by
      rw [e] at hq
      exact absurd (eqB_true.2 rfl) (by rw [hq]; decide)
    clear hq
    have hm3 : mayBad [5, 5] 3 m 0 = false := by
      unfold mayBad
      rw [hgm]
      rfl
    have ho3 : mayBad [5, 5] 3 o 1 = false := by
      unfold mayBad
      rw [hgo]
      rfl
    have H := Lib.hid (learn_new _ T M n [5, 5] [] 3 m 0 w5 HT5.out (by decide) (by decide) hm3 (by rintro ⟨e, he, _⟩; cases he) (by decide))
    go_wp2_with (first | ((with_reducible refine at_load 23 (.tmp 4) ?_); refine wpList_load_own rfl 23 (.tmp 4) rfl _ rfl _ _ _ RM.out Try.underlying23 rfl info_mac ?_) | ((with_reducible refine at_load 23 (.tmp 5) ?_); refine wpList_load_own rfl 23 (.tmp 5) rfl _ rfl _ _ _ RO.out Try.underlying23 rfl info_mac ?_))
    refine H.out.mono ?_
    rintro e w6 ⟨rfl, hT6, hg6⟩
    have hbW := hbW.grown hg6 hbW.size (fun k e => by
      cases e
      exact hMw)
    have RM : Hid (RowIs w6 w.heap.size 23 #[.int .u8 (m.a.toNat : Int), .int .u8 (m.b.toNat : Int), .int .u8 (m.c.toNat : Int), .int .u8 (m.d.toNat : Int), .int .u8 (m.e.toNat : Int), .int .u8 (m.f.toNat : Int)]) := (hg6.block w.heap.size RM.out.lt (fun e => hM4 (by cases e; rfl))).trans RM.out
    have RO : Hid (RowIs w6 (w.heap.size + 1) 23 #[.int .u8 (o.a.toNat : Int), .int .u8 (o.b.toNat : Int), .int .u8 (o.c.toNat : Int), .int .u8 (o.d.toNat : Int), .int .u8 (o.e.toNat : Int), .int .u8 (o.f.toNat : Int)]) := (hg6.block (w.heap.size + 1) RO.out.lt (fun e => hM5 (by cases e; rfl))).trans RO.out
    clear hg6 H HT5
    have hnk : ¬ HasKey [(⟨3, m, 0, 0, false⟩ : Ent)] 3 o := by
      rintro ⟨e, he, _, h2⟩
      obtain rfl := List.mem_singleton.1 he
      exact hne h2
    obtain ⟨xk, hxk⟩ := keyOf_learn 3 ⟨by decide, by decide⟩ o
    have H := Lib.hid (fix_put _ T M n [5, 5] _ (agesL n m o 0) 3 o 1 w6 hT6 (by
      intro e he
      unfold agesL at he
      rw [if_pos (by omega)] at he
      rcases List.mem_cons.1 he with rfl | he
      · exact (show I64 3 from ⟨by decide, by decide⟩)
      · obtain rfl := List.mem_singleton.1 he
        exact (show I64 3 from ⟨by decide, by decide⟩)) (fun w' hb' => may_new _ T M n [5, 5] _ 3 ⟨by decide, by decide⟩ o 1 w' (hT6.later hb') ho3 hnk) (fun w' hM => by
      have := run_update_newP learn_keyed Try.underlying61 hM hxk (no_key hnk) (placeV 1 0 true)
      have e1 : (agesL n m o 0).map Ent.kv = (keyV 3 o, placeV 1 0 true) :: [(⟨3, m, 0, 0, false⟩ : Ent)].map Ent.kv := by
        unfold agesL
        rw [if_pos (by omega)]
        rfl
      rw [e1]
      exact this))
    clear hT6 hxk
    go_wp2_with (first | ((with_reducible refine at_load 23 (.tmp 4) ?_); refine wpList_load_own rfl 23 (.tmp 4) rfl _ rfl _ _ _ RM.out Try.underlying23 rfl info_mac ?_) | ((with_reducible refine at_load 23 (.tmp 5) ?_); refine wpList_load_own rfl 23 (.tmp 5) rfl _ rfl _ _ _ RO.out Try.underlying23 rfl info_mac ?_))
    refine H.out.mono ?_
    rintro e w7 ⟨rfl, hT7, hg7⟩
    have hbW := hbW.grown hg7 hbW.size (fun k e => by
      cases e
      exact hMw)
    have RM : Hid (RowIs w7 w.heap.size 23 #[.int .u8 (m.a.toNat : Int), .int .u8 (m.b.toNat : Int), .int .u8 (m.c.toNat : Int), .int .u8 (m.d.toNat : Int), .int .u8 (m.e.toNat : Int), .int .u8 (m.f.toNat : Int)]) := (hg7.block w.heap.size RM.out.lt (fun e => hM4 (by cases e; rfl))).trans RM.out
    have RO : Hid (RowIs w7 (w.heap.size + 1) 23 #[.int .u8 (o.a.toNat : Int), .int .u8 (o.b.toNat : Int), .int .u8 (o.c.toNat : Int), .int .u8 (o.d.toNat : Int), .int .u8 (o.e.toNat : Int), .int .u8 (o.f.toNat : Int)]) := (hg7.block (w.heap.size + 1) RO.out.lt (fun e => hM5 (by cases e; rfl))).trans RO.out
    have HT7 := Lib.hid hT7
    clear hg7 H hT7 m1 hm3 ho3 hnk
    clear hgm hgo
    go_upto_region 9 with fail
    go_wp2_with fail
    go_loopw [10] (fun i wr => ∃ k : Nat, (k : Int) ≤ n ∧ i = .int .i64 ((k : Int) + 1) ∧ Hid (TabIs BB T M wr n [5, 5] (agesL n m o k)) ∧ Hid (RowIs wr w.heap.size 23 #[.int .u8 (m.a.toNat : Int), .int .u8 (m.b.toNat : Int), .int .u8 (m.c.toNat : Int), .int .u8 (m.d.toNat : Int), .int .u8 (m.e.toNat : Int), .int .u8 (m.f.toNat : Int)]) ∧ Hid (RowIs wr (w.heap.size + 1) 23 #[.int .u8 (o.a.toNat : Int), .int .u8 (o.b.toNat : Int), .int .u8 (o.c.toNat : Int), .int .u8 (o.d.toNat : Int), .int .u8 (o.e.toNat : Int), .int .u8 (o.f.toNat : Int)]) ∧ Below w.heap.size w wr) (fun i _ => 50 - (intOf i).toNat)
    case atStart => exact ⟨0, by omega, rfl, HT7, RM, RO, hbW⟩
    case round =>
      clear RM RO hbW HT7
      rename_i wr
      obtain ⟨k, hk, rfl, HT, RM, RO, hbW⟩ := hrel
      by_cases hlt : (k : Int) < n
      · have HTK := Lib.hid (tick_any BB T M n [5, 5] _ wr HT.out (by unfold agesL; split <;> simp) (by
          intro e he
          unfold agesL at he
          rw [if_pos hlt] at he
          rcases List.mem_cons.1 he with rfl | he1
          · exact ⟨by simp, by simp; omega⟩
          · obtain rfl := List.mem_singleton.1 he1
            exact ⟨by simp, by simp; omega⟩))
        rw [ages_tick n m o k hlt] at HTK
        go_wp2_with (first | ((with_reducible refine at_load 23 (.tmp 4) ?_); refine wpList_load_own rfl 23 (.tmp 4) rfl _ rfl _ _ _ RM.out Try.underlying23 rfl info_mac ?_) | ((with_reducible refine at_load 23 (.tmp 5) ?_); refine wpList_load_own rfl 23 (.tmp 5) rfl _ rfl _ _ _ RO.out Try.underlying23 rfl info_mac ?_))
        refine HTK.out.mono ?_
        rintro r w8 ⟨⟨v, rfl⟩, hT8, hg8⟩
        have hbW := hbW.grown hg8 hbW.size (fun k e => by
          cases e
          exact hMw)
        have RM : Hid (RowIs w8 w.heap.size 23 #[.int .u8 (m.a.toNat : Int), .int .u8 (m.b.toNat : Int), .int .u8 (m.c.toNat : Int), .int .u8 (m.d.toNat : Int), .int .u8 (m.e.toNat : Int), .int .u8 (m.f.toNat : Int)]) := (hg8.block w.heap.size RM.out.lt (fun e => hM4 (by cases e; rfl))).trans RM.out
        have RO : Hid (RowIs w8 (w.heap.size + 1) 23 #[.int .u8 (o.a.toNat : Int), .int .u8 (o.b.toNat : Int), .int .u8 (o.c.toNat : Int), .int .u8 (o.d.toNat : Int), .int .u8 (o.e.toNat : Int), .int .u8 (o.f.toNat : Int)]) := (hg8.block (w.heap.size + 1) RO.out.lt (fun e => hM5 (by cases e; rfl))).trans RO.out
        have HT8 := Lib.hid hT8
        clear hT8 hg8 HTK HT
        by_cases hl1 : (k : Int) + 1 < n
        · have HF := Lib.hid (find_hit BB T M n [5, 5] (agesL n m o ((k : Int) + 1)) ⟨3, m, 0, (k : Int) + 1, false⟩ w8 HT8.out (by unfold agesL; rw [if_pos hl1]; simp))
          have hl1' : decide ((k : Int) + 1 < n) = true := decide_eq_true hl1
          go_wp2_with (first | ((with_reducible refine at_load 23 (.tmp 4) ?_); refine wpList_load_own rfl 23 (.tmp 4) rfl _ rfl _ _ _ RM.out Try.underlying23 rfl info_mac ?_) | ((with_reducible refine at_load 23 (.tmp 5) ?_); refine wpList_load_own rfl 23 (.tmp 5) rfl _ rfl _ _ _ RO.out Try.underlying23 rfl info_mac ?_))
          refine HF.out.mono ?_
          rintro r w9 ⟨rfl, hb9⟩
          have RM := Lib.hid (RM.out.kept hb9)
          have RO := Lib.hid (RO.out.kept hb9)
          have hbW := hbW.trans (hb9.mono hbW.size)
          have hT9 := HT8.out.later hb9
          have HT9 := Lib.hid hT9
          have HF := Lib.hid (find_hit BB T M n [5, 5] (agesL n m o ((k : Int) + 1)) ⟨3, o, 1, (k : Int) + 1, true⟩ w9 hT9 (by unfold agesL; simp))
          clear hT9 hb9 HT8
          go_wp2_with (first | ((with_reducible refine at_load 23 (.tmp 4) ?_); refine wpList_load_own rfl 23 (.tmp 4) rfl _ rfl _ _ _ RM.out Try.underlying23 rfl info_mac ?_) | ((with_reducible refine at_load 23 (.tmp 5) ?_); refine wpList_load_own rfl 23 (.tmp 5) rfl _ rfl _ _ _ RO.out Try.underlying23 rfl info_mac ?_))
          refine HF.out.mono ?_
          rintro r w10 ⟨rfl, hb10⟩
          have RM := Lib.hid (RM.out.kept hb10)
          have RO := Lib.hid (RO.out.kept hb10)
          have hbW := hbW.trans (hb10.mono hbW.size)
          have HT10 := Lib.hid (HT9.out.later hb10)
          clear hb10 HT9 HF
          go_wp2_with fail
          refine ⟨⟨k + 1, by omega, by go_num, HT10, RM, RO, hbW⟩, by simp [intOf]; omega⟩
        · have hl1' : decide ((k : Int) + 1 < n) = false := decide_eq_false hl1
          have HF := Lib.hid (find_miss BB T M n [5, 5] (agesL n m o ((k : Int) + 1)) 3 (show I64 3 from ⟨by decide, by decide⟩) m w8 HT8.out (by
            unfold agesL
            rw [if_neg hl1]
            rintro ⟨e, he, _, h2⟩
            obtain rfl := List.mem_singleton.1 he
            exact hne h2.symm))
          go_wp2_with (first | ((with_reducible refine at_load 23 (.tmp 4) ?_); refine wpList_load_own rfl 23 (.tmp 4) rfl _ rfl _ _ _ RM.out Try.underlying23 rfl info_mac ?_) | ((with_reducible refine at_load 23 (.tmp 5) ?_); refine wpList_load_own rfl 23 (.tmp 5) rfl _ rfl _ _ _ RO.out Try.underlying23 rfl info_mac ?_))
          refine HF.out.mono ?_
          rintro r w9 ⟨rfl, hb9⟩
          have RM := Lib.hid (RM.out.kept hb9)
          have RO := Lib.hid (RO.out.kept hb9)
          have hbW := hbW.trans (hb9.mono hbW.size)
          have hT9 := HT8.out.later hb9
          have HT9 := Lib.hid hT9
          have HF := Lib.hid (find_hit BB T M n [5, 5] (agesL n m o ((k : Int) + 1)) ⟨3, o, 1, (k : Int) + 1, true⟩ w9 hT9 (by unfold agesL; simp))
          clear hT9 hb9 HT8
          go_wp2_with (first | ((with_reducible refine at_load 23 (.tmp 4) ?_); refine wpList_load_own rfl 23 (.tmp 4) rfl _ rfl _ _ _ RM.out Try.underlying23 rfl info_mac ?_) | ((with_reducible refine at_load 23 (.tmp 5) ?_); refine wpList_load_own rfl 23 (.tmp 5) rfl _ rfl _ _ _ RO.out Try.underlying23 rfl info_mac ?_))
          refine HF.out.mono ?_
          rintro r w10 ⟨rfl, hb10⟩
          have RM := Lib.hid (RM.out.kept hb10)
          have RO := Lib.hid (RO.out.kept hb10)
          have hbW := hbW.trans (hb10.mono hbW.size)
          have HT10 := Lib.hid (HT9.out.later hb10)
          clear hb10 HT9 HF
          go_wp2_with fail
          refine ⟨⟨k + 1, by omega, by go_num, HT10, RM, RO, hbW⟩, by simp [intOf]; omega⟩
      · clear HT
        go_wp2_with (first | ((with_reducible refine at_load 23 (.tmp 4) ?_); refine wpList_load_own rfl 23 (.tmp 4) rfl _ rfl _ _ _ RM.out Try.underlying23 rfl info_mac ?_) | ((with_reducible refine at_load 23 (.tmp 5) ?_); refine wpList_load_own rfl 23 (.tmp 5) rfl _ rfl _ _ _ RO.out Try.underlying23 rfl info_mac ?_))
        refine (tick_nil _).mono ?_
        rintro r w8 ⟨⟨v, rfl⟩, hb8⟩
        have RM := Lib.hid (RM.out.kept hb8)
        have RO := Lib.hid (RO.out.kept hb8)
        have hbW := hbW.trans (hb8.mono hbW.size)
        clear hb8
        go_wp2_with (first | ((with_reducible refine at_load 23 (.tmp 4) ?_); refine wpList_load_own rfl 23 (.tmp 4) rfl _ rfl _ _ _ RM.out Try.underlying23 rfl info_mac ?_) | ((with_reducible refine at_load 23 (.tmp 5) ?_); refine wpList_load_own rfl 23 (.tmp 5) rfl _ rfl _ _ _ RO.out Try.underlying23 rfl info_mac ?_))
        refine (find_nil 1 m _).mono ?_
        rintro r w9 ⟨rfl, hb9⟩
        have RM := Lib.hid (RM.out.kept hb9)
        have RO := Lib.hid (RO.out.kept hb9)
        have hbW := hbW.trans (hb9.mono hbW.size)
        clear hb9
        go_wp2_with (first | ((with_reducible refine at_load 23 (.tmp 4) ?_); refine wpList_load_own rfl 23 (.tmp 4) rfl _ rfl _ _ _ RM.out Try.underlying23 rfl info_mac ?_) | ((with_reducible refine at_load 23 (.tmp 5) ?_); refine wpList_load_own rfl 23 (.tmp 5) rfl _ rfl _ _ _ RO.out Try.underlying23 rfl info_mac ?_))
        refine (learn_nil 1 m 0 _).mono ?_
        rintro r w10 ⟨rfl, hb10⟩
        have RM := Lib.hid (RM.out.kept hb10)
        have RO := Lib.hid (RO.out.kept hb10)
        have hbW := hbW.trans (hb10.mono hbW.size)
        clear hb10
        go_wp2_with (first | ((with_reducible refine at_load 23 (.tmp 4) ?_); refine wpList_load_own rfl 23 (.tmp 4) rfl _ rfl _ _ _ RM.out Try.underlying23 rfl info_mac ?_) | ((with_reducible refine at_load 23 (.tmp 5) ?_); refine wpList_load_own rfl 23 (.tmp 5) rfl _ rfl _ _ _ RO.out Try.underlying23 rfl info_mac ?_))
        refine (fix_nil 1 m 0 _).mono ?_
        rintro r w11 ⟨rfl, hb11⟩
        have RM := Lib.hid (RM.out.kept hb11)
        have RO := Lib.hid (RO.out.kept hb11)
        have hbW := hbW.trans (hb11.mono hbW.size)
        clear hb11
        go_wp2_with (first | ((with_reducible refine at_load 23 (.tmp 4) ?_); refine wpList_load_own rfl 23 (.tmp 4) rfl _ rfl _ _ _ RM.out Try.underlying23 rfl info_mac ?_) | ((with_reducible refine at_load 23 (.tmp 5) ?_); refine wpList_load_own rfl 23 (.tmp 5) rfl _ rfl _ _ _ RO.out Try.underlying23 rfl info_mac ?_))
        refine (clear_nil 0 _).mono ?_
        rintro r w12 ⟨rfl, hb12⟩
        have RM := Lib.hid (RM.out.kept hb12)
        have RO := Lib.hid (RO.out.kept hb12)
        have hbW := hbW.trans (hb12.mono hbW.size)
        clear hb12
        go_wp2_with (first | ((with_reducible refine at_load 23 (.tmp 4) ?_); refine wpList_load_own rfl 23 (.tmp 4) rfl _ rfl _ _ _ RM.out Try.underlying23 rfl info_mac ?_) | ((with_reducible refine at_load 23 (.tmp 5) ?_); refine wpList_load_own rfl 23 (.tmp 5) rfl _ rfl _ _ _ RO.out Try.underlying23 rfl info_mac ?_))
        refine (drop_nil 0 _).mono ?_
        rintro r w13 ⟨rfl, hb13⟩
        have RM := Lib.hid (RM.out.kept hb13)
        have RO := Lib.hid (RO.out.kept hb13)
        have hbW := hbW.trans (hb13.mono hbW.size)
        clear hb13
        go_wp2_with (first | ((with_reducible refine at_load 23 (.tmp 4) ?_); refine wpList_load_own rfl 23 (.tmp 4) rfl _ rfl _ _ _ RM.out Try.underlying23 rfl info_mac ?_) | ((with_reducible refine at_load 23 (.tmp 5) ?_); refine wpList_load_own rfl 23 (.tmp 5) rfl _ rfl _ _ _ RO.out Try.underlying23 rfl info_mac ?_))
        refine (all_nil _).mono ?_
        rintro r w14 ⟨rfl, hb14⟩
        have hbW := hbW.trans (hb14.mono hbW.size)
        go_wp2_with fail
        go_ret
        exact ⟨rfl, hbW⟩
  · rw [hq] at m1
    go_wp2_with (first | ((with_reducible refine at_load 23 (.tmp 4) ?_); refine wpList_load_own rfl 23 (.tmp 4) rfl _ rfl _ _ _ RM.out Try.underlying23 rfl info_mac ?_) | ((with_reducible refine at_load 23 (.tmp 5) ?_); refine wpList_load_own rfl 23 (.tmp 5) rfl _ rfl _ _ _ RO.out Try.underlying23 rfl info_mac ?_))
    go_ret
    exact ⟨rfl, hbW⟩

theorem learnAges_walk (g : Int) (hg : (Lit.int .u8 g).wf = true) (a b c d e f : UInt8) (a' b' c' d' e' f' : UInt8) (w : World) :
    Calls Try.prog 8 #[.int .u8 g, .agg #[.int .u8 (a.toNat : Int), .int .u8 (b.toNat : Int), .int .u8 (c.toNat : Int), .int .u8 (d.toNat : Int), .int .u8 (e.toNat : Int), .int .u8 (f.toNat : Int)], .agg #[.int .u8 (a'.toNat : Int), .int .u8 (b'.toNat : Int), .int .u8 (c'.toNat : Int), .int .u8 (d'.toNat : Int), .int .u8 (e'.toNat : Int), .int .u8 (f'.toNat : Int)]] w fun e w' => e = .returned (.bool true) ∧ Below w.heap.size w w' := by
  simp only [Lit.wf, Bool.and_eq_true, decide_eq_true_eq] at hg
  have hg : 0 ≤ g ∧ g ≤ 255 := hg
  obtain ⟨g, rfl⟩ := Int.eq_ofNat_of_zero_le hg.1
  exact learnAges_go g (by omega) ⟨a, b, c, d, e, f⟩ ⟨a', b', c', d', e', f'⟩ w
end Go.Proofs.Ytcdklbhfcfamnaa
