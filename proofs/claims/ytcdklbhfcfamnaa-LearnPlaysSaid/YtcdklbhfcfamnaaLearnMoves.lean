/- The walk of LearnMoves; awake. By an AI agent. -/
import Derived.Test.YtcdklbhfcfamnaaLearnL
namespace Go.Proofs.Ytcdklbhfcfamnaa
open Go.RowKit Go.MapKept Go.Maps Go.WideShapes Go.Sort Grow

theorem onN_nil (p : Int) : onN p [] = 0 := rfl

theorem learn_new (B T M : Nat) (ageing : Int) (lims : List Int) (L : List Ent) (v : Int) (m : Mac6) (q : Nat) (w : World) (h : TabIs B T M w ageing lims L) (hL : L.length ≤ 1000000) (hlims : lims.length ≤ 1000000) (hb : mayBad lims v m q = false) (hn : ¬ HasKey L v m) (hon : (onN q L : Int) < lims.getD q 0) :
    Calls Try.prog 11 #[.pointer (some ⟨T, 0, none⟩), .int .i64 v, .agg #[.int .u8 (m.a.toNat : Int), .int .u8 (m.b.toNat : Int), .int .u8 (m.c.toNat : Int), .int .u8 (m.d.toNat : Int), .int .u8 (m.e.toNat : Int), .int .u8 (m.f.toNat : Int)], .int .i64 (q : Nat)] w fun e w' => e = .returned (.int .i64 0) ∧ TabIs B T M w' ageing lims (⟨v, m, q, 0, false⟩ :: L) ∧ w.grownBy w' (some M) := by
  obtain ⟨q', hq', hq, hv⟩ := mayBad_q hb
  obtain rfl : q = q' := by omega
  obtain ⟨x, hx⟩ := keyOf_learn v hv m
  refine learn_put B T M ageing lims L v m q hq _ rfl 0 0 false false w h hL hlims (fun w' hb' => may_new B T M ageing lims L v hv m q w' (h.later hb') hb hn) (fun w' hM => run_lookup_missP learn_keyed Try.underlying61 hM hx (no_key hn) (zero_place w') true) (⟨v, m, q, 0, false⟩ :: L) ?_ (fun w' hM => run_update_newP learn_keyed Try.underlying61 hM hx (no_key hn) _) (.inr hon)
  intro e he
  rcases List.mem_cons.1 he with rfl | he
  · exact hv
  · obtain ⟨_, _, _, _, _, _, _, h6⟩ := h
    exact h6 e he

theorem learn_again (B T M : Nat) (ageing : Int) (lims : List Int) (L : List Ent) (e0 : Ent) (q : Nat) (w : World) (h : TabIs B T M w ageing lims (e0 :: L)) (hL : (e0 :: L).length ≤ 1000000) (hlims : lims.length ≤ 1000000) (hb : mayBad lims e0.v e0.m q = false) (hf : e0.fixed = false) (hon : e0.port = (q : Int) ∨ (onN q (e0 :: L) : Int) < lims.getD q 0) :
    Calls Try.prog 11 #[.pointer (some ⟨T, 0, none⟩), .int .i64 e0.v, .agg #[.int .u8 (e0.m.a.toNat : Int), .int .u8 (e0.m.b.toNat : Int), .int .u8 (e0.m.c.toNat : Int), .int .u8 (e0.m.d.toNat : Int), .int .u8 (e0.m.e.toNat : Int), .int .u8 (e0.m.f.toNat : Int)], .int .i64 (q : Nat)] w fun e w' => e = .returned (.int .i64 0) ∧ TabIs B T M w' ageing lims (⟨e0.v, e0.m, q, 0, false⟩ :: L) ∧ w.grownBy w' (some M) := by
  obtain ⟨q', hq', hq, hv⟩ := mayBad_q hb
  obtain rfl : q = q' := by omega
  obtain ⟨x, hx⟩ := keyOf_learn e0.v hv e0.m
  refine learn_put B T M ageing lims (e0 :: L) e0.v e0.m q hq _ rfl e0.port e0.age e0.fixed true w h hL hlims (fun w' hb' => ?_) (fun w' hM => run_lookup_hitP learn_keyed Try.underlying61 hM hx (key_of_mem (by simp)) true) (⟨e0.v, e0.m, q, 0, false⟩ :: L) ?_ (fun w' hM => run_update_oldP learn_keyed Try.underlying61 hM hx _) ?_
  · have H := may_fixed B T M ageing lims (e0 :: L) e0 q w' (h.later hb') hb (by simp)
    rw [hf] at H
    exact H
  · intro e he
    rcases List.mem_cons.1 he with rfl | he
    · exact hv
    · obtain ⟨_, _, _, _, _, _, _, h6⟩ := h
      exact h6 e (by simp [he])
  · rcases hon with h1 | h1
    · exact .inl ⟨rfl, h1⟩
    · exact .inr h1

theorem learn_no (B T M : Nat) (ageing : Int) (lims : List Int) (L : List Ent) (v : Int) (m : Mac6) (q : Nat) (w : World) (h : TabIs B T M w ageing lims L) (hL : L.length ≤ 1000000) (hlims : lims.length ≤ 1000000) (hb : mayBad lims v m q = false) (hn : ¬ HasKey L v m) (hon : lims.getD q 0 ≤ (onN q L : Int)) :
    Calls Try.prog 11 #[.pointer (some ⟨T, 0, none⟩), .int .i64 v, .agg #[.int .u8 (m.a.toNat : Int), .int .u8 (m.b.toNat : Int), .int .u8 (m.c.toNat : Int), .int .u8 (m.d.toNat : Int), .int .u8 (m.e.toNat : Int), .int .u8 (m.f.toNat : Int)], .int .i64 (q : Nat)] w fun e w' => e = .returned (.int .i64 8) ∧ Below w.heap.size w w' := by
  obtain ⟨q', hq', hq, hv⟩ := mayBad_q hb
  obtain rfl : q = q' := by omega
  obtain ⟨x, hx⟩ := keyOf_learn v hv m
  exact learn_full B T M ageing lims L v m q hq _ rfl 0 0 false false w h hL hlims (fun w' hb' => may_new B T M ageing lims L v hv m q w' (h.later hb') hb hn) (fun w' hM => run_lookup_missP learn_keyed Try.underlying61 hM hx (no_key hn) (zero_place w') true) (.inl rfl) hon

/-- one number in a new slice -/
theorem ints_new (w : World) (zs : List Int) : IntsAt (w.alloc (.cells (zs.map I64v).toArray 3)) (some ⟨w.heap.size, 0, none⟩) zs := by
  refine .inr ⟨w.heap.size, 0, rfl, fun i hi => ?_⟩
  rw [RowIs.cell (rowIs_new w 3 (zs.map I64v).toArray)]
  simp [List.getD, hi]

set_option maxRecDepth 20000 in
set_option maxHeartbeats 2000000 in
theorem awake_any (w : World) : Calls Try.prog 9 #[] w fun e w' => e = .returned (.bool true) ∧ Below w.heap.size w w' := by
  have hbA : Below w.heap.size w (w.alloc (.cells #[.int .i64 1] 3)) := (Below.refl _ w).alloc (Nat.le_refl _) _
  have HN := Lib.hid (new_ok 10 (by omega) (some ⟨w.heap.size, 0, none⟩) [1] 1 (w.alloc (.cells #[.int .i64 1] 3)) (ints_new w [1]) (by decide) (by decide))
  go_enter Try.func9, Try.ntmps9
  go_wp2_with fail
  refine HN.out.mono ?_
  rintro e w1 ⟨T, M, rfl, hT, hb1⟩
  have hbW := hbA.trans (hb1.mono hbA.size)
  have H1 : Hid (Calls Try.prog 11 #[.pointer (some ⟨T, 0, none⟩), .int .i64 1, .agg #[.int .u8 2, .int .u8 0, .int .u8 0, .int .u8 0, .int .u8 0, .int .u8 0], .int .i64 0] w1 fun e w' => e = .returned (.int .i64 0) ∧ TabIs _ T M w' 10 [1] [⟨1, ⟨2, 0, 0, 0, 0, 0⟩, 0, 0, false⟩] ∧ w1.grownBy w' (some M)) := learn_new _ T M 10 [1] [] 1 ⟨2, 0, 0, 0, 0, 0⟩ 0 w1 hT (by decide) (by decide) (by decide) (by rintro ⟨e, he, _⟩; cases he) (by decide)
  have hMB := hT.baseM
  clear hT hb1 HN
  go_wp2_with fail
  refine H1.out.mono ?_
  rintro e w2 ⟨rfl, hT2, hg2⟩
  have hbW2 : Below w.heap.size w w2 := hbW.grown hg2 hbW.size (fun k e => by
    cases e
    exact Nat.le_trans hbA.size hMB)
  have H2 : Hid (Calls Try.prog 11 #[.pointer (some ⟨T, 0, none⟩), .int .i64 1, .agg #[.int .u8 4, .int .u8 0, .int .u8 0, .int .u8 0, .int .u8 0, .int .u8 0], .int .i64 0] w2 fun e w' => e = .returned (.int .i64 8) ∧ Below w2.heap.size w2 w') := learn_no _ T M 10 [1] _ 1 ⟨4, 0, 0, 0, 0, 0⟩ 0 w2 hT2 (by decide) (by decide) (by decide) (by
    rintro ⟨e, he, h1, h2⟩
    obtain rfl := List.mem_singleton.1 he
    have := congrArg Mac6.a h2
    cases this) (by decide)
  clear hT2 hg2 H1
  go_wp2_with fail
  refine H2.out.mono ?_
  rintro e w3 ⟨rfl, hb3⟩
  have hbW3 := hbW2.trans (hb3.mono hbW2.size)
  clear hb3 H2
  go_wp2_with fail
  go_ret
  exact ⟨rfl, hbW3⟩

theorem drop_tab (B T M : Nat) (ageing : Int) (lims : List Int) (L : List Ent) (port : Int) (w : World) (h : TabIs B T M w ageing lims L) (hL : L.length ≤ 1000000) :
    Calls Try.prog 13 #[.pointer (some ⟨T, 0, none⟩), .int .i64 port] w fun r w' => r = .returned (.int .i64 ((L.filter (Ent.goes fun e => e.port == port)).length : Nat)) ∧ TabIs B T M w' ageing lims (L.filter (Ent.stays fun e => e.port == port)) ∧ w.grownBy w' (some M) := by
  have h0 := h
  obtain ⟨la, lc, hT, hBT, hBM, ho, hM, hIV⟩ := h
  refine (drop_any T M port _ _ L w hT hM hL hIV).mono ?_
  rintro r w' ⟨rfl, hm, hg⟩
  exact ⟨rfl, tab_put h0 hm (fun e he => hIV e (List.mem_filter.1 he).1) hg, hg⟩

theorem mayBad_ok {x : Int} {m : Mac6} {p : Nat} (hx : 1 ≤ x ∧ x ≤ 4094) (hm : grp m.a = false) (hp : p < 3) : mayBad [3, 3, 3] x m p = false := by
  unfold mayBad
  rw [decide_eq_false (by omega), decide_eq_false (by omega), hm, decide_eq_false (by omega), decide_eq_false (by simp; omega)]
  rfl
theorem lim3 {p : Nat} (hp : p < 3) : ([3, 3, 3] : List Int).getD p 0 = 3 := by
  have : p = 0 ∨ p = 1 ∨ p = 2 := by omega
  rcases this with rfl | rfl | rfl <;> rfl

theorem TabIs.apart {B T M b : Nat} {w w' : World} {ageing : Int} {lims : List Int} {L : List Ent} (h : TabIs B T M w ageing lims L) (ho : ∀ j, j ≠ b → w'.heap[j]? = w.heap[j]?) {c : Nat} (hb : b < c) (hB : c ≤ B) : TabIs B T M w' ageing lims L := by
  obtain ⟨la, lc, hT, hBT, hBM, hr, hM, hIV⟩ := h
  refine ⟨la, lc, (ho T (by omega)).trans hT, hBT, hBM, ⟨hr.1, ?_⟩, hM.same (ho M (by omega)), hIV⟩
  rcases hr.2 with hn | ⟨g, cap, cur, e, hBg, hgg, rest⟩
  · exact .inl hn
  · exact .inr ⟨g, cap, cur, e, hBg, (ho g (by omega)).trans hgg, rest⟩

set_option maxRecDepth 20000 in
set_option maxHeartbeats 4000000 in
theorem learnMoves_go (m0 : Mac6) (v u a b : Nat) (hv : v < 65536) (hu : u < 65536) (ha : a < 256) (hb : b < 256) (w : World) :
    Calls Try.prog 3 #[.agg #[.int .u8 (m0.a.toNat : Int), .int .u8 (m0.b.toNat : Int), .int .u8 (m0.c.toNat : Int), .int .u8 (m0.d.toNat : Int), .int .u8 (m0.e.toNat : Int), .int .u8 (m0.f.toNat : Int)], .int .u16 v, .int .u16 u, .int .u8 a, .int .u8 b] w fun e w' => e = .returned (.bool true) ∧ Below w.heap.size w w' := by
  have hand := and254 m0.a
  have HB0 : Hid (RowIs (w.alloc (.cells #[.int .u8 (m0.a.toNat : Int), .int .u8 (m0.b.toNat : Int), .int .u8 (m0.c.toNat : Int), .int .u8 (m0.d.toNat : Int), .int .u8 (m0.e.toNat : Int), .int .u8 (m0.f.toNat : Int)] 23)) w.heap.size 23 #[.int .u8 (m0.a.toNat : Int), .int .u8 (m0.b.toNat : Int), .int .u8 (m0.c.toNat : Int), .int .u8 (m0.d.toNat : Int), .int .u8 (m0.e.toNat : Int), .int .u8 (m0.f.toNat : Int)]) := rowIs_new w _ _
  have hbW : Below w.heap.size w (w.alloc (.cells #[.int .u8 (m0.a.toNat : Int), .int .u8 (m0.b.toNat : Int), .int .u8 (m0.c.toNat : Int), .int .u8 (m0.d.toNat : Int), .int .u8 (m0.e.toNat : Int), .int .u8 (m0.f.toNat : Int)] 23)) := (Below.refl _ w).alloc (Nat.le_refl _) _
  go_enter Try.func3, Try.ntmps3
  go_upto_region 1 with fail
  generalize (w.alloc (.cells #[.int .u8 (m0.a.toNat : Int), .int .u8 (m0.b.toNat : Int), .int .u8 (m0.c.toNat : Int), .int .u8 (m0.d.toNat : Int), .int .u8 (m0.e.toNat : Int), .int .u8 (m0.f.toNat : Int)] 23)) = W at *
  go_wp2_with fail
  refine (awake_any _).mono ?_
  rintro e w1 ⟨rfl, hb1⟩
  have HB1 := Lib.hid (HB0.out.kept hb1)
  have hbW := hbW.trans (hb1.mono hbW.size)
  clear hb1 HB0
  have hbS : Below w1.heap.size w1 (w1.alloc (.cells #[.int .i64 3, .int .i64 3, .int .i64 3] 3)) := (Below.refl _ w1).alloc (Nat.le_refl _) _
  have HN := Lib.hid (new_ok 9 (by omega) (some ⟨w1.heap.size, 0, none⟩) [3, 3, 3] 3 (w1.alloc (.cells #[.int .i64 3, .int .i64 3, .int .i64 3] 3)) (ints_new w1 [3, 3, 3]) (by decide) (by decide))
  go_wp2_with fail
  refine HN.out.mono ?_
  rintro e w2 ⟨T, M, rfl, hT, hb2⟩
  have HB2 := Lib.hid ((HB1.out.kept hbS).kept hb2)
  have hs0 := HB1.out.lt
  have hbW := (hbW.trans (hbS.mono hbW.size)).trans (hb2.mono (Nat.le_trans hbW.size hbS.size))
  have hB1 := hbS.size
  clear HB1 hb2 hbS HN
  generalize (w1.alloc (.cells #[.int .i64 3, .int .i64 3, .int .i64 3] 3)).heap.size = BB at *
  have c0 : w2.cell? ⟨w.heap.size, 0, none⟩ = some (.int .u8 (m0.a.toNat : Int)) := HB2.out.cell 0
  go_wp2_with ((with_reducible refine at_store 5 (.tmp 34) (.tmp 33) ?_); refine wpList_store_cell rfl 5 (.tmp 34) (.tmp 33) rfl w.heap.size 0 _ rfl rfl 23 _ HB2.out (by simp) (by kernel_rfl) rfl w.heap.size (Nat.le_refl _) ?_)
  intro w5 hR5 hoth5 hsz5 hb5
  have hT5 := hT.apart hoth5 hs0 hB1
  have hbW := hbW.trans hb5
  obtain ⟨m, hm⟩ : ∃ m : Mac6, m = ⟨m0.a &&& 254, m0.b, m0.c, m0.d, m0.e, m0.f⟩ := ⟨_, rfl⟩
  have hgm : grp m.a = false := by rw [hm]; exact grp254 _
  have RB : Hid (RowIs w5 w.heap.size 23 #[.int .u8 (m.a.toNat : Int), .int .u8 (m.b.toNat : Int), .int .u8 (m.c.toNat : Int), .int .u8 (m.d.toNat : Int), .int .u8 (m.e.toNat : Int), .int .u8 (m.f.toNat : Int)]) := by
    show RowIs _ _ _ _
    rw [hm]
    exact hR5
  have hMw : w.heap.size ≤ M := Nat.le_trans (Nat.le_of_lt (Nat.lt_of_lt_of_le hs0 hB1)) hT.baseM
  have hb5M : w.heap.size ≠ M := fun e => by have := hT.baseM; omega
  clear hT hR5 hoth5 hsz5 hb5 c0 HB2 hm hand hs0 hB1
  go_upto_region 7 with fail
  have hp : ((a : Int) % 3) = ((a % 3 : Nat) : Int) := by simp
  have hq : ((b : Int) % 3) = ((b % 3 : Nat) : Int) := by simp
  rw [hp, hq]
  clear hp hq
  have hp3 : a % 3 < 3 := Nat.mod_lt _ (by omega)
  have hq3 : b % 3 < 3 := Nat.mod_lt _ (by omega)
  have hx : 1 ≤ 1 + (v : Int) % 4094 ∧ 1 + (v : Int) % 4094 ≤ 4094 := by omega
  have hy : 1 ≤ 1 + (u : Int) % 4094 ∧ 1 + (u : Int) % 4094 ≤ 4094 := by omega
  generalize a % 3 = p at *
  generalize b % 3 = q at *
  generalize 1 + (v : Int) % 4094 = x at *
  generalize 1 + (u : Int) % 4094 = y at *
  have hIx : I64 x := ⟨by omega, by omega⟩
  have hIy : I64 y := ⟨by omega, by omega⟩
  have hmx := mayBad_ok hx hgm hp3
  have hmy := mayBad_ok hy hgm hq3
  have hlp := lim3 hp3
  have hlq := lim3 hq3
  have hT := hT5
  clear hT5 hgm
  by_cases hxy : x = y
  · subst hxy
    have H := Lib.hid (learn_new _ T M 9 [3, 3, 3] [] x m p w5 hT (by decide) (by decide) hmx (by rintro ⟨e, he, _⟩; cases he) (by rw [hlp]; exact (by decide : (0 : Int) < 3)))
    clear hT
    go_wp2_with ((with_reducible refine at_load 23 (.tmp 5) ?_); refine wpList_load_own rfl 23 (.tmp 5) rfl _ rfl _ _ _ RB.out Try.underlying23 rfl info_mac ?_)
    refine H.out.mono ?_
    rintro e w6 ⟨rfl, hT6, hg6⟩
    have hbW := hbW.grown hg6 hbW.size (fun k e => by
      cases e
      exact hMw)
    have RB := Lib.hid ((hg6.block w.heap.size RB.out.lt (fun e => hb5M (by cases e; rfl))).trans RB.out)
    have RB : Hid (RowIs w6 w.heap.size 23 #[.int .u8 (m.a.toNat : Int), .int .u8 (m.b.toNat : Int), .int .u8 (m.c.toNat : Int), .int .u8 (m.d.toNat : Int), .int .u8 (m.e.toNat : Int), .int .u8 (m.f.toNat : Int)]) := RB
    have H := Lib.hid (learn_again _ T M 9 [3, 3, 3] [] ⟨x, m, p, 0, false⟩ q w6 hT6 (by simp) (by decide) hmy rfl (.inr (by rw [hlq]; have := onN_le q [(⟨x, m, p, 0, false⟩ : Ent)]; simp at this; omega)))
    clear hT6 hg6
    go_wp2_with ((with_reducible refine at_load 23 (.tmp 5) ?_); refine wpList_load_own rfl 23 (.tmp 5) rfl _ rfl _ _ _ RB.out Try.underlying23 rfl info_mac ?_)
    refine H.out.mono ?_
    rintro e w7 ⟨rfl, hT7, hg7⟩
    have hbW := hbW.grown hg7 hbW.size (fun k e => by
      cases e
      exact hMw)
    have RB := Lib.hid ((hg7.block w.heap.size RB.out.lt (fun e => hb5M (by cases e; rfl))).trans RB.out)
    have RB : Hid (RowIs w7 w.heap.size 23 #[.int .u8 (m.a.toNat : Int), .int .u8 (m.b.toNat : Int), .int .u8 (m.c.toNat : Int), .int .u8 (m.d.toNat : Int), .int .u8 (m.e.toNat : Int), .int .u8 (m.f.toNat : Int)]) := RB
    have H := Lib.hid (find_hit _ T M 9 [3, 3, 3] _ ⟨x, m, q, 0, false⟩ w7 hT7 (by simp))
    have HT7 := Lib.hid hT7
    clear hg7 hT7
    go_wp2_with ((with_reducible refine at_load 23 (.tmp 5) ?_); refine wpList_load_own rfl 23 (.tmp 5) rfl _ rfl _ _ _ RB.out Try.underlying23 rfl info_mac ?_)
    refine H.out.mono ?_
    rintro e w8 ⟨rfl, hb8⟩
    have RB := Lib.hid (RB.out.kept hb8)
    have hbW := hbW.trans (hb8.mono hbW.size)
    have hT8 := HT7.out.later hb8
    have H := Lib.hid (find_hit _ T M 9 [3, 3, 3] _ ⟨x, m, q, 0, false⟩ w8 hT8 (by simp))
    have HT8 := Lib.hid hT8
    clear hb8 hT8 HT7
    go_wp2_with ((with_reducible refine at_load 23 (.tmp 5) ?_); refine wpList_load_own rfl 23 (.tmp 5) rfl _ rfl _ _ _ RB.out Try.underlying23 rfl info_mac ?_)
    refine H.out.mono ?_
    rintro e w9 ⟨rfl, hb9⟩
    have RB := Lib.hid (RB.out.kept hb9)
    have hbW := hbW.trans (hb9.mono hbW.size)
    have hT9 := HT8.out.later hb9
    have H := Lib.hid (drop_tab _ T M 9 [3, 3, 3] [⟨x, m, q, 0, false⟩] q w9 hT9 (by simp))
    have hst : [(⟨x, m, q, 0, false⟩ : Ent)].filter (Ent.stays fun e => e.port == (q : Int)) = [] := by simp [Ent.stays, Ent.goes]
    have hgo : ([(⟨x, m, q, 0, false⟩ : Ent)].filter (Ent.goes fun e => e.port == (q : Int))).length = 1 := by simp [Ent.goes]
    rw [hst, hgo] at H
    clear hb9 hT9 HT8 hst hgo
    go_wp2_with ((with_reducible refine at_load 23 (.tmp 5) ?_); refine wpList_load_own rfl 23 (.tmp 5) rfl _ rfl _ _ _ RB.out Try.underlying23 rfl info_mac ?_)
    refine H.out.mono ?_
    rintro e w10 ⟨rfl, hT10, hg10⟩
    have hbW := hbW.grown hg10 hbW.size (fun k e => by
      cases e
      exact hMw)
    have RB := Lib.hid ((hg10.block w.heap.size RB.out.lt (fun e => hb5M (by cases e; rfl))).trans RB.out)
    have RB : Hid (RowIs w10 w.heap.size 23 #[.int .u8 (m.a.toNat : Int), .int .u8 (m.b.toNat : Int), .int .u8 (m.c.toNat : Int), .int .u8 (m.d.toNat : Int), .int .u8 (m.e.toNat : Int), .int .u8 (m.f.toNat : Int)]) := RB
    have H := Lib.hid (find_miss _ T M 9 [3, 3, 3] [] x hIx m w10 hT10 (by rintro ⟨e, he, _⟩; cases he))
    clear hT10 hg10
    go_wp2_with ((with_reducible refine at_load 23 (.tmp 5) ?_); refine wpList_load_own rfl 23 (.tmp 5) rfl _ rfl _ _ _ RB.out Try.underlying23 rfl info_mac ?_)
    refine H.out.mono ?_
    rintro e w11 ⟨rfl, hb11⟩
    have RB := Lib.hid (RB.out.kept hb11)
    have hbW := hbW.trans (hb11.mono hbW.size)
    clear hb11 H
    go_wp2_with fail
    go_ret
    exact ⟨rfl, hbW⟩
  · have hxyb : (x == y) = false := beq_eq_false_iff_ne.2 hxy
    have hxyn : (x != y) = true := bne_iff_ne.2 hxy
    by_cases hpq : p = q
    · subst hpq
      have H := Lib.hid (learn_new _ T M 9 [3, 3, 3] [] x m p w5 hT (by decide) (by decide) hmx (by rintro ⟨e, he, _⟩; cases he) (by rw [hlp]; exact (by decide : (0 : Int) < 3)))
      clear hT
      go_wp2_with ((with_reducible refine at_load 23 (.tmp 5) ?_); refine wpList_load_own rfl 23 (.tmp 5) rfl _ rfl _ _ _ RB.out Try.underlying23 rfl info_mac ?_)
      refine H.out.mono ?_
      rintro e w6 ⟨rfl, hT6, hg6⟩
      have hbW := hbW.grown hg6 hbW.size (fun k e => by
        cases e
        exact hMw)
      have RB := Lib.hid ((hg6.block w.heap.size RB.out.lt (fun e => hb5M (by cases e; rfl))).trans RB.out)
      have RB : Hid (RowIs w6 w.heap.size 23 #[.int .u8 (m.a.toNat : Int), .int .u8 (m.b.toNat : Int), .int .u8 (m.c.toNat : Int), .int .u8 (m.d.toNat : Int), .int .u8 (m.e.toNat : Int), .int .u8 (m.f.toNat : Int)]) := RB
      have H := Lib.hid (learn_new _ T M 9 [3, 3, 3] _ y m p w6 hT6 (by simp) (by decide) hmy (by
        rintro ⟨e, he, h1, _⟩
        obtain rfl := List.mem_singleton.1 he
        exact hxy h1) (by rw [hlp]; have := onN_le p [(⟨x, m, p, 0, false⟩ : Ent)]; simp at this; omega))
      clear hT6 hg6
      go_wp2_with ((with_reducible refine at_load 23 (.tmp 5) ?_); refine wpList_load_own rfl 23 (.tmp 5) rfl _ rfl _ _ _ RB.out Try.underlying23 rfl info_mac ?_)
      refine H.out.mono ?_
      rintro e w7 ⟨rfl, hT7, hg7⟩
      have hbW := hbW.grown hg7 hbW.size (fun k e => by
        cases e
        exact hMw)
      have RB := Lib.hid ((hg7.block w.heap.size RB.out.lt (fun e => hb5M (by cases e; rfl))).trans RB.out)
      have RB : Hid (RowIs w7 w.heap.size 23 #[.int .u8 (m.a.toNat : Int), .int .u8 (m.b.toNat : Int), .int .u8 (m.c.toNat : Int), .int .u8 (m.d.toNat : Int), .int .u8 (m.e.toNat : Int), .int .u8 (m.f.toNat : Int)]) := RB
      have H := Lib.hid (find_hit _ T M 9 [3, 3, 3] _ ⟨x, m, p, 0, false⟩ w7 hT7 (by simp))
      have HT7 := Lib.hid hT7
      clear hg7 hT7
      go_wp2_with ((with_reducible refine at_load 23 (.tmp 5) ?_); refine wpList_load_own rfl 23 (.tmp 5) rfl _ rfl _ _ _ RB.out Try.underlying23 rfl info_mac ?_)
      refine H.out.mono ?_
      rintro e w8 ⟨rfl, hb8⟩
      have RB := Lib.hid (RB.out.kept hb8)
      have hbW := hbW.trans (hb8.mono hbW.size)
      have hT8 := HT7.out.later hb8
      have H := Lib.hid (find_hit _ T M 9 [3, 3, 3] _ ⟨y, m, p, 0, false⟩ w8 hT8 (by simp))
      have HT8 := Lib.hid hT8
      clear hb8 hT8 HT7
      go_wp2_with ((with_reducible refine at_load 23 (.tmp 5) ?_); refine wpList_load_own rfl 23 (.tmp 5) rfl _ rfl _ _ _ RB.out Try.underlying23 rfl info_mac ?_)
      refine H.out.mono ?_
      rintro e w9 ⟨rfl, hb9⟩
      have RB := Lib.hid (RB.out.kept hb9)
      have hbW := hbW.trans (hb9.mono hbW.size)
      have hT9 := HT8.out.later hb9
      have H := Lib.hid (drop_tab _ T M 9 [3, 3, 3] [⟨y, m, p, 0, false⟩, ⟨x, m, p, 0, false⟩] p w9 hT9 (by simp))
      have hst : [(⟨y, m, p, 0, false⟩ : Ent), ⟨x, m, p, 0, false⟩].filter (Ent.stays fun e => e.port == (p : Int)) = [] := by simp [Ent.stays, Ent.goes]
      have hgo : ([(⟨y, m, p, 0, false⟩ : Ent), ⟨x, m, p, 0, false⟩].filter (Ent.goes fun e => e.port == (p : Int))).length = 2 := by simp [Ent.goes]
      rw [hst, hgo] at H
      clear hb9 hT9 HT8 hst hgo
      go_wp2_with ((with_reducible refine at_load 23 (.tmp 5) ?_); refine wpList_load_own rfl 23 (.tmp 5) rfl _ rfl _ _ _ RB.out Try.underlying23 rfl info_mac ?_)
      refine H.out.mono ?_
      rintro e w10 ⟨rfl, hT10, hg10⟩
      have hbW := hbW.grown hg10 hbW.size (fun k e => by
        cases e
        exact hMw)
      have RB := Lib.hid ((hg10.block w.heap.size RB.out.lt (fun e => hb5M (by cases e; rfl))).trans RB.out)
      have RB : Hid (RowIs w10 w.heap.size 23 #[.int .u8 (m.a.toNat : Int), .int .u8 (m.b.toNat : Int), .int .u8 (m.c.toNat : Int), .int .u8 (m.d.toNat : Int), .int .u8 (m.e.toNat : Int), .int .u8 (m.f.toNat : Int)]) := RB
      have H := Lib.hid (find_miss _ T M 9 [3, 3, 3] [] y hIy m w10 hT10 (by rintro ⟨e, he, _⟩; cases he))
      clear hT10 hg10
      go_wp2_with ((with_reducible refine at_load 23 (.tmp 5) ?_); refine wpList_load_own rfl 23 (.tmp 5) rfl _ rfl _ _ _ RB.out Try.underlying23 rfl info_mac ?_)
      refine H.out.mono ?_
      rintro e w11 ⟨rfl, hb11⟩
      have RB := Lib.hid (RB.out.kept hb11)
      have hbW := hbW.trans (hb11.mono hbW.size)
      clear hb11 H
      go_wp2_with fail
      go_ret
      exact ⟨rfl, hbW⟩
    · have hpqb : ((p : Int) == (q : Int)) = false := beq_eq_false_iff_ne.2 (by omega)
      have H := Lib.hid (learn_new _ T M 9 [3, 3, 3] [] x m p w5 hT (by decide) (by decide) hmx (by rintro ⟨e, he, _⟩; cases he) (by rw [hlp]; exact (by decide : (0 : Int) < 3)))
      clear hT
      go_wp2_with ((with_reducible refine at_load 23 (.tmp 5) ?_); refine wpList_load_own rfl 23 (.tmp 5) rfl _ rfl _ _ _ RB.out Try.underlying23 rfl info_mac ?_)
      refine H.out.mono ?_
      rintro e w6 ⟨rfl, hT6, hg6⟩
      have hbW := hbW.grown hg6 hbW.size (fun k e => by
        cases e
        exact hMw)
      have RB := Lib.hid ((hg6.block w.heap.size RB.out.lt (fun e => hb5M (by cases e; rfl))).trans RB.out)
      have RB : Hid (RowIs w6 w.heap.size 23 #[.int .u8 (m.a.toNat : Int), .int .u8 (m.b.toNat : Int), .int .u8 (m.c.toNat : Int), .int .u8 (m.d.toNat : Int), .int .u8 (m.e.toNat : Int), .int .u8 (m.f.toNat : Int)]) := RB
      have H := Lib.hid (learn_new _ T M 9 [3, 3, 3] _ y m q w6 hT6 (by simp) (by decide) hmy (by
        rintro ⟨e, he, h1, _⟩
        obtain rfl := List.mem_singleton.1 he
        exact hxy h1) (by rw [hlq]; have := onN_le q [(⟨x, m, p, 0, false⟩ : Ent)]; simp at this; omega))
      clear hT6 hg6
      go_wp2_with ((with_reducible refine at_load 23 (.tmp 5) ?_); refine wpList_load_own rfl 23 (.tmp 5) rfl _ rfl _ _ _ RB.out Try.underlying23 rfl info_mac ?_)
      refine H.out.mono ?_
      rintro e w7 ⟨rfl, hT7, hg7⟩
      have hbW := hbW.grown hg7 hbW.size (fun k e => by
        cases e
        exact hMw)
      have RB := Lib.hid ((hg7.block w.heap.size RB.out.lt (fun e => hb5M (by cases e; rfl))).trans RB.out)
      have RB : Hid (RowIs w7 w.heap.size 23 #[.int .u8 (m.a.toNat : Int), .int .u8 (m.b.toNat : Int), .int .u8 (m.c.toNat : Int), .int .u8 (m.d.toNat : Int), .int .u8 (m.e.toNat : Int), .int .u8 (m.f.toNat : Int)]) := RB
      have H := Lib.hid (find_hit _ T M 9 [3, 3, 3] _ ⟨x, m, p, 0, false⟩ w7 hT7 (by simp))
      have HT7 := Lib.hid hT7
      clear hg7 hT7
      go_wp2_with ((with_reducible refine at_load 23 (.tmp 5) ?_); refine wpList_load_own rfl 23 (.tmp 5) rfl _ rfl _ _ _ RB.out Try.underlying23 rfl info_mac ?_)
      refine H.out.mono ?_
      rintro e w8 ⟨rfl, hb8⟩
      have RB := Lib.hid (RB.out.kept hb8)
      have hbW := hbW.trans (hb8.mono hbW.size)
      have hT8 := HT7.out.later hb8
      have H := Lib.hid (find_hit _ T M 9 [3, 3, 3] _ ⟨y, m, q, 0, false⟩ w8 hT8 (by simp))
      have HT8 := Lib.hid hT8
      clear hb8 hT8 HT7
      go_wp2_with ((with_reducible refine at_load 23 (.tmp 5) ?_); refine wpList_load_own rfl 23 (.tmp 5) rfl _ rfl _ _ _ RB.out Try.underlying23 rfl info_mac ?_)
      refine H.out.mono ?_
      rintro e w9 ⟨rfl, hb9⟩
      have RB := Lib.hid (RB.out.kept hb9)
      have hbW := hbW.trans (hb9.mono hbW.size)
      have hT9 := HT8.out.later hb9
      have H := Lib.hid (drop_tab _ T M 9 [3, 3, 3] [⟨y, m, q, 0, false⟩, ⟨x, m, p, 0, false⟩] q w9 hT9 (by simp))
      have hpqI : ¬ (p : Int) = (q : Int) := by omega
      have hpqn : ((p : Int) != (q : Int)) = true := bne_iff_ne.2 hpqI
      have hst : [(⟨y, m, q, 0, false⟩ : Ent), ⟨x, m, p, 0, false⟩].filter (Ent.stays fun e => e.port == (q : Int)) = [⟨x, m, p, 0, false⟩] := by simp [Ent.stays, Ent.goes, hpqI]
      have hgo : ([(⟨y, m, q, 0, false⟩ : Ent), ⟨x, m, p, 0, false⟩].filter (Ent.goes fun e => e.port == (q : Int))).length = 1 := by simp [Ent.goes, List.filter_cons, hpqI]
      rw [hst, hgo] at H
      clear hb9 hT9 HT8 hst hgo
      go_wp2_with ((with_reducible refine at_load 23 (.tmp 5) ?_); refine wpList_load_own rfl 23 (.tmp 5) rfl _ rfl _ _ _ RB.out Try.underlying23 rfl info_mac ?_)
      refine H.out.mono ?_
      rintro e w10 ⟨rfl, hT10, hg10⟩
      have hbW := hbW.grown hg10 hbW.size (fun k e => by
        cases e
        exact hMw)
      have RB := Lib.hid ((hg10.block w.heap.size RB.out.lt (fun e => hb5M (by cases e; rfl))).trans RB.out)
      have RB : Hid (RowIs w10 w.heap.size 23 #[.int .u8 (m.a.toNat : Int), .int .u8 (m.b.toNat : Int), .int .u8 (m.c.toNat : Int), .int .u8 (m.d.toNat : Int), .int .u8 (m.e.toNat : Int), .int .u8 (m.f.toNat : Int)]) := RB
      have H := Lib.hid (find_miss _ T M 9 [3, 3, 3] [⟨x, m, p, 0, false⟩] y hIy m w10 hT10 (by rintro ⟨e, he, h1, _⟩; obtain rfl := List.mem_singleton.1 he; exact hxy h1))
      clear hT10 hg10
      go_wp2_with ((with_reducible refine at_load 23 (.tmp 5) ?_); refine wpList_load_own rfl 23 (.tmp 5) rfl _ rfl _ _ _ RB.out Try.underlying23 rfl info_mac ?_)
      refine H.out.mono ?_
      rintro e w11 ⟨rfl, hb11⟩
      have RB := Lib.hid (RB.out.kept hb11)
      have hbW := hbW.trans (hb11.mono hbW.size)
      clear hb11 H
      go_wp2_with fail
      go_ret
      exact ⟨rfl, hbW⟩


theorem learnMoves_walk (a b c d e f : UInt8) (v : Int) (hv : (Lit.int .u16 v).wf = true) (u : Int) (hu : (Lit.int .u16 u).wf = true) (p : Int) (hp : (Lit.int .u8 p).wf = true) (q : Int) (hq : (Lit.int .u8 q).wf = true) (w : World) :
    Calls Try.prog 3 #[.agg #[.int .u8 (a.toNat : Int), .int .u8 (b.toNat : Int), .int .u8 (c.toNat : Int), .int .u8 (d.toNat : Int), .int .u8 (e.toNat : Int), .int .u8 (f.toNat : Int)], .int .u16 v, .int .u16 u, .int .u8 p, .int .u8 q] w fun e w' => e = .returned (.bool true) ∧ Below w.heap.size w w' := by
  simp only [Lit.wf, Bool.and_eq_true, decide_eq_true_eq] at hv hu hp hq
  have hv : 0 ≤ v ∧ v ≤ 65535 := hv
  have hu : 0 ≤ u ∧ u ≤ 65535 := hu
  have hp : 0 ≤ p ∧ p ≤ 255 := hp
  have hq : 0 ≤ q ∧ q ≤ 255 := hq
  obtain ⟨v, rfl⟩ := Int.eq_ofNat_of_zero_le hv.1
  obtain ⟨u, rfl⟩ := Int.eq_ofNat_of_zero_le hu.1
  obtain ⟨p, rfl⟩ := Int.eq_ofNat_of_zero_le hp.1
  obtain ⟨q, rfl⟩ := Int.eq_ofNat_of_zero_le hq.1
  exact learnMoves_go ⟨a, b, c, d, e, f⟩ v u p q (by omega) (by omega) (by omega) (by omega) w
end Go.Proofs.Ytcdklbhfcfamnaa
