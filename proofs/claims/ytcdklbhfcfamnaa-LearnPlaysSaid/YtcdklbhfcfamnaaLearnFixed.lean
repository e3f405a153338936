/- Clear; Learn and Fix that can't; the walk of LearnFixed. By an AI agent. -/
import Derived.Test.YtcdklbhfcfamnaaLearnTick
import Derived.Test.YtcdklbhfcfamnaaLearnMoves
import Derived.Test.YtcdklbhfcfamnaaLearnSort
import Derived.Test.YtcdklbhfcfamnaaOpenActs
import Derived.Deep.MidRow
namespace Go.Proofs.Ytcdklbhfcfamnaa
open Go.RowKit Go.MapKept Go.Maps Go.WideShapes Go.Sort Grow

theorem wpList_load_midW {P : Program} {ops : Array Oper} {rest : List Oper} {op : Oper} {a : Act} {w : World} {Q : Exit → Act → World → Prop} (hgd : Region.wanted op (yielded ops a.tmps) = true) (ty : TypeId) (x : Operand) (ho : op.op = .load ty x)
    (b o : Nat) (hx : a.eval x = .pointer (some ⟨b, o, none⟩)) (cs : List Value) (d : TypeDesc) (hc : w.rangeAt b o cs)
    (hu : P.underlying ty = some d) (hd : d.isRow = true) (hi : (P.info? ty).map (·.size) = some cs.length)
    (h : wpList P ops Q rest (a.put op.dst (.agg cs.toArray)) w) : wpList P ops Q (op :: rest) a w :=
  BigFrame.wpList_want hgd fun _ hK => wp_load_mid ty x ho b o hx cs d hc hu hd hi (hK _ _ h)

set_option maxHeartbeats 2000000 in
theorem clear1_any (pb : Nat) (age : Int) (w : World) (e : Ent) (hp : w.cell? ⟨pb, 0, none⟩ = some (.int .i64 age)) :
    Calls Try.prog 37 #[.agg #[.int .i64 e.port, .int .i64 e.age, .bool e.fixed], .pointer (some ⟨pb, 0, none⟩)] w fun r W' => r = .returned (.bool (decide (age < e.age))) ∧ Below w.heap.size w W' := by
  have q : (w.alloc (.cells #[.int .i64 e.port, .int .i64 e.age, .bool e.fixed] 67)).cell? ⟨pb, 0, none⟩ = some (.int .i64 age) := (((Below.refl _ w).alloc (Nat.le_refl _) _).cell (p := ⟨pb, 0, none⟩) (cell_lt hp)).trans hp
  go_enter Try.func37, Try.ntmps37
  go_wp2_with fail
  go_ret
  exact ⟨rfl, (Below.refl _ w).alloc (Nat.le_refl _) _⟩

set_option maxHeartbeats 2000000 in
theorem clear_tab (B T M : Nat) (ageing : Int) (lims : List Int) (L : List Ent) (age : Int) (w : World) (h : TabIs B T M w ageing lims L) (hL : L.length ≤ 1000000) :
    Calls Try.prog 16 #[.pointer (some ⟨T, 0, none⟩), .int .i64 age] w fun r w' => r = .returned (.int .i64 ((L.filter (Ent.goes fun e => decide (age < e.age))).length : Nat)) ∧ TabIs B T M w' ageing lims (L.filter (Ent.stays fun e => decide (age < e.age))) ∧ w.grownBy w' (some M) := by
  have HTAB := Lib.hid h
  obtain ⟨la, lc, hT, hBT, hBM, ho, hM, hIV⟩ := h
  have hb : Below w.heap.size w (w.alloc (.cells #[.int .i64 age] 3)) := (Below.refl _ w).alloc (Nat.le_refl _) _
  have H := Lib.hid (gone_any T M 37 (.pointer (some ⟨w.heap.size, 0, none⟩)) (fun e => decide (age < e.age)) _ _ L _ (hT.kept hb) (hM.kept hb) hL hIV (enters_of Try.func37 (by kernel_rfl) rfl) (fun W e hg => clear1_any w.heap.size age W e ((RowIs.cell (show RowIs W w.heap.size 3 #[.int .i64 age] from (hg.block w.heap.size (by simp) (fun h => by
    have := hM.lt
    cases h
    omega)).trans (rowIs_new w 3 #[.int .i64 age])) 0))))
  have HV := Lib.hid hIV
  clear hT hM ho hIV hBT hBM
  go_enter Try.func16, Try.ntmps16
  go_wp2_with fail
  refine H.out.mono ?_
  rintro r w2 ⟨rfl, hm2, hg2⟩
  have hgF : w.grownBy w2 (some M) := ⟨hg2.os.trans hb.os, hg2.tape.trans hb.tape, hg2.output.trans hb.output, Nat.le_trans hb.size hg2.size, fun k hk hne => (hg2.block k (by simp; omega) hne).trans (hb.block k hk)⟩
  have HFIN := Lib.hid (tab_put HTAB.out hm2 (fun e he => HV.out e (List.mem_filter.1 he).1) hgF)
  clear hm2 hg2
  go_wp2_with fail
  go_ret
  exact ⟨rfl, HFIN.out, hgF⟩

set_option maxHeartbeats 2000000 in
theorem learn_may (T : Nat) (v : Int) (m : Mac6) (q r : Int) (hr0 : r ≠ 0) (w : World)
    (hmay : ∀ w', Below w.heap.size w w' → Calls Try.prog 27 #[.pointer (some ⟨T, 0, none⟩), .int .i64 v, .agg #[.int .u8 (m.a.toNat : Int), .int .u8 (m.b.toNat : Int), .int .u8 (m.c.toNat : Int), .int .u8 (m.d.toNat : Int), .int .u8 (m.e.toNat : Int), .int .u8 (m.f.toNat : Int)], .int .i64 q] w' fun e w'' => e = .returned (.int .i64 r) ∧ Below w'.heap.size w' w'') :
    Calls Try.prog 11 #[.pointer (some ⟨T, 0, none⟩), .int .i64 v, .agg #[.int .u8 (m.a.toNat : Int), .int .u8 (m.b.toNat : Int), .int .u8 (m.c.toNat : Int), .int .u8 (m.d.toNat : Int), .int .u8 (m.e.toNat : Int), .int .u8 (m.f.toNat : Int)], .int .i64 q] w fun e w' => e = .returned (.int .i64 r) ∧ Below w.heap.size w w' := by
  have hbW : Below w.heap.size w (w.alloc (.cells #[.int .u8 (m.a.toNat : Int), .int .u8 (m.b.toNat : Int), .int .u8 (m.c.toNat : Int), .int .u8 (m.d.toNat : Int), .int .u8 (m.e.toNat : Int), .int .u8 (m.f.toNat : Int)] 23)) := (Below.refl _ w).alloc (Nat.le_refl _) _
  have HR : Hid (RowIs (w.alloc (.cells #[.int .u8 (m.a.toNat : Int), .int .u8 (m.b.toNat : Int), .int .u8 (m.c.toNat : Int), .int .u8 (m.d.toNat : Int), .int .u8 (m.e.toNat : Int), .int .u8 (m.f.toNat : Int)] 23)) w.heap.size 23 #[.int .u8 (m.a.toNat : Int), .int .u8 (m.b.toNat : Int), .int .u8 (m.c.toNat : Int), .int .u8 (m.d.toNat : Int), .int .u8 (m.e.toNat : Int), .int .u8 (m.f.toNat : Int)]) := rowIs_new w 23 #[.int .u8 (m.a.toNat : Int), .int .u8 (m.b.toNat : Int), .int .u8 (m.c.toNat : Int), .int .u8 (m.d.toNat : Int), .int .u8 (m.e.toNat : Int), .int .u8 (m.f.toNat : Int)]
  have HMAY := Lib.hid (hmay _ hbW)
  have hrb : (r != 0) = true := bne_iff_ne.2 hr0
  clear hmay
  go_enter Try.func11, Try.ntmps11
  go_wp2_with ((with_reducible refine at_load 23 (.tmp 6) ?_); refine wpList_load_own rfl 23 (.tmp 6) rfl _ rfl _ _ _ HR.out Try.underlying23 rfl info_mac ?_)
  refine HMAY.out.mono ?_
  rintro e w1 ⟨rfl, hb1⟩
  have hbW := hbW.trans (hb1.mono hbW.size)
  clear hb1 HMAY HR
  go_wp2_with fail
  go_ret
  exact ⟨rfl, hbW⟩
set_option maxHeartbeats 2000000 in
theorem fix_may (T : Nat) (v : Int) (m : Mac6) (q r : Int) (hr0 : r ≠ 0) (w : World)
    (hmay : ∀ w', Below w.heap.size w w' → Calls Try.prog 27 #[.pointer (some ⟨T, 0, none⟩), .int .i64 v, .agg #[.int .u8 (m.a.toNat : Int), .int .u8 (m.b.toNat : Int), .int .u8 (m.c.toNat : Int), .int .u8 (m.d.toNat : Int), .int .u8 (m.e.toNat : Int), .int .u8 (m.f.toNat : Int)], .int .i64 q] w' fun e w'' => e = .returned (.int .i64 r) ∧ Below w'.heap.size w' w'') :
    Calls Try.prog 17 #[.pointer (some ⟨T, 0, none⟩), .int .i64 v, .agg #[.int .u8 (m.a.toNat : Int), .int .u8 (m.b.toNat : Int), .int .u8 (m.c.toNat : Int), .int .u8 (m.d.toNat : Int), .int .u8 (m.e.toNat : Int), .int .u8 (m.f.toNat : Int)], .int .i64 q] w fun e w' => e = .returned (.int .i64 r) ∧ Below w.heap.size w w' := by
  have hbW : Below w.heap.size w (w.alloc (.cells #[.int .u8 (m.a.toNat : Int), .int .u8 (m.b.toNat : Int), .int .u8 (m.c.toNat : Int), .int .u8 (m.d.toNat : Int), .int .u8 (m.e.toNat : Int), .int .u8 (m.f.toNat : Int)] 23)) := (Below.refl _ w).alloc (Nat.le_refl _) _
  have HR : Hid (RowIs (w.alloc (.cells #[.int .u8 (m.a.toNat : Int), .int .u8 (m.b.toNat : Int), .int .u8 (m.c.toNat : Int), .int .u8 (m.d.toNat : Int), .int .u8 (m.e.toNat : Int), .int .u8 (m.f.toNat : Int)] 23)) w.heap.size 23 #[.int .u8 (m.a.toNat : Int), .int .u8 (m.b.toNat : Int), .int .u8 (m.c.toNat : Int), .int .u8 (m.d.toNat : Int), .int .u8 (m.e.toNat : Int), .int .u8 (m.f.toNat : Int)]) := rowIs_new w 23 #[.int .u8 (m.a.toNat : Int), .int .u8 (m.b.toNat : Int), .int .u8 (m.c.toNat : Int), .int .u8 (m.d.toNat : Int), .int .u8 (m.e.toNat : Int), .int .u8 (m.f.toNat : Int)]
  have HMAY := Lib.hid (hmay _ hbW)
  have hrb : (r != 0) = true := bne_iff_ne.2 hr0
  clear hmay
  go_enter Try.func17, Try.ntmps17
  go_wp2_with ((with_reducible refine at_load 23 (.tmp 6) ?_); refine wpList_load_own rfl 23 (.tmp 6) rfl _ rfl _ _ _ HR.out Try.underlying23 rfl info_mac ?_)
  refine HMAY.out.mono ?_
  rintro e w1 ⟨rfl, hb1⟩
  have hbW := hbW.trans (hb1.mono hbW.size)
  clear hb1 HMAY HR
  go_wp2_with fail
  go_ret
  exact ⟨rfl, hbW⟩

/-- what is fixed, all of it in VLAN 7 on port 0 -/
def AllFixed (L : List Ent) (k : Int) : Prop := ∀ e ∈ L, e.v = 7 ∧ e.port = 0 ∧ e.fixed = true ∧ e.age = k
theorem fixed_stays {L : List Ent} {k : Int} (h : AllFixed L k) (f : Ent → Bool) : L.filter (Ent.stays f) = L ∧ L.filter (Ent.goes f) = [] := by
  refine ⟨List.filter_eq_self.2 fun e he => ?_, List.filter_eq_nil_iff.2 fun e he => ?_⟩
  · unfold Ent.stays Ent.goes
    rw [(h e he).2.2.1]
    rfl
  · unfold Ent.goes
    rw [(h e he).2.2.1]
    simp
theorem fixed_tick {L : List Ent} {k a : Int} (h : AllFixed L k) : AllFixed (tickL a L) (k + 1) ∧ (tickL a L).length = L.length := by
  have h1 : AllFixed (L.map Ent.older) (k + 1) := fun e he => by
    obtain ⟨e0, he0, rfl⟩ := List.mem_map.1 he
    obtain ⟨a1, a2, a3, a4⟩ := h e0 he0
    exact ⟨a1, a2, a3, by show e0.age + 1 = _; rw [a4]⟩
  unfold tickL
  rw [(fixed_stays h1 _).1]
  exact ⟨h1, by simp⟩
theorem fixed_on {L : List Ent} {k p : Int} (h : AllFixed L k) : onN p L = 0 := by
  unfold onN
  rw [List.filter_eq_nil_iff.2 fun e he => ?_]
  · rfl
  · rw [(h e he).2.2.1]
    simp

set_option maxRecDepth 20000 in
set_option maxHeartbeats 4000000 in
theorem learnFixed_go (ao : Option Addr) (ms : List Mac6) (cap n : Nat) (hn : n < 256) (w : World) (hl : ms.length ≤ 50) (hA : ManyAt w ao macCells 6 ms) :
    Calls Try.prog 6 #[.slice ao ms.length cap, .int .u8 n] w fun e w' => e = .returned (.bool true) ∧ Below w.heap.size w w' := by
  have HA := Lib.hid hA
  have g1 : ((ms.length : Int) > 50) = False := by simp; omega
  clear hA
  go_enter Try.func6, Try.ntmps6
  go_wp2_with fail
  refine (awake_any _).mono ?_
  rintro e w1 ⟨rfl, hbW⟩
  have hbS : Below w1.heap.size w1 (w1.alloc (.cells #[.int .i64 1, .int .i64 1] 3)) := (Below.refl _ w1).alloc (Nat.le_refl _) _
  have HN := Lib.hid (new_ok 5 (by omega) (some ⟨w1.heap.size, 0, none⟩) [1, 1] 2 (w1.alloc (.cells #[.int .i64 1, .int .i64 1] 3)) (ints_new w1 [1, 1]) (by decide) (by decide))
  go_wp2_with fail
  refine HN.out.mono ?_
  rintro e w2 ⟨T, M, rfl, hT, hb2⟩
  have hB1 := Nat.le_trans hbW.size hbS.size
  have hbW := (hbW.trans (hbS.mono hbW.size)).trans (hb2.mono hB1)
  clear hb2 hbS HN
  generalize (w1.alloc (.cells #[.int .i64 1, .int .i64 1] 3)).heap.size = BB at *
  have hBM := hT.baseM
  have hMw : w.heap.size ≤ M := Nat.le_trans hB1 hBM
  have HT0 := Lib.hid hT
  clear hT g1
  go_upto_region 7 with fail
  go_wp2_with fail
  go_loopw [7, 8, 9] (fun s7 s8 _ wr => ∃ (i : Nat) (L : List Ent), i ≤ ms.length ∧ s8 = .int .i64 i ∧ s7 = .int .i64 (L.length : Nat) ∧ L.length ≤ i ∧ Hid (TabIs BB T M wr 5 [1, 1] L) ∧ Hid (AllFixed L 0) ∧ Below w.heap.size w wr) (fun _ s8 _ _ => ms.length - (intOf s8).toNat)
  case atStart => exact ⟨0, [], Nat.zero_le _, rfl, rfl, Nat.zero_le _, HT0, (fun e he => by cases he), hbW⟩
  case round =>
    clear hbW HT0
    rename_i wr
    obtain ⟨i, L, hi, rfl, rfl, hLi, HT, HF, hbW⟩ := hrel
    by_cases hlt : i < ms.length
    · obtain ⟨b, off, hao, HK0⟩ : ∃ b off, ao = some ⟨b, off, none⟩ ∧ Hid (∀ w', Below w.heap.size w w' → ∀ j v, (macCells ms[i])[j]? = some v → w'.cell? ⟨b, off + i * 6 + j, none⟩ = some v) := by
        rcases HA.out with h | ⟨b, off, e, hb, hc⟩
        · rw [h] at hlt; exact absurd hlt (Nat.not_lt_zero _)
        · exact ⟨b, off, e, fun w' hb' j v hj => (hb'.cell (p := ⟨b, off + i * 6 + j, none⟩) hb).trans (hc i hlt j v hj)⟩
      generalize ms[i] = m at HK0
      subst hao
      have HK := Lib.hid (HK0.out wr hbW)
      cases hg : grp m.a
      · have hm0 : mayBad [1, 1] 7 m 0 = false := by
          unfold mayBad
          rw [hg]
          rfl
        have hm1 : mayBad [1, 1] 7 m 1 = false := by
          unfold mayBad
          rw [hg]
          rfl
        by_cases hk : HasKey L 7 m
        · obtain ⟨e0, he0, h1, h2⟩ := hk
          have hf0 := (HF.out e0 he0).2.2.1
          have HMF : Hid (∀ (q : Int) (hq : mayBad [1, 1] 7 m q = false) (w' : World), TabIs BB T M w' 5 [1, 1] L → Calls Try.prog 27 #[.pointer (some ⟨T, 0, none⟩), .int .i64 7, .agg #[.int .u8 (m.a.toNat : Int), .int .u8 (m.b.toNat : Int), .int .u8 (m.c.toNat : Int), .int .u8 (m.d.toNat : Int), .int .u8 (m.e.toNat : Int), .int .u8 (m.f.toNat : Int)], .int .i64 q] w' fun e w'' => e = .returned (.int .i64 10) ∧ Below w'.heap.size w' w'') := fun q hq w' hT' => by
            have := may_fixed BB T M 5 [1, 1] L e0 q w' hT' (by rw [h1, h2]; exact hq) he0
            rw [hf0, h1, h2] at this
            exact this
          clear he0 h1 h2 hf0
          have H1 : Hid (Calls Try.prog 17 #[.pointer (some ⟨T, 0, none⟩), .int .i64 7, .agg (macCells m).toArray, .int .i64 0] wr fun e w' => e = .returned (.int .i64 10) ∧ Below wr.heap.size wr w') := fix_may T 7 m 0 10 (by decide) wr (fun w' hb' => HMF.out 0 hm0 w' (HT.out.later hb'))
          go_wp2_with ((with_reducible refine at_load 23 (.tmp 35) ?_); refine wpList_load_midW rfl 23 (.tmp 35) rfl b (off + i * 6) rfl (macCells m) _ HK.out Try.underlying23 rfl (by kernel_rfl) ?_)
          refine H1.out.mono ?_
          rintro e w3 ⟨rfl, hb3⟩
          have hbW := hbW.trans (hb3.mono hbW.size)
          have HT3 := Lib.hid (HT.out.later hb3)
          have HK := Lib.hid (HK0.out w3 hbW)
          have H2 : Hid (Calls Try.prog 11 #[.pointer (some ⟨T, 0, none⟩), .int .i64 7, .agg (macCells m).toArray, .int .i64 1] w3 fun e w' => e = .returned (.int .i64 10) ∧ Below w3.heap.size w3 w') := learn_may T 7 m 1 10 (by decide) w3 (fun w' hb' => HMF.out 1 hm1 w' (HT3.out.later hb'))
          clear hb3 H1 HT
          go_wp2_with ((with_reducible refine at_load 23 (.tmp 59) ?_); refine wpList_load_midW rfl 23 (.tmp 59) rfl b (off + i * 6) rfl (macCells m) _ HK.out Try.underlying23 rfl (by kernel_rfl) ?_)
          refine H2.out.mono ?_
          rintro e w4 ⟨rfl, hb4⟩
          have hbW := hbW.trans (hb4.mono hbW.size)
          have HT4 := Lib.hid (HT3.out.later hb4)
          clear hb4 H2 HT3
          go_wp2_with fail
          refine ⟨⟨i + 1, L, by omega, by go_num, rfl, by omega, HT4, HF, hbW⟩, by simp [intOf]; omega⟩
        · have HT1 := Lib.hid (show ∀ e ∈ (⟨7, m, 0, 0, true⟩ : Ent) :: L, I64 e.v from fun e he => by
            rcases List.mem_cons.1 he with rfl | he'
            · exact (show I64 7 from ⟨by decide, by decide⟩)
            · obtain ⟨_, _, _, _, _, _, _, h6⟩ := HT.out
              exact h6 e he')
          obtain ⟨xk, hxk⟩ := keyOf_learn 7 ⟨by decide, by decide⟩ m
          have H1 : Hid (Calls Try.prog 17 #[.pointer (some ⟨T, 0, none⟩), .int .i64 7, .agg (macCells m).toArray, .int .i64 0] wr fun e w' => e = .returned (.int .i64 0) ∧ TabIs BB T M w' 5 [1, 1] ((⟨7, m, 0, 0, true⟩ : Ent) :: L) ∧ wr.grownBy w' (some M)) := fix_put BB T M 5 [1, 1] L _ 7 m 0 wr HT.out HT1.out (fun w' hb' => may_new BB T M 5 [1, 1] L 7 ⟨by decide, by decide⟩ m 0 w' (HT.out.later hb') hm0 hk) (fun w' hM => run_update_newP learn_keyed Try.underlying61 hM hxk (no_key hk) (placeV 0 0 true))
          clear hxk
          go_wp2_with ((with_reducible refine at_load 23 (.tmp 35) ?_); refine wpList_load_midW rfl 23 (.tmp 35) rfl b (off + i * 6) rfl (macCells m) _ HK.out Try.underlying23 rfl (by kernel_rfl) ?_)
          refine H1.out.mono ?_
          rintro e w3 ⟨rfl, hT3, hg3⟩
          have hbW := hbW.grown hg3 hbW.size (fun k e => by
            cases e
            exact hMw)
          have HT3 := Lib.hid hT3
          have HK := Lib.hid (HK0.out w3 hbW)
          have H2 : Hid (Calls Try.prog 11 #[.pointer (some ⟨T, 0, none⟩), .int .i64 7, .agg (macCells m).toArray, .int .i64 1] w3 fun e w' => e = .returned (.int .i64 10) ∧ Below w3.heap.size w3 w') := learn_may T 7 m 1 10 (by decide) w3 (fun w' hb' => may_fixed BB T M 5 [1, 1] _ ⟨7, m, 0, 0, true⟩ 1 w' (HT3.out.later hb') hm1 (by simp))
          clear hT3 hg3 H1 HT
          go_wp2_with ((with_reducible refine at_load 23 (.tmp 59) ?_); refine wpList_load_midW rfl 23 (.tmp 59) rfl b (off + i * 6) rfl (macCells m) _ HK.out Try.underlying23 rfl (by kernel_rfl) ?_)
          refine H2.out.mono ?_
          rintro e w4 ⟨rfl, hb4⟩
          have hbW := hbW.trans (hb4.mono hbW.size)
          have HT4 := Lib.hid (HT3.out.later hb4)
          have HF4 : Hid (AllFixed ((⟨7, m, 0, 0, true⟩ : Ent) :: L) 0) := fun e he => by
            rcases List.mem_cons.1 he with rfl | he'
            · exact ⟨rfl, rfl, rfl, rfl⟩
            · exact HF.out e he'
          clear hb4 H2 HT3
          go_wp2_with fail
          refine ⟨⟨i + 1, _, by omega, by go_num, by simp, by simp; omega, HT4, HF4, hbW⟩, by simp [intOf]; omega⟩
      · have hm0 : mayBad [1, 1] 7 m 0 = true := by
          unfold mayBad
          rw [hg]
          rfl
        have H1 : Hid (Calls Try.prog 17 #[.pointer (some ⟨T, 0, none⟩), .int .i64 7, .agg (macCells m).toArray, .int .i64 0] wr fun e w' => e = .returned (.int .i64 1) ∧ Below wr.heap.size wr w') := fix_may T 7 m 0 1 (by decide) wr (fun w' hb' => may_bad BB T M 5 [1, 1] L 7 m 0 w' (HT.out.later hb') hm0)
        go_wp2_with ((with_reducible refine at_load 23 (.tmp 35) ?_); refine wpList_load_midW rfl 23 (.tmp 35) rfl b (off + i * 6) rfl (macCells m) _ HK.out Try.underlying23 rfl (by kernel_rfl) ?_)
        refine H1.out.mono ?_
        rintro e w3 ⟨rfl, hb3⟩
        have hbW := hbW.trans (hb3.mono hbW.size)
        have HT3 := Lib.hid (HT.out.later hb3)
        clear hb3 H1 HT
        go_wp2_with fail
        refine ⟨⟨i + 1, L, by omega, by go_num, rfl, by omega, HT3, HF, hbW⟩, by simp [intOf]; omega⟩
    · go_upto_region 15 with fail
      go_wp2_with fail
      have hLl : L.length ≤ 50 := by omega
      have hne0 := hlt
      clear hlt hi hne0
      obtain ⟨kept, hkept⟩ : ∃ kept, kept = L.length := ⟨_, rfl⟩
      rw [← hkept]
      have HKL := Lib.hid hkept.symm
      rw [← hkept] at hLl
      clear hkept hLi
      go_loopw [10] (fun s10 wr => ∃ (k : Nat) (L : List Ent), k ≤ 20 ∧ s10 = .int .i64 k ∧ Hid (L.length = kept) ∧ Hid (TabIs BB T M wr 5 [1, 1] L) ∧ Hid (AllFixed L k) ∧ Below w.heap.size w wr) (fun s10 _ => 30 - (intOf s10).toNat)
      case atStart => exact ⟨0, L, Nat.zero_le _, rfl, HKL, HT, HF, hbW⟩
      case round =>
        clear hbW HT HF HKL
        rename_i wr
        obtain ⟨k, L, hk, rfl, HKL, HT, HF, hbW⟩ := hrel
        by_cases hlt : (k : Int) < (n : Int) % 20
        · have HTK := Lib.hid (tick_any BB T M 5 [1, 1] L wr HT.out (by rw [HKL.out]; omega) (fun e he => by
            have := (HF.out e he).2.2.2
            omega))
          go_wp2_with fail
          refine HTK.out.mono ?_
          rintro r w3 ⟨⟨v, rfl⟩, hT3, hg3⟩
          have hbW := hbW.grown hg3 hbW.size (fun k e => by
            cases e
            exact hMw)
          have HT3 := Lib.hid hT3
          obtain ⟨hf3, hl3⟩ := fixed_tick (a := 5) HF.out
          have HF3 : Hid (AllFixed (tickL 5 L) ((k + 1 : Nat) : Int)) := hf3
          have HL3 : Hid ((tickL 5 L).length = kept) := hl3.trans HKL.out
          clear hT3 hg3 hf3 hl3 HTK HT HF HKL
          go_wp2_with fail
          refine ⟨⟨k + 1, _, by omega, by go_num, HL3, HT3, HF3, hbW⟩, by simp [intOf]; omega⟩
        · have H := Lib.hid (clear_tab BB T M 5 [1, 1] L (-1) wr HT.out (by rw [HKL.out]; omega))
          rw [(fixed_stays HF.out _).1, (fixed_stays HF.out _).2] at H
          go_wp2_with fail
          refine H.out.mono ?_
          rintro r w3 ⟨rfl, hT3, hg3⟩
          have hbW := hbW.grown hg3 hbW.size (fun k e => by
            cases e
            exact hMw)
          have H := Lib.hid (drop_tab BB T M 5 [1, 1] L 0 w3 hT3 (by rw [HKL.out]; omega))
          rw [(fixed_stays HF.out _).1, (fixed_stays HF.out _).2] at H
          clear hT3 hg3 HT
          go_wp2_with fail
          refine H.out.mono ?_
          rintro r w4 ⟨rfl, hT4, hg4⟩
          have hbW := hbW.grown hg4 hbW.size (fun k e => by
            cases e
            exact hMw)
          have HT4 := Lib.hid hT4
          have H := Lib.hid (all_any BB T M 5 [1, 1] L w4 hT4 (by rw [HKL.out]; omega))
          clear hT4 hg4
          go_wp2_with fail
          refine H.out.mono ?_
          rintro r w5 ⟨ao5, ds5, cap5, rfl, hp5, -, -, hb5⟩
          have hbW := hbW.trans (hb5.mono hbW.size)
          have hl5 : ds5.length = kept := by rw [hp5.length_eq, List.length_map, HKL.out]
          have hT5 := HT4.out.later hb5
          have hnk : ¬ HasKey L 8 ⟨2, 9, 0, 0, 0, 0⟩ := by
            rintro ⟨e, he, h1, _⟩
            have := (HF.out e he).1
            omega
          have H : Hid (Calls Try.prog 11 #[.pointer (some ⟨T, 0, none⟩), .int .i64 8, .agg #[.int .u8 2, .int .u8 9, .int .u8 0, .int .u8 0, .int .u8 0, .int .u8 0], .int .i64 0] w5 fun e w' => e = .returned (.int .i64 0) ∧ TabIs BB T M w' 5 [1, 1] (⟨8, ⟨2, 9, 0, 0, 0, 0⟩, 0, 0, false⟩ :: L) ∧ w5.grownBy w' (some M)) := learn_new BB T M 5 [1, 1] L 8 ⟨2, 9, 0, 0, 0, 0⟩ 0 w5 hT5 (by rw [HKL.out]; omega) (by decide) (by decide) hnk (by rw [fixed_on HF.out]; decide)
          rw [hl5]
          clear hp5 hb5 hT5 hnk HT4 hl5
          go_wp2_with fail
          refine H.out.mono ?_
          rintro r w6 ⟨rfl, hT6, hg6⟩
          have hbW := hbW.grown hg6 hbW.size (fun k e => by
            cases e
            exact hMw)
          have H := Lib.hid (all_any BB T M 5 [1, 1] _ w6 hT6 (by simp; rw [HKL.out]; omega))
          clear hT6 hg6
          go_wp2_with fail
          refine H.out.mono ?_
          rintro r w7 ⟨ao7, ds7, cap7, rfl, hp7, -, -, hb7⟩
          have hbW := hbW.trans (hb7.mono hbW.size)
          have hl7 : ds7.length = kept + 1 := by rw [hp7.length_eq, List.length_map, List.length_cons, HKL.out]
          rw [hl7]
          clear hp7 hb7 hl7
          go_wp2_with fail
          go_ret
          exact ⟨rfl, hbW⟩

theorem learnFixed_walk (ao : Option Addr) (ms : List Mac6) (cap : Nat) (n : Int) (hn : (Lit.int .u8 n).wf = true) (w : World) (hA : ManyAt w ao macCells 6 ms) (hl : ms.length ≤ 9223372036854775807) :
    Calls Try.prog 6 #[.slice ao ms.length cap, .int .u8 n] w fun e w' => e = .returned (.bool true) ∧ Below w.heap.size w w' := by
  simp only [Lit.wf, Bool.and_eq_true, decide_eq_true_eq] at hn
  have hn : 0 ≤ n ∧ n ≤ 255 := hn
  obtain ⟨n, rfl⟩ := Int.eq_ofNat_of_zero_le hn.1
  by_cases h : ms.length ≤ 50
  · exact learnFixed_go ao ms cap n (by omega) w h hA
  · have g1 : ((ms.length : Int) > 50) = True := by simp; omega
    have g2 : decide ((50 : Int) < (ms.length : Int)) = true := decide_eq_true (by omega)
    clear hA
    go_enter Try.func6, Try.ntmps6
    go_wp2_with fail
    refine (awake_any _).mono ?_
    rintro e w1 ⟨rfl, hb⟩
    go_wp2_with fail
    refine (awake_any _).mono ?_
    rintro e w2 ⟨rfl, hb2⟩
    have hbW := hb.trans (hb2.mono hb.size)
    clear hb hb2
    go_wp2_with fail
    go_ret
    exact ⟨rfl, hbW⟩
end Go.Proofs.Ytcdklbhfcfamnaa
