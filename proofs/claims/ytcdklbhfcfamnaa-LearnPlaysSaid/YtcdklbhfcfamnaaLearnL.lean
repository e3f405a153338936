/- Learn. By an AI agent. -/
import Derived.Test.YtcdklbhfcfamnaaLearnTab
import Derived.BigRegion
namespace Go.Proofs.Ytcdklbhfcfamnaa
open Go.RowKit Go.MapKept Go.Maps Go.WideShapes Go.Sort Grow

set_option maxRecDepth 20000 in
set_option maxHeartbeats 4000000 in
theorem learn_full (B T M : Nat) (ageing : Int) (lims : List Int) (L : List Ent) (v : Int) (m : Mac6) (q : Nat) (hq : q < lims.length) (lim : Int) (hlim : lims.getD q 0 = lim) (p0 age0 : Int) (fixed0 ok : Bool) (w : World) (h : TabIs B T M w ageing lims L) (hL : L.length ≤ 1000000) (hlims : lims.length ≤ 1000000)
    (hmay : ∀ w', Below w.heap.size w w' → Calls Try.prog 27 #[.pointer (some ⟨T, 0, none⟩), .int .i64 v, .agg #[.int .u8 (m.a.toNat : Int), .int .u8 (m.b.toNat : Int), .int .u8 (m.c.toNat : Int), .int .u8 (m.d.toNat : Int), .int .u8 (m.e.toNat : Int), .int .u8 (m.f.toNat : Int)], .int .i64 (q : Nat)] w' fun e w'' => e = .returned (.int .i64 0) ∧ Below w'.heap.size w' w'')
    (hr : ∀ w', MapP Try.prog 65 w' M (L.map Ent.kv) → (Instr.lookup 61 (.map (some M)) (keyV v m) true).run Try.prog w' = .ok (.tuple #[placeV p0 age0 fixed0, .bool ok]) w') (hneed : ok = false ∨ p0 ≠ (q : Int)) (hon : lim ≤ (onN q L : Int)) :
    Calls Try.prog 11 #[.pointer (some ⟨T, 0, none⟩), .int .i64 v, .agg #[.int .u8 (m.a.toNat : Int), .int .u8 (m.b.toNat : Int), .int .u8 (m.c.toNat : Int), .int .u8 (m.d.toNat : Int), .int .u8 (m.e.toNat : Int), .int .u8 (m.f.toNat : Int)], .int .i64 (q : Nat)] w fun e w' => e = .returned (.int .i64 8) ∧ Below w.heap.size w w' := by
  obtain ⟨la, lc, hT, hBT, hBM, ho, hM, hIV⟩ := h
  obtain ⟨g, rfl, HLIM⟩ : ∃ g, la = some ⟨g, 0, none⟩ ∧ Hid (∀ w', Below w.heap.size w w' → w'.cell? ⟨g, q, none⟩ = some (.int .i64 lim)) := by
    rcases ho.2 with ⟨_, h0⟩ | ⟨g, cap, cur, e, hBg, hR, hle, hm, hcs, ht⟩
    · omega
    · simp only [Value.slice.injEq] at e
      refine ⟨g, e.1, fun w' hb => ?_⟩
      rw [RowIs.cell (RowIs.kept (show RowIs w g 3 cur from hR) hb)]
      have h1 : (cur.toList.take (lims.length * 1))[q]? = some (.int .i64 lim) := by
        rw [← hlim, ht, List.getElem?_map, List.getElem?_eq_getElem hq, List.getD, List.getElem?_eq_getElem hq]
        rfl
      rw [List.getElem?_take_of_lt (by omega), Array.getElem?_toList] at h1
      exact h1
  have hbW : Below w.heap.size w (w.alloc (.cells #[.int .u8 (m.a.toNat : Int), .int .u8 (m.b.toNat : Int), .int .u8 (m.c.toNat : Int), .int .u8 (m.d.toNat : Int), .int .u8 (m.e.toNat : Int), .int .u8 (m.f.toNat : Int)] 23)) := (Below.refl _ w).alloc (Nat.le_refl _) _
  have HR : Hid (RowIs (w.alloc (.cells #[.int .u8 (m.a.toNat : Int), .int .u8 (m.b.toNat : Int), .int .u8 (m.c.toNat : Int), .int .u8 (m.d.toNat : Int), .int .u8 (m.e.toNat : Int), .int .u8 (m.f.toNat : Int)] 23)) w.heap.size 23 #[.int .u8 (m.a.toNat : Int), .int .u8 (m.b.toNat : Int), .int .u8 (m.c.toNat : Int), .int .u8 (m.d.toNat : Int), .int .u8 (m.e.toNat : Int), .int .u8 (m.f.toNat : Int)]) := rowIs_new w 23 #[.int .u8 (m.a.toNat : Int), .int .u8 (m.b.toNat : Int), .int .u8 (m.c.toNat : Int), .int .u8 (m.d.toNat : Int), .int .u8 (m.e.toNat : Int), .int .u8 (m.f.toNat : Int)]
  have HT := Lib.hid hT
  have HM := Lib.hid hM
  have HMAY := Lib.hid (hmay _ hbW)
  have hlk := Lib.hid hr
  have hTl := hT.lt
  clear hT hM hr hmay ho hBT hBM hIV
  go_enter Try.func11, Try.ntmps11
  go_wp2_with ((with_reducible refine at_load 23 (.tmp 6) ?_); refine wpList_load_own rfl 23 (.tmp 6) rfl _ rfl _ _ _ HR.out Try.underlying23 rfl info_mac ?_)
  refine HMAY.out.mono ?_
  rintro e w1 ⟨rfl, hb1⟩
  have HR1 := Lib.hid (HR.out.kept hb1)
  have hbW := hbW.trans (hb1.mono hbW.size)
  have hs1 := HR1.out.lt
  clear hb1 HMAY HR
  go_upto_region 4 with fail
  go_wp2_with ((with_reducible refine at_load 23 (.tmp 6) ?_); refine wpList_load_own rfl 23 (.tmp 6) rfl _ rfl _ _ _ HR1.out Try.underlying23 rfl info_mac ?_)
  have hbW := hbW.trans (((Below.refl _ w1).alloc (Nat.le_refl _) (.cells #[.int .i64 v, .int .u8 (m.a.toNat : Int), .int .u8 (m.b.toNat : Int), .int .u8 (m.c.toNat : Int), .int .u8 (m.d.toNat : Int), .int .u8 (m.e.toNat : Int), .int .u8 (m.f.toNat : Int)] 65)).mono hbW.size)
  have HK : Hid (RowIs (w1.alloc (.cells #[.int .i64 v, .int .u8 (m.a.toNat : Int), .int .u8 (m.b.toNat : Int), .int .u8 (m.c.toNat : Int), .int .u8 (m.d.toNat : Int), .int .u8 (m.e.toNat : Int), .int .u8 (m.f.toNat : Int)] 65)) w1.heap.size 65 #[.int .i64 v, .int .u8 (m.a.toNat : Int), .int .u8 (m.b.toNat : Int), .int .u8 (m.c.toNat : Int), .int .u8 (m.d.toNat : Int), .int .u8 (m.e.toNat : Int), .int .u8 (m.f.toNat : Int)]) := rowIs_new w1 65 #[.int .i64 v, .int .u8 (m.a.toNat : Int), .int .u8 (m.b.toNat : Int), .int .u8 (m.c.toNat : Int), .int .u8 (m.d.toNat : Int), .int .u8 (m.e.toNat : Int), .int .u8 (m.f.toNat : Int)]
  clear HR1
  generalize hkb : w1.heap.size = kb at *
  have hKl := HK.out.lt
  clear hkb
  generalize (w1.alloc (.cells #[.int .i64 v, .int .u8 (m.a.toNat : Int), .int .u8 (m.b.toNat : Int), .int .u8 (m.c.toNat : Int), .int .u8 (m.d.toNat : Int), .int .u8 (m.e.toNat : Int), .int .u8 (m.f.toNat : Int)] 65)) = W at *
  have hs := hbW.size
  have d1 : W.drew.cell? ⟨T, 2, none⟩ = some (.map (some M)) := (HT.out.kept (hbW.trans ((Below.refl _ W).drew.mono hs))).cell 2
  have hbZ : Below W.heap.size W (W.alloc (.cells #[.int .i64 0, .int .i64 0, .bool false] 67)).drew := ((Below.refl _ W).alloc (Nat.le_refl _) _).drew
  have d2 : (W.alloc (.cells #[.int .i64 0, .int .i64 0, .bool false] 67)).drew.cell? ⟨T, 2, none⟩ = some (.map (some M)) := (HT.out.kept (hbW.trans (hbZ.mono hs))).cell 2
  have e1 := hlk.out W.drew (HM.out.kept (hbW.trans ((Below.refl _ W).drew.mono hs)))
  have e2 := hlk.out (W.alloc (.cells #[.int .i64 0, .int .i64 0, .bool false] 67)).drew (HM.out.kept (hbW.trans (hbZ.mono hs)))
  simp only [keyV, placeV] at e1 e2
  have HK1 : ∀ j, W.drew.cell? ⟨kb, j, none⟩ = #[.int .i64 v, .int .u8 (m.a.toNat : Int), .int .u8 (m.b.toNat : Int), .int .u8 (m.c.toNat : Int), .int .u8 (m.d.toNat : Int), .int .u8 (m.e.toNat : Int), .int .u8 (m.f.toNat : Int)][j]? := fun j => RowIs.cell (HK.out.kept (Below.refl _ _).drew) j
  have HK2 : ∀ j, (W.alloc (.cells #[.int .i64 0, .int .i64 0, .bool false] 67)).drew.cell? ⟨kb, j, none⟩ = #[.int .i64 v, .int .u8 (m.a.toNat : Int), .int .u8 (m.b.toNat : Int), .int .u8 (m.c.toNat : Int), .int .u8 (m.d.toNat : Int), .int .u8 (m.e.toNat : Int), .int .u8 (m.f.toNat : Int)][j]? := fun j => RowIs.cell (HK.out.kept hbZ) j
  have f0 := HK1 0
  have g0 := HK2 0
  have f1 := HK1 1
  have g1 := HK2 1
  have f2 := HK1 2
  have g2 := HK2 2
  have f3 := HK1 3
  have g3 := HK2 3
  have f4 := HK1 4
  have g4 := HK2 4
  have f5 := HK1 5
  have g5 := HK2 5
  have f6 := HK1 6
  have g6 := HK2 6
  simp at f0 g0 f1 g1 f2 g2 f3 g3 f4 g4 f5 g5 f6 g6
  have hbP : Below W.heap.size W (W.alloc (.cells #[.int .i64 p0, .int .i64 age0, .bool fixed0] 67)).drew := ((Below.refl _ W).alloc (Nat.le_refl _) _).drew
  have HP : Hid (RowIs (W.alloc (.cells #[.int .i64 p0, .int .i64 age0, .bool fixed0] 67)).drew W.heap.size 67 #[.int .i64 p0, .int .i64 age0, .bool fixed0]) := rowIs_new W 67 #[.int .i64 p0, .int .i64 age0, .bool fixed0]
  have HK3 := Lib.hid (HK.out.kept hbP)
  have hbW3 := hbW.trans (hbP.mono hs)
  clear HK1 HK2 hbZ hbP HK
  have hon' : decide (lim ≤ (onN q L : Int)) = true := decide_eq_true hon
  go_big_region
  all_goals
    clear f0 f1 f2 f3 f4 f5 f6 g0 g1 g2 g3 g4 g5 g6 d1 d2 e1 e2
    have hpl := HP.out.lt
    generalize (W.alloc (.cells #[.int .i64 p0, .int .i64 age0, .bool fixed0] 67)).drew = W3 at *
    generalize W.heap.size = pb at *
    have HT3 := Lib.hid (HT.out.kept hbW3)
    have HM3 := Lib.hid (HM.out.kept hbW3)
    have hs3 := hbW3.size
    have hP0 : Hid (W3.cell? ⟨pb, 0, none⟩ = some (.int .i64 p0)) := HP.out.cell 0
    go_upto_region 6 with fail
    have hdec : ok = false ∨ ok = true ∧ (p0 != (q : Int)) = true := by
      rcases hneed with h | h
      · exact .inl h
      · cases ok
        · exact .inl rfl
        · exact .inr ⟨rfl, bne_iff_ne.2 h⟩
    clear hneed
    rcases hdec with rfl | ⟨rfl, hpq⟩
    all_goals
      have q0 := cell_regrown hP0.out
      have q1 := cell_regrown (show W3.cell? ⟨T, 1, none⟩ = some (.slice (some ⟨g, 0, none⟩) lims.length lc) from HT3.out.cell 1)
      have q2 := cell_regrown (HLIM.out W3 hbW3)
      have CON := Lib.hid (fun dd os => Calls.regrown_of (on_any T M q (.int .i64 ageing) (.slice (some ⟨g, 0, none⟩) lims.length lc) L (grow (redrawn W3 dd) os) (HT3.out.kept (below_regrown W3 dd os)) (HM3.out.kept (below_regrown W3 dd os)) hL))
      refine wp_region_quiet_below (by kernel_rfl) (by kernel_rfl) ?_
      repeat (quiet_step (first | (with_reducible exact CON.out _ _)))
      refine wpQuiet_nil ?_
      intro _ hw'
      obtain ⟨⟨dq, osq⟩, hw''⟩ := hw'
      subst hw''
      have hb7 := below_regrown W3 dq osq
      clear q0 q1 q2 CON
      have hbW3 := hbW3.trans (hb7.mono hs3)
      go_wp2_with fail
      go_ret
      exact ⟨rfl, hbW3⟩

theorem tab_put {B T M : Nat} {ageing : Int} {lims : List Int} {L L' : List Ent} {w w' : World} (h : TabIs B T M w ageing lims L) (hm : MapP Try.prog 65 w' M (L'.map Ent.kv)) (hL' : ∀ e ∈ L', I64 e.v) (hg : w.grownBy w' (some M)) : TabIs B T M w' ageing lims L' := by
  obtain ⟨la, lc, hT, hBT, hBM, ho, hM, hIV⟩ := h
  have hrow : ∀ n t cs, RowIs w n t cs → RowIs w' n t cs := fun n t cs hr => (hg.block n hr.lt (fun e => by
    cases e
    obtain ⟨es, ck, h1, _⟩ := hM
    rw [show w.heap[M]? = _ from hr] at h1
    cases h1)).trans hr
  refine ⟨la, lc, hrow _ _ _ hT, hBT, hBM, ⟨ho.1, ?_⟩, hm, hL'⟩
  rcases ho.2 with hn | ⟨g, cap, cur, e, hB, hgg, rest⟩
  · exact .inl hn
  · exact .inr ⟨g, cap, cur, e, hB, hrow _ _ _ hgg, rest⟩

set_option maxRecDepth 20000 in
set_option maxHeartbeats 4000000 in
theorem learn_put (B T M : Nat) (ageing : Int) (lims : List Int) (L : List Ent) (v : Int) (m : Mac6) (q : Nat) (hq : q < lims.length) (lim : Int) (hlim : lims.getD q 0 = lim) (p0 age0 : Int) (fixed0 ok : Bool) (w : World) (h : TabIs B T M w ageing lims L) (hL : L.length ≤ 1000000) (hlims : lims.length ≤ 1000000)
    (hmay : ∀ w', Below w.heap.size w w' → Calls Try.prog 27 #[.pointer (some ⟨T, 0, none⟩), .int .i64 v, .agg #[.int .u8 (m.a.toNat : Int), .int .u8 (m.b.toNat : Int), .int .u8 (m.c.toNat : Int), .int .u8 (m.d.toNat : Int), .int .u8 (m.e.toNat : Int), .int .u8 (m.f.toNat : Int)], .int .i64 (q : Nat)] w' fun e w'' => e = .returned (.int .i64 0) ∧ Below w'.heap.size w' w'')
    (hr : ∀ w', MapP Try.prog 65 w' M (L.map Ent.kv) → (Instr.lookup 61 (.map (some M)) (keyV v m) true).run Try.prog w' = .ok (.tuple #[placeV p0 age0 fixed0, .bool ok]) w') (L' : List Ent) (hL' : ∀ e ∈ L', I64 e.v)
    (hup : ∀ w', MapP Try.prog 65 w' M (L.map Ent.kv) → ∃ w'', (Instr.mapUpdate 61 (.map (some M)) (keyV v m) (placeV q 0 false)).run Try.prog w' = .ok () w'' ∧ MapP Try.prog 65 w'' M (L'.map Ent.kv) ∧ (∀ j, j ≠ M → w''.heap[j]? = w'.heap[j]?) ∧ w''.heap.size = w'.heap.size ∧ ∀ B, B ≤ M → Below B w' w'')
    (hskip : ok = true ∧ p0 = (q : Int) ∨ (onN q L : Int) < lim) :
    Calls Try.prog 11 #[.pointer (some ⟨T, 0, none⟩), .int .i64 v, .agg #[.int .u8 (m.a.toNat : Int), .int .u8 (m.b.toNat : Int), .int .u8 (m.c.toNat : Int), .int .u8 (m.d.toNat : Int), .int .u8 (m.e.toNat : Int), .int .u8 (m.f.toNat : Int)], .int .i64 (q : Nat)] w fun e w' => e = .returned (.int .i64 0) ∧ TabIs B T M w' ageing lims L' ∧ w.grownBy w' (some M) := by
  have HTAB := Lib.hid h
  have HUP := Lib.hid hup
  have HLV := Lib.hid hL'
  clear hup hL'
  obtain ⟨la, lc, hT, hBT, hBM, ho, hM, hIV⟩ := h
  obtain ⟨g, rfl, HLIM⟩ : ∃ g, la = some ⟨g, 0, none⟩ ∧ Hid (∀ w', Below w.heap.size w w' → w'.cell? ⟨g, q, none⟩ = some (.int .i64 lim)) := by
    rcases ho.2 with ⟨_, h0⟩ | ⟨g, cap, cur, e, hBg, hR, hle, hm, hcs, ht⟩
    · omega
    · simp only [Value.slice.injEq] at e
      refine ⟨g, e.1, fun w' hb => ?_⟩
      rw [RowIs.cell (RowIs.kept (show RowIs w g 3 cur from hR) hb)]
      have h1 : (cur.toList.take (lims.length * 1))[q]? = some (.int .i64 lim) := by
        rw [← hlim, ht, List.getElem?_map, List.getElem?_eq_getElem hq, List.getD, List.getElem?_eq_getElem hq]
        rfl
      rw [List.getElem?_take_of_lt (by omega), Array.getElem?_toList] at h1
      exact h1
  have hbW : Below w.heap.size w (w.alloc (.cells #[.int .u8 (m.a.toNat : Int), .int .u8 (m.b.toNat : Int), .int .u8 (m.c.toNat : Int), .int .u8 (m.d.toNat : Int), .int .u8 (m.e.toNat : Int), .int .u8 (m.f.toNat : Int)] 23)) := (Below.refl _ w).alloc (Nat.le_refl _) _
  have HR : Hid (RowIs (w.alloc (.cells #[.int .u8 (m.a.toNat : Int), .int .u8 (m.b.toNat : Int), .int .u8 (m.c.toNat : Int), .int .u8 (m.d.toNat : Int), .int .u8 (m.e.toNat : Int), .int .u8 (m.f.toNat : Int)] 23)) w.heap.size 23 #[.int .u8 (m.a.toNat : Int), .int .u8 (m.b.toNat : Int), .int .u8 (m.c.toNat : Int), .int .u8 (m.d.toNat : Int), .int .u8 (m.e.toNat : Int), .int .u8 (m.f.toNat : Int)]) := rowIs_new w 23 #[.int .u8 (m.a.toNat : Int), .int .u8 (m.b.toNat : Int), .int .u8 (m.c.toNat : Int), .int .u8 (m.d.toNat : Int), .int .u8 (m.e.toNat : Int), .int .u8 (m.f.toNat : Int)]
  have HT := Lib.hid hT
  have HM := Lib.hid hM
  have HMAY := Lib.hid (hmay _ hbW)
  have hlk := Lib.hid hr
  have hTl := hT.lt
  clear hT hM hr hmay ho hBT hBM hIV
  go_enter Try.func11, Try.ntmps11
  go_wp2_with ((with_reducible refine at_load 23 (.tmp 6) ?_); refine wpList_load_own rfl 23 (.tmp 6) rfl _ rfl _ _ _ HR.out Try.underlying23 rfl info_mac ?_)
  refine HMAY.out.mono ?_
  rintro e w1 ⟨rfl, hb1⟩
  have HR1 := Lib.hid (HR.out.kept hb1)
  have hbW := hbW.trans (hb1.mono hbW.size)
  have hs1 := HR1.out.lt
  clear hb1 HMAY HR
  go_upto_region 4 with fail
  go_wp2_with ((with_reducible refine at_load 23 (.tmp 6) ?_); refine wpList_load_own rfl 23 (.tmp 6) rfl _ rfl _ _ _ HR1.out Try.underlying23 rfl info_mac ?_)
  have hbW := hbW.trans (((Below.refl _ w1).alloc (Nat.le_refl _) (.cells #[.int .i64 v, .int .u8 (m.a.toNat : Int), .int .u8 (m.b.toNat : Int), .int .u8 (m.c.toNat : Int), .int .u8 (m.d.toNat : Int), .int .u8 (m.e.toNat : Int), .int .u8 (m.f.toNat : Int)] 65)).mono hbW.size)
  have HK : Hid (RowIs (w1.alloc (.cells #[.int .i64 v, .int .u8 (m.a.toNat : Int), .int .u8 (m.b.toNat : Int), .int .u8 (m.c.toNat : Int), .int .u8 (m.d.toNat : Int), .int .u8 (m.e.toNat : Int), .int .u8 (m.f.toNat : Int)] 65)) w1.heap.size 65 #[.int .i64 v, .int .u8 (m.a.toNat : Int), .int .u8 (m.b.toNat : Int), .int .u8 (m.c.toNat : Int), .int .u8 (m.d.toNat : Int), .int .u8 (m.e.toNat : Int), .int .u8 (m.f.toNat : Int)]) := rowIs_new w1 65 #[.int .i64 v, .int .u8 (m.a.toNat : Int), .int .u8 (m.b.toNat : Int), .int .u8 (m.c.toNat : Int), .int .u8 (m.d.toNat : Int), .int .u8 (m.e.toNat : Int), .int .u8 (m.f.toNat : Int)]
  clear HR1
  generalize hkb : w1.heap.size = kb at *
  have hKl := HK.out.lt
  clear hkb
  generalize (w1.alloc (.cells #[.int .i64 v, .int .u8 (m.a.toNat : Int), .int .u8 (m.b.toNat : Int), .int .u8 (m.c.toNat : Int), .int .u8 (m.d.toNat : Int), .int .u8 (m.e.toNat : Int), .int .u8 (m.f.toNat : Int)] 65)) = W at *
  have hs := hbW.size
  have d1 : W.drew.cell? ⟨T, 2, none⟩ = some (.map (some M)) := (HT.out.kept (hbW.trans ((Below.refl _ W).drew.mono hs))).cell 2
  have hbZ : Below W.heap.size W (W.alloc (.cells #[.int .i64 0, .int .i64 0, .bool false] 67)).drew := ((Below.refl _ W).alloc (Nat.le_refl _) _).drew
  have d2 : (W.alloc (.cells #[.int .i64 0, .int .i64 0, .bool false] 67)).drew.cell? ⟨T, 2, none⟩ = some (.map (some M)) := (HT.out.kept (hbW.trans (hbZ.mono hs))).cell 2
  have e1 := hlk.out W.drew (HM.out.kept (hbW.trans ((Below.refl _ W).drew.mono hs)))
  have e2 := hlk.out (W.alloc (.cells #[.int .i64 0, .int .i64 0, .bool false] 67)).drew (HM.out.kept (hbW.trans (hbZ.mono hs)))
  simp only [keyV, placeV] at e1 e2
  have HK1 : ∀ j, W.drew.cell? ⟨kb, j, none⟩ = #[.int .i64 v, .int .u8 (m.a.toNat : Int), .int .u8 (m.b.toNat : Int), .int .u8 (m.c.toNat : Int), .int .u8 (m.d.toNat : Int), .int .u8 (m.e.toNat : Int), .int .u8 (m.f.toNat : Int)][j]? := fun j => RowIs.cell (HK.out.kept (Below.refl _ _).drew) j
  have HK2 : ∀ j, (W.alloc (.cells #[.int .i64 0, .int .i64 0, .bool false] 67)).drew.cell? ⟨kb, j, none⟩ = #[.int .i64 v, .int .u8 (m.a.toNat : Int), .int .u8 (m.b.toNat : Int), .int .u8 (m.c.toNat : Int), .int .u8 (m.d.toNat : Int), .int .u8 (m.e.toNat : Int), .int .u8 (m.f.toNat : Int)][j]? := fun j => RowIs.cell (HK.out.kept hbZ) j
  have f0 := HK1 0
  have g0 := HK2 0
  have f1 := HK1 1
  have g1 := HK2 1
  have f2 := HK1 2
  have g2 := HK2 2
  have f3 := HK1 3
  have g3 := HK2 3
  have f4 := HK1 4
  have g4 := HK2 4
  have f5 := HK1 5
  have g5 := HK2 5
  have f6 := HK1 6
  have g6 := HK2 6
  simp at f0 g0 f1 g1 f2 g2 f3 g3 f4 g4 f5 g5 f6 g6
  have hbP : Below W.heap.size W (W.alloc (.cells #[.int .i64 p0, .int .i64 age0, .bool fixed0] 67)).drew := ((Below.refl _ W).alloc (Nat.le_refl _) _).drew
  have HP : Hid (RowIs (W.alloc (.cells #[.int .i64 p0, .int .i64 age0, .bool fixed0] 67)).drew W.heap.size 67 #[.int .i64 p0, .int .i64 age0, .bool fixed0]) := rowIs_new W 67 #[.int .i64 p0, .int .i64 age0, .bool fixed0]
  have HK3 := Lib.hid (HK.out.kept hbP)
  have hbW3 := hbW.trans (hbP.mono hs)
  clear HK1 HK2 hbZ hbP HK
  go_big_region
  all_goals
    clear f0 f1 f2 f3 f4 f5 f6 g0 g1 g2 g3 g4 g5 g6 d1 d2 e1 e2
    have hpl := HP.out.lt
    generalize (W.alloc (.cells #[.int .i64 p0, .int .i64 age0, .bool fixed0] 67)).drew = W3 at *
    generalize W.heap.size = pb at *
    have HT3 := Lib.hid (HT.out.kept hbW3)
    have HM3 := Lib.hid (HM.out.kept hbW3)
    have hs3 := hbW3.size
    have hP0 : Hid (W3.cell? ⟨pb, 0, none⟩ = some (.int .i64 p0)) := HP.out.cell 0
    go_upto_region 6 with fail
    have hdec : ok = true ∧ p0 = (q : Int) ∨ (ok = false ∨ ok = true ∧ (p0 != (q : Int)) = true) ∧ decide (lim ≤ (onN q L : Int)) = false := by
      rcases hskip with ⟨h1, h2⟩ | h
      · exact .inl ⟨h1, h2⟩
      · by_cases h2 : p0 = (q : Int)
        · cases ok
          · exact .inr ⟨.inl rfl, decide_eq_false (by omega)⟩
          · exact .inl ⟨rfl, h2⟩
        · cases ok
          · exact .inr ⟨.inl rfl, decide_eq_false (by omega)⟩
          · exact .inr ⟨.inr ⟨rfl, bne_iff_ne.2 h2⟩, decide_eq_false (by omega)⟩
    clear hskip
    rcases hdec with ⟨rfl, rfl⟩ | ⟨rfl | ⟨rfl, hpq⟩, hon'⟩
    · have q0 : W3.drew.cell? ⟨pb, 0, none⟩ = some (.int .i64 (q : Int)) := hP0.out
      have hb7 : Below W3.heap.size W3 W3.drew := (Below.refl _ _).drew
      go_big_region
      all_goals
        clear q0
        have HK4 := Lib.hid (HK3.out.kept hb7)
        have hbW4 := hbW3.trans (hb7.mono hs3)
        have hM4 := HM3.out.kept hb7
        have HT4 := Lib.hid (HT3.out.kept hb7)
        clear hb7
        generalize W3.drew = W4 at *
        go_upto_region 8 with fail
        have q3 := cell_regrown (show W4.cell? ⟨T, 2, none⟩ = some (.map (some M)) from HT4.out.cell 2)
        have HM4 := Lib.hid hM4
        clear hM4
        refine wp_region_mix 7 (by kernel_rfl) (by kernel_rfl) (by kernel_rfl) ?_
        (refine mix_step (by kernel_rfl) (by kernel_rfl) (fun K hK => ?_); go_simp; (try (simp only [↓IntWalk.iteOmega]; go_simp)); (first | (refine hK _ ?_; clear hK K) | (apply Exists.intro; refine ⟨fun _ => ?_, hK _ ?_⟩; (first | fail); clear hK K)))
        (refine mix_step (by kernel_rfl) (by kernel_rfl) (fun K hK => ?_); go_simp; (try (simp only [↓IntWalk.iteOmega]; go_simp)); (first | (refine hK _ ?_; clear hK K) | (apply Exists.intro; refine ⟨fun _ => ?_, hK _ ?_⟩; (first | fail); clear hK K)))
        (refine mix_step (by kernel_rfl) (by kernel_rfl) (fun K hK => ?_); go_simp; (try (simp only [↓IntWalk.iteOmega]; go_simp)); (first | (refine hK _ ?_; clear hK K) | (apply Exists.intro; refine ⟨fun _ => ?_, hK _ ?_⟩; (first | fail); clear hK K)))
        (refine mix_step (by kernel_rfl) (by kernel_rfl) (fun K hK => ?_); go_simp; (try (simp only [↓IntWalk.iteOmega]; go_simp)); (first | (refine hK _ ?_; clear hK K) | (apply Exists.intro; refine ⟨fun _ => ?_, hK _ ?_⟩; (first | fail); clear hK K)))
        refine mix_exact (.agg #[.int .i64 v, .int .u8 (m.a.toNat : Int), .int .u8 (m.b.toNat : Int), .int .u8 (m.c.toNat : Int), .int .u8 (m.d.toNat : Int), .int .u8 (m.e.toNat : Int), .int .u8 (m.f.toNat : Int)]) rfl (exact_load_row rfl rfl (by simp) HK4.out Try.underlying65 rfl info_key) ?_
        (refine mix_step (by kernel_rfl) (by kernel_rfl) (fun K hK => ?_); go_simp; (try (simp only [↓IntWalk.iteOmega]; go_simp)); (first | (refine hK _ ?_; clear hK K) | (apply Exists.intro; refine ⟨fun _ => ?_, hK _ ?_⟩; (first | fail); clear hK K)))
        (refine mix_step (by kernel_rfl) (by kernel_rfl) (fun K hK => ?_); go_simp; (try (simp only [↓IntWalk.iteOmega]; go_simp)); (first | (refine hK _ ?_; clear hK K) | (apply Exists.intro; refine ⟨fun _ => ?_, hK _ ?_⟩; (first | fail); clear hK K)))
        refine mix_nil ?_
        rintro ⟨dr, osr⟩
        have hb8 := below_regrown W4 dr osr
        have hM5 := HM4.out.kept hb8
        have hbW5 := hbW4.trans (hb8.mono hbW4.size)
        clear hb8 q3
        generalize grow (redrawn W4 dr) osr = W5 at *
        refine (show wpList _ _ _ _ _ _ from ?_)
        simp only [List.drop, Act.put, List.setIfInBounds_toArray, List.set]
        obtain ⟨W6, hrun, hM6, hoth6, hsz6, hb6⟩ := HUP.out W5 hM5
        simp only [keyV, placeV] at hrun
        have hg6 : w.grownBy W6 (some M) := ⟨(hb6 0 (Nat.zero_le _)).os.trans hbW5.os, (hb6 0 (Nat.zero_le _)).tape.trans hbW5.tape, (hb6 0 (Nat.zero_le _)).output.trans hbW5.output, by rw [hsz6]; exact hbW5.size, fun k hk hne => (hoth6 k (fun e => hne (by rw [e]))).trans (hbW5.block k hk)⟩
        have HFIN := Lib.hid (tab_put HTAB.out hM6 HLV.out hg6)
        clear hM6 hoth6 hsz6 hb6 hM5
        go_wp2_with fail
        go_ret
        exact ⟨rfl, HFIN.out, hg6⟩
    all_goals
      have q0 := cell_regrown hP0.out
      have q1 := cell_regrown (show W3.cell? ⟨T, 1, none⟩ = some (.slice (some ⟨g, 0, none⟩) lims.length lc) from HT3.out.cell 1)
      have q2 := cell_regrown (HLIM.out W3 hbW3)
      have CON := Lib.hid (fun dd os => Calls.regrown_of (on_any T M q (.int .i64 ageing) (.slice (some ⟨g, 0, none⟩) lims.length lc) L (grow (redrawn W3 dd) os) (HT3.out.kept (below_regrown W3 dd os)) (HM3.out.kept (below_regrown W3 dd os)) hL))
      refine wp_region_quiet_below (by kernel_rfl) (by kernel_rfl) ?_
      repeat (quiet_step (first | (with_reducible exact CON.out _ _)))
      refine wpQuiet_nil ?_
      intro _ hw'
      obtain ⟨⟨dq, osq⟩, hw''⟩ := hw'
      subst hw''
      have hb7 := below_regrown W3 dq osq
      clear q0 q1 q2 CON
      have HK4 := Lib.hid (HK3.out.kept hb7)
      have hbW4 := hbW3.trans (hb7.mono hs3)
      have hM4 := HM3.out.kept hb7
      have HT4 := Lib.hid (HT3.out.kept hb7)
      clear hb7
      generalize grow (redrawn W3 dq) osq = W4 at *
      go_upto_region 8 with fail
      have q3 := cell_regrown (show W4.cell? ⟨T, 2, none⟩ = some (.map (some M)) from HT4.out.cell 2)
      have HM4 := Lib.hid hM4
      clear hM4
      refine wp_region_mix 7 (by kernel_rfl) (by kernel_rfl) (by kernel_rfl) ?_
      (refine mix_step (by kernel_rfl) (by kernel_rfl) (fun K hK => ?_); go_simp; (try (simp only [↓IntWalk.iteOmega]; go_simp)); (first | (refine hK _ ?_; clear hK K) | (apply Exists.intro; refine ⟨fun _ => ?_, hK _ ?_⟩; (first | fail); clear hK K)))
      (refine mix_step (by kernel_rfl) (by kernel_rfl) (fun K hK => ?_); go_simp; (try (simp only [↓IntWalk.iteOmega]; go_simp)); (first | (refine hK _ ?_; clear hK K) | (apply Exists.intro; refine ⟨fun _ => ?_, hK _ ?_⟩; (first | fail); clear hK K)))
      (refine mix_step (by kernel_rfl) (by kernel_rfl) (fun K hK => ?_); go_simp; (try (simp only [↓IntWalk.iteOmega]; go_simp)); (first | (refine hK _ ?_; clear hK K) | (apply Exists.intro; refine ⟨fun _ => ?_, hK _ ?_⟩; (first | fail); clear hK K)))
      (refine mix_step (by kernel_rfl) (by kernel_rfl) (fun K hK => ?_); go_simp; (try (simp only [↓IntWalk.iteOmega]; go_simp)); (first | (refine hK _ ?_; clear hK K) | (apply Exists.intro; refine ⟨fun _ => ?_, hK _ ?_⟩; (first | fail); clear hK K)))
      refine mix_exact (.agg #[.int .i64 v, .int .u8 (m.a.toNat : Int), .int .u8 (m.b.toNat : Int), .int .u8 (m.c.toNat : Int), .int .u8 (m.d.toNat : Int), .int .u8 (m.e.toNat : Int), .int .u8 (m.f.toNat : Int)]) rfl (exact_load_row rfl rfl (by simp) HK4.out Try.underlying65 rfl info_key) ?_
      (refine mix_step (by kernel_rfl) (by kernel_rfl) (fun K hK => ?_); go_simp; (try (simp only [↓IntWalk.iteOmega]; go_simp)); (first | (refine hK _ ?_; clear hK K) | (apply Exists.intro; refine ⟨fun _ => ?_, hK _ ?_⟩; (first | fail); clear hK K)))
      (refine mix_step (by kernel_rfl) (by kernel_rfl) (fun K hK => ?_); go_simp; (try (simp only [↓IntWalk.iteOmega]; go_simp)); (first | (refine hK _ ?_; clear hK K) | (apply Exists.intro; refine ⟨fun _ => ?_, hK _ ?_⟩; (first | fail); clear hK K)))
      refine mix_nil ?_
      rintro ⟨dr, osr⟩
      have hb8 := below_regrown W4 dr osr
      have hM5 := HM4.out.kept hb8
      have hbW5 := hbW4.trans (hb8.mono hbW4.size)
      clear hb8 q3
      generalize grow (redrawn W4 dr) osr = W5 at *
      refine (show wpList _ _ _ _ _ _ from ?_)
      simp only [List.drop, Act.put, List.setIfInBounds_toArray, List.set]
      obtain ⟨W6, hrun, hM6, hoth6, hsz6, hb6⟩ := HUP.out W5 hM5
      simp only [keyV, placeV] at hrun
      have hg6 : w.grownBy W6 (some M) := ⟨(hb6 0 (Nat.zero_le _)).os.trans hbW5.os, (hb6 0 (Nat.zero_le _)).tape.trans hbW5.tape, (hb6 0 (Nat.zero_le _)).output.trans hbW5.output, by rw [hsz6]; exact hbW5.size, fun k hk hne => (hoth6 k (fun e => hne (by rw [e]))).trans (hbW5.block k hk)⟩
      have HFIN := Lib.hid (tab_put HTAB.out hM6 HLV.out hg6)
      clear hM6 hoth6 hsz6 hb6 hM5
      go_wp2_with fail
      go_ret
      exact ⟨rfl, HFIN.out, hg6⟩

theorem mayBad_q {lims : List Int} {v : Int} {m : Mac6} {port : Int} (h : mayBad lims v m port = false) : ∃ q : Nat, port = (q : Int) ∧ q < lims.length ∧ I64 v := by
  unfold mayBad at h
  simp only [Bool.or_eq_false_iff, decide_eq_false_iff_not] at h
  exact ⟨port.toNat, by omega, by omega, by unfold I64; omega⟩
end Go.Proofs.Ytcdklbhfcfamnaa
