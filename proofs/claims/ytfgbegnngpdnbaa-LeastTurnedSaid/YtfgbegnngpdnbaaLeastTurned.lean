/- LeastTurned: the walk. By an AI agent. -/
import Derived.Test.YtfgbegnngpdnbaaLeastNear
import Derived.Test.YtfgbegnngpdnbaaLp3
import Derived.Test.YtfgbegnngpdnbaaLnOf
namespace Go.Proofs.Ytfgbegnngpdnbaa
open Go.RowKit Go.WideShapes Go.Sort Grow

section
variable {P : Program} {md : Region.Mode} {ops : Array Oper} {Q : Exit → Act → World → Prop} {S : World → Prop} {fuel : Nat} {listed : Array Bool} {a : Act} {w : World}
theorem ar_row18 {i : Nat} {o : Oper} (ho : ops[i]? = some o) (hw : Region.wanted o (yielded ops a.tmps) = true) (ty : TypeId) (x y : Operand) (hop : o.op = .store ty x y) (g : Nat) (cells : Array Value) (hx : a.eval x = .pointer (some ⟨g, 0, none⟩)) (hy : a.eval y = .agg cells) (t : TypeId) (old : Array Value) (hg : RowIs w g t old) (hi : (P.info? ty).map (·.size) = some cells.size) (hold : old.size = cells.size) (h1 : cells.all (·.oneCell') = true)
    (h : ∀ w', RowIs w' g t cells → (∀ j, j ≠ g → w'.heap[j]? = w.heap[j]?) → w'.heap.size = w.heap.size → Below g w w' → S w' ∧ wpAnyH P md ops Q S fuel (listed.setIfInBounds i true) (a.put o.dst undef) w') : AllReadyH P md ops Q S fuel listed a w [i] :=
  AllReadyH.cons ho (fun K hK => by
    rw [if_pos hw]
    have h' := h _ (setRow_heap w g old cells t (0, 0) hg) (fun k hk => setRow_other w g k cells hk) (setRow_size w g cells) (below_setRow (Below.refl g w) (Nat.le_refl _) cells)
    exact wp_store_row ty x y hop g cells hx hy t old hg hi hold h1 (hK.out _ _ h'.1 (fun _ => h'.2))) AllReadyH.nil
end
theorem owns_except {w w' : World} {base : Nat} {e : TypeId} {size : Nat} {v : Value} {n M : Nat} {xs : List Value} (h : w.ownsRow base e size v n xs) (ho : ∀ m, m ≠ M → w'.heap[m]? = w.heap[m]?) (hn : v.ownBlock ≠ some M) : w'.ownsRow base e size v n xs := by
  refine ⟨h.1, ?_⟩
  rcases h.2 with h2 | ⟨g', cap', cur, a1, a2, a3, a4⟩
  · exact .inl h2
  · refine .inr ⟨g', cap', cur, a1, a2, (ho _ (fun e => hn ?_)).trans a3, a4⟩
    rw [a1, ← e]
    rfl
theorem info_arr4 : ∃ i z, Try.prog.info? 37 = some i ∧ i.zero = some z ∧ i.size = 4 ∧ i.bytes = 32 ∧ z.cells.size = 4 := by
  have h : (Try.prog.info? 37).map (fun i => (i.zero.map (·.cells.size), i.size, i.bytes)) = some (some 4, 4, 32) := by kernel_rfl
  obtain ⟨i, hi, h⟩ := Option.map_eq_some_iff.1 h
  simp only [Prod.mk.injEq] at h
  obtain ⟨z, hz, h18⟩ := Option.map_eq_some_iff.1 h.1
  exact ⟨i, z, hi, hz, h.2.1, h.2.2, h18⟩
set_option maxRecDepth 20000 in
set_option maxHeartbeats 8000000 in
theorem leastTurned_walk (v : NV) (N : LN) (ao : Option Addr) (bs : List Bool) (tcap : Nat) (w : World) (h : NetAt w v N) (hbs : RowsAt w ao (fun b => [Value.bool b]) 1 bs) :
    Calls Try.prog 5 #[.agg #[.slice v.ai N.ids.length v.ci, .slice v.ac N.costs.length v.cc, .slice v.al N.links.length v.cl], .slice ao bs.length tcap] w fun e w' => e = .returned (.bool true) ∧ Below w.heap.size w w' := by
  have HBS := Lib.hid hbs
  clear hbs
  have HN := Lib.hid h
  clear h
  go_enter Try.func5, Try.ntmps5
  go_upto_region 1 with fail
  generalize hW : w.alloc _ = w1
  have hbW : Below w.heap.size w w1 := by rw [← hW]; exact (Below.refl _ _).alloc (Nat.le_refl _) _
  have R0 : Hid (RowIs w1 w.heap.size 26 #[.slice v.ai N.ids.length v.ci, .slice v.ac N.costs.length v.cc, .slice v.al N.links.length v.cl]) := by subst hW; exact rowIs_new w _ _
  clear hW
  go_wp2_with fail
  refine (awake18 _).mono ?_
  rintro e w2 ⟨rfl, hb2⟩
  have R0 := Lib.hid (R0.out.kept hb2)
  have hbW := hbW.trans (hb2.mono hbW.size)
  clear hb2
  have HF := Lib.hid (few18 v N w2 (HN.out.kept hbW))
  cases hf : N.few
  · rw [LN.few1_no hf] at HF
    go_wp2_with ((with_reducible refine at_load 26 (.tmp 2) ?_); refine wpList_load_own rfl 26 (.tmp 2) rfl w.heap.size rfl _ _ _ R0.out Try.underlying26 rfl (by kernel_rfl) ?_)
    refine HF.out.mono ?_
    rintro e w3 ⟨rfl, hb3⟩
    have hbW := hbW.trans (hb3.mono hbW.size)
    clear hb3 HF R0
    go_wp2_with fail
    refine (awake18 _).mono ?_
    rintro e w4 ⟨rfl, hb4⟩
    go_wp2_with fail
    go_ret
    exact ⟨rfl, hbW.trans (hb4.mono hbW.size)⟩
  rw [LN.few1_yes hf] at HF
  have hll : N.links.length ≤ 300 := by
    unfold LN.few at hf
    simp only [Bool.and_eq_true, decide_eq_true_eq] at hf
    exact hf.2.2.1
  have hil : N.ids.length ≤ 50 := by
    unfold LN.few at hf
    simp only [Bool.and_eq_true, decide_eq_true_eq] at hf
    exact hf.1
  go_wp2_with ((with_reducible refine at_load 26 (.tmp 2) ?_); refine wpList_load_own rfl 26 (.tmp 2) rfl w.heap.size rfl _ _ _ R0.out Try.underlying26 rfl (by kernel_rfl) ?_)
  refine HF.out.mono ?_
  rintro e w3 ⟨rfl, hb3⟩
  have R0 := Lib.hid (R0.out.kept hb3)
  have hbW := hbW.trans (hb3.mono hbW.size)
  clear hb3 HF hf
  have HRR := Lib.hid (refRight18 v N w3 (HN.out.kept hbW) (by omega))
  cases hr : N.right
  · rw [hr] at HRR
    go_wp2_with ((with_reducible refine at_load 26 (.tmp 2) ?_); refine wpList_load_own rfl 26 (.tmp 2) rfl w.heap.size rfl _ _ _ R0.out Try.underlying26 rfl (by kernel_rfl) ?_)
    refine HRR.out.mono ?_
    rintro e w4 ⟨rfl, hb4⟩
    have hbW := hbW.trans (hb4.mono hbW.size)
    clear hb4 HRR R0
    go_wp2_with fail
    refine (awake18 _).mono ?_
    rintro e w5 ⟨rfl, hb5⟩
    go_wp2_with fail
    go_ret
    exact ⟨rfl, hbW.trans (hb5.mono hbW.size)⟩
  rw [hr] at HRR
  have HOK := Lib.hid (right_iff.1 hr)
  go_wp2_with ((with_reducible refine at_load 26 (.tmp 2) ?_); refine wpList_load_own rfl 26 (.tmp 2) rfl w.heap.size rfl _ _ _ R0.out Try.underlying26 rfl (by kernel_rfl) ?_)
  refine HRR.out.mono ?_
  rintro e w4 ⟨rfl, hb4⟩
  have R0 := Lib.hid (R0.out.kept hb4)
  have hbW := hbW.trans (hb4.mono hbW.size)
  clear hb4 HRR hr
  by_cases htl : 400 < (bs.length : Int)
  · go_wp2_with fail
    refine (awake18 _).mono ?_
    rintro e w5 ⟨rfl, hb5⟩
    go_wp2_with fail
    go_ret
    exact ⟨rfl, hbW.trans (hb5.mono hbW.size)⟩
  have dtl : decide (400 < (bs.length : Int)) = false := decide_eq_false htl
  obtain ⟨R, D, q, hS⟩ := sol_ex HOK.out
  have HS := Lib.hid hS
  have hn16 := HOK.out.n16
  clear hS
  obtain ⟨li, lz, hli, hlz, hy1, hy2, hy3⟩ := info_arr4
  have HLI := Lib.hid hli
  have HLZ := Lib.hid hlz
  clear hli hlz
  have hs4 : w.heap.size < w4.heap.size := R0.out.lt
  go_upto_region 4 with ((with_reducible refine at_load 26 (.tmp 2) ?_); refine wpList_load_own rfl 26 (.tmp 2) rfl w.heap.size rfl _ _ _ R0.out Try.underlying26 rfl (by kernel_rfl) ?_)
  clear dtl
  have hb7 : Below w4.heap.size w4 (w4.alloc (.cells #[.slice v.ai N.ids.length v.ci, .slice v.ac N.costs.length v.cc, .slice v.al N.links.length v.cl] 26)) := (Below.refl _ _).alloc (Nat.le_refl _) _
  replace RB := Lib.hid (rowIs_new w4 26 #[.slice v.ai N.ids.length v.ci, .slice v.ac N.costs.length v.cc, .slice v.al N.links.length v.cl])
  replace R0 := Lib.hid (R0.out.kept hb7)
  replace hbW := hbW.trans (hb7.mono hbW.size)
  clear hb7
  generalize w4.alloc (.cells #[.slice v.ai N.ids.length v.ci, .slice v.ac N.costs.length v.cc, .slice v.al N.links.length v.cl] 26) = w5 at *
  generalize w4.heap.size = B1 at *
  go_wp2_with ((with_reducible refine at_store 24 (.tmp 33) (.const (.slice none 0 0)) ?_); refine wpList_store_cell rfl 24 (.tmp 33) (.const (.slice none 0 0)) rfl B1 2 _ rfl rfl 26 _ RB.out (show 2 < 3 from by decide) (by kernel_rfl) rfl w.heap.size (by omega) ?_)
  intro w6 hR6 ho6 hs6 hb6
  have RB : Hid (RowIs w6 B1 26 #[.slice v.ai N.ids.length v.ci, .slice v.ac N.costs.length v.cc, .slice none 0 0]) := hR6
  replace R0 := Lib.hid (rowIs_same R0.out (ho6 _ (by omega)))
  replace hbW := hbW.trans hb6
  clear hR6 ho6 hs6 hb6
  have c2 : w6.cell? ⟨w.heap.size, 2, none⟩ = some (.slice v.al N.links.length v.cl) := R0.out.cell 2
  go_wp2_with fail
  clear c2
  have HF0 : Hid (RowsFrom w6 (B1 + 1) 37 4 Lk.vals (.slice none 0 0) []) := rowsFrom_nil
  have HP0 : Hid ((dirsL []).Perm (dirsL (N.links.drop N.links.length))) := by
    show List.Perm _ _
    rw [List.drop_length]
  go_loopw [6, 7] (fun s6 _ wr => ∃ (r : Nat) (done : List Lk) (z : Int) (la : Option Addr) (lc : Nat), r ≤ N.links.length ∧ done.length + r = N.links.length ∧ s6 = .int .i64 z ∧ z = (r : Int) - 1 ∧ Hid ((dirsL done).Perm (dirsL (N.links.drop r))) ∧ Hid (RowIs wr w.heap.size 26 #[.slice v.ai N.ids.length v.ci, .slice v.ac N.costs.length v.cc, .slice v.al N.links.length v.cl]) ∧ Hid (RowIs wr B1 26 #[.slice v.ai N.ids.length v.ci, .slice v.ac N.costs.length v.cc, .slice la done.length lc]) ∧ Hid (RowsFrom wr (B1 + 1) 37 4 Lk.vals (.slice la done.length lc) done) ∧ Below w.heap.size w wr) (fun s6 _ _ => (intOf s6 + 1).toNat)
  case atStart => exact ⟨N.links.length, [], (N.links.length : Int) - 1, none, 0, Nat.le_refl _, by simp, by go_num, rfl, HP0, R0, RB, HF0, hbW⟩
  case round =>
    clear R0 RB HF0 HP0 hbW
    rename World => wr
    obtain ⟨r, done, z, la, lc, hr, hlen, rfl, hz, HPE, R0, RB, HF, hbr⟩ := hrel
    cases r with
    | succ k =>
      obtain rfl : z = (k : Int) := by omega
      clear hz
      have hlt : k < N.links.length := by omega
      obtain ⟨b, off, eal, hbl, hrg⟩ := (HN.out.kept hbr).lkr hlt
      have HRG := Lib.hid hrg
      have HDR : Hid (N.links.drop k = N.lk k :: N.links.drop (k + 1)) := by
        show _ = _
        rw [List.drop_eq_getElem_cons hlt]
        unfold LN.lk
        rw [List.getD, List.getElem?_eq_getElem hlt]
        rfl
      have c2 : wr.cell? ⟨w.heap.size, 2, none⟩ = some (.slice (some ⟨b, off, none⟩) N.links.length v.cl) := by rw [← eal]; exact R0.out.cell 2
      generalize N.lk k = x at *
      have hx0 : (0 : Int) ≤ (k : Int) := by omega
      have hx1 : (k : Int) < (N.links.length : Int) := by omega
      clear eal hrg
      have R6 := Lib.hid (rowIs_new wr 37 #[.int .i64 0, .int .i64 0, .int .i64 0, .int .i64 0])
      go_wp2_with (first
        | ((with_reducible refine at_load 37 (.tmp 45) ?_); refine wpList_load_mid18 rfl 37 (.tmp 45) rfl b (off + k * 4) rfl (Lk.vals x) _ HRG.out Try.underlying37 rfl (by kernel_rfl) ?_)
        | ((with_reducible refine at_store 37 (.tmp 7) (.tmp 46) ?_); refine wpList_store_own rfl 37 (.tmp 7) (.tmp 46) rfl wr.heap.size _ rfl rfl _ _ R6.out (by kernel_rfl) rfl (by simp [Lk.vals, Value.oneCell']) wr.heap.size (Nat.le_refl _) ?_))
      intro wl hRl hol hsl hbl'
      have hbx : Below wr.heap.size wr wl := ((Below.refl _ _).alloc (Nat.le_refl _) _).trans hbl'
      have RL : Hid (RowIs wl wr.heap.size 37 #[.int .i64 x.a, .int .i64 x.p, .int .i64 x.b, .int .i64 x.q]) := hRl
      have hlb : B1 < wr.heap.size := RB.out.lt
      have HLB : Hid (Value.ownBlock (.slice la done.length lc) ≠ some wr.heap.size) := fun e => by
        obtain ⟨_, _, e0, h0⟩ := HF.out
        rw [← e0] at h0
        have := (World.ownsRow.lt h0 _ e).2
        omega
      replace R0 := Lib.hid (R0.out.kept hbx)
      replace RB := Lib.hid (RB.out.kept hbx)
      have HF := Lib.hid (HF.out.later hbx)
      replace hbr := hbr.trans (hbx.mono hbr.size)
      clear hRl hol hsl hbl' hbx R6 HRG c2 hbl
      generalize wr.heap.size = lb at *
      obtain ⟨la', lc', he', hO⟩ := HF.out
      simp only [Value.slice.injEq, true_and] at he'
      obtain ⟨rfl, rfl⟩ := he'
      have HO := Lib.hid hO
      clear hO HF
      have hll2 : done.length ≤ 300 := by omega
      have l0 : wl.cell? ⟨lb, 0, none⟩ = some (.int .i64 x.a) := RL.out.cell 0
      have l1 : wl.cell? ⟨lb, 1, none⟩ = some (.int .i64 x.p) := RL.out.cell 1
      have l2 : wl.cell? ⟨lb, 2, none⟩ = some (.int .i64 x.b) := RL.out.cell 2
      have l3 : wl.cell? ⟨lb, 3, none⟩ = some (.int .i64 x.q) := RL.out.cell 3
      have hcase : (decide ((k : Int) < (bs.length : Int)) = false ∧ ¬ (k : Int) < (bs.length : Int)) ∨ (decide ((k : Int) < (bs.length : Int)) = true ∧ (k : Int) < (bs.length : Int) ∧ ∃ tb toff bo, ao = some ⟨tb, toff, none⟩ ∧ wl.cell? ⟨tb, toff + k, none⟩ = some (.bool bo)) := by
        by_cases hkb : k < bs.length
        · right
          refine ⟨decide_eq_true (by omega), by omega, ?_⟩
          rcases HBS.out.kept hbr with h0 | ⟨tb, toff, e, _, h2⟩
          · rw [h0] at hkb; cases hkb
          · have := h2 k hkb 0 _ rfl
            rw [Nat.mul_one, Nat.add_zero] at this
            exact ⟨tb, toff, _, e, this⟩
        · left
          exact ⟨decide_eq_false (by omega), by omega⟩
      rcases hcase with ⟨e1, hkb⟩ | ⟨e1, hkb, tb, toff, bo, eao, hcb⟩
      · as_aux_lemma =>
        go_upto_region 11 with fail
        clear l0 l1 l2 l3 e1
        have HTY : Hid ((dirsL (done ++ [x])).Perm (dirsL (N.links.drop k))) := by
          show List.Perm _ _
          rw [HDR.out]
          exact dirsL_snoc HPE.out (.inl rfl)
        have k4 : wl.cell? ⟨B1, 2, none⟩ = some (.slice la done.length lc) := RB.out.cell 2
        have hB1 : B1 + 1 ≤ wl.heap.size := RB.out.lt
        go_wp2_with (first
          | ((with_reducible refine at_load 37 (.tmp 7) ?_); refine wpList_load_own rfl 37 (.tmp 7) rfl lb rfl _ _ _ RL.out Try.underlying37 rfl (by kernel_rfl) ?_)
          | (at_builtin; refine wpList_append_own _ rfl (.tmp 67) (.tmp 69) 24 rfl (B1 + 1) 37 li lz 4 32 Try.underlying24 HLI.out HLZ.out hy1 hy2 hy3 (by decide) _ done.length _ rfl (HO.out.alloc _) ⟨wl.heap.size, 0, none⟩ 1 1 [.int .i64 x.a, .int .i64 x.p, .int .i64 x.b, .int .i64 x.q] rfl ?d0a ?d1a ?d2a ?d3a ?d4a ?d5a ?_))
        (try case d0a => rfl)
        (try case d1a =>
          intro j' u hj'
          rw [addr_add, (rowIs_new wl _ _).cell j', ← Array.getElem?_toList]
          exact hj')
        (try case d2a => first | exact ⟨rfl, rfl, rfl, rfl⟩ | (intro u hu; simp at hu; rcases hu with rfl | rfl | rfl | rfl <;> rfl))
        (try case d3a => simp [maxLen]; omega)
        (try case d4a => omega)
        (try case d5a => first | omega | (simp; omega))
        intro v' w7 ho7 hg7 _
        have hF7 : RowsFrom w7 (B1 + 1) 37 4 Lk.vals v' (done ++ [x]) := rowsFrom_app ho7
        have hgl : Below (B1 + 1) wl w7 := ((Below.refl _ wl).alloc hB1 _).grown hg7 (by simp; omega) (fun k e1 => (HO.out.lt k e1).1)
        replace R0 := Lib.hid (R0.out.below hgl (by omega))
        replace RB := Lib.hid (RB.out.below hgl (by omega))
        replace hbr := hbr.trans (hgl.mono (by omega))
        have HF7 := Lib.hid hF7
        obtain ⟨la7, lc7, he7, -⟩ := hF7
        subst he7
        clear ho7 hg7 hgl HO k4
        go_wp2_with ((with_reducible refine at_store 24 (.tmp 71) (.tmp 70) ?_); refine wpList_store_cell rfl 24 (.tmp 71) (.tmp 70) rfl B1 2 _ rfl rfl 26 _ RB.out (show 2 < 3 from by decide) (by kernel_rfl) rfl w.heap.size (by omega) ?_)
        intro w8 hR8 ho8 hs8 hb8
        have hR8' : RowIs w8 B1 26 #[.slice v.ai N.ids.length v.ci, .slice v.ac N.costs.length v.cc, .slice la7 (done ++ [x]).length lc7] := by simpa using hR8
        replace RB := Lib.hid hR8'
        replace R0 := Lib.hid (rowIs_same R0.out (ho8 _ (by omega)))
        have HF7 := Lib.hid (HF7.out.same (fun m hm => ho8 m (by omega)))
        replace hbr := hbr.trans hb8
        clear hR8 hR8' ho8 hs8 hb8
        go_wp2_with fail
        exact ⟨⟨k, done ++ [x], (k : Int) - 1, la7, lc7, by omega, by simp; omega, by go_num, rfl, HTY, R0, RB, HF7, hbr⟩, by simp [intOf]⟩
      · cases bo
        · as_aux_lemma =>
          have hix : ∀ w : World, (Instr.indexAt 41 (.slice ao bs.length tcap) (.int .i64 (k : Int))).run Try.prog w = .ok (.pointer (some ⟨tb, toff + k, none⟩)) w := fun w => by
            rw [eao]
            go_simp
          clear eao
          go_upto_region 11 with fail
          clear l0 l1 l2 l3 e1 hcb hix
          have HTY : Hid ((dirsL (done ++ [x])).Perm (dirsL (N.links.drop k))) := by
            show List.Perm _ _
            rw [HDR.out]
            exact dirsL_snoc HPE.out (.inl rfl)
          have k4 : wl.cell? ⟨B1, 2, none⟩ = some (.slice la done.length lc) := RB.out.cell 2
          have hB1 : B1 + 1 ≤ wl.heap.size := RB.out.lt
          go_wp2_with (first
            | ((with_reducible refine at_load 37 (.tmp 7) ?_); refine wpList_load_own rfl 37 (.tmp 7) rfl lb rfl _ _ _ RL.out Try.underlying37 rfl (by kernel_rfl) ?_)
            | (at_builtin; refine wpList_append_own _ rfl (.tmp 67) (.tmp 69) 24 rfl (B1 + 1) 37 li lz 4 32 Try.underlying24 HLI.out HLZ.out hy1 hy2 hy3 (by decide) _ done.length _ rfl (HO.out.alloc _) ⟨wl.heap.size, 0, none⟩ 1 1 [.int .i64 x.a, .int .i64 x.p, .int .i64 x.b, .int .i64 x.q] rfl ?d0b ?d1b ?d2b ?d3b ?d4b ?d5b ?_))
          (try case d0b => rfl)
          (try case d1b =>
            intro j' u hj'
            rw [addr_add, (rowIs_new wl _ _).cell j', ← Array.getElem?_toList]
            exact hj')
          (try case d2b => first | exact ⟨rfl, rfl, rfl, rfl⟩ | (intro u hu; simp at hu; rcases hu with rfl | rfl | rfl | rfl <;> rfl))
          (try case d3b => simp [maxLen]; omega)
          (try case d4b => omega)
          (try case d5b => first | omega | (simp; omega))
          intro v' w7 ho7 hg7 _
          have hF7 : RowsFrom w7 (B1 + 1) 37 4 Lk.vals v' (done ++ [x]) := rowsFrom_app ho7
          have hgl : Below (B1 + 1) wl w7 := ((Below.refl _ wl).alloc hB1 _).grown hg7 (by simp; omega) (fun k e1 => (HO.out.lt k e1).1)
          replace R0 := Lib.hid (R0.out.below hgl (by omega))
          replace RB := Lib.hid (RB.out.below hgl (by omega))
          replace hbr := hbr.trans (hgl.mono (by omega))
          have HF7 := Lib.hid hF7
          obtain ⟨la7, lc7, he7, -⟩ := hF7
          subst he7
          clear ho7 hg7 hgl HO k4
          go_wp2_with ((with_reducible refine at_store 24 (.tmp 71) (.tmp 70) ?_); refine wpList_store_cell rfl 24 (.tmp 71) (.tmp 70) rfl B1 2 _ rfl rfl 26 _ RB.out (show 2 < 3 from by decide) (by kernel_rfl) rfl w.heap.size (by omega) ?_)
          intro w8 hR8 ho8 hs8 hb8
          have hR8' : RowIs w8 B1 26 #[.slice v.ai N.ids.length v.ci, .slice v.ac N.costs.length v.cc, .slice la7 (done ++ [x]).length lc7] := by simpa using hR8
          replace RB := Lib.hid hR8'
          replace R0 := Lib.hid (rowIs_same R0.out (ho8 _ (by omega)))
          have HF7 := Lib.hid (HF7.out.same (fun m hm => ho8 m (by omega)))
          replace hbr := hbr.trans hb8
          clear hR8 hR8' ho8 hs8 hb8
          go_wp2_with fail
          exact ⟨⟨k, done ++ [x], (k : Int) - 1, la7, lc7, by omega, by simp; omega, by go_num, rfl, HTY, R0, RB, HF7, hbr⟩, by simp [intOf]⟩
        · as_aux_lemma =>
          have hix : ∀ w : World, (Instr.indexAt 41 (.slice ao bs.length tcap) (.int .i64 (k : Int))).run Try.prog w = .ok (.pointer (some ⟨tb, toff + k, none⟩)) w := fun w => by
            rw [eao]
            go_simp
          clear eao
          go_wp2_with ((with_reducible refine at_store 37 (.tmp 7) (.tmp 65) ?_); refine wpList_store_own rfl 37 (.tmp 7) (.tmp 65) rfl lb _ rfl rfl _ _ RL.out (by kernel_rfl) rfl (by simp [Value.oneCell']) w.heap.size (by omega) ?_)
          intro wf hRf hof hsf hbf
          have RL : Hid (RowIs wf lb 37 #[.int .i64 x.b, .int .i64 x.q, .int .i64 x.a, .int .i64 x.p]) := hRf
          replace R0 := Lib.hid (rowIs_same R0.out (hof _ (by omega)))
          replace RB := Lib.hid (rowIs_same RB.out (hof _ (by omega)))
          have HO := Lib.hid (owns_except HO.out hof HLB.out)
          replace hbr := hbr.trans hbf
          clear hRf hof hsf hbf l0 l1 l2 l3 e1 hcb hix
          have HTY : Hid ((dirsL (done ++ [x.turn])).Perm (dirsL (N.links.drop k))) := by
            show List.Perm _ _
            rw [HDR.out]
            exact dirsL_snoc HPE.out (.inr rfl)
          have k4 : wf.cell? ⟨B1, 2, none⟩ = some (.slice la done.length lc) := RB.out.cell 2
          have hB1 : B1 + 1 ≤ wf.heap.size := RB.out.lt
          go_wp2_with (first
            | ((with_reducible refine at_load 37 (.tmp 7) ?_); refine wpList_load_own rfl 37 (.tmp 7) rfl lb rfl _ _ _ RL.out Try.underlying37 rfl (by kernel_rfl) ?_)
            | (at_builtin; refine wpList_append_own _ rfl (.tmp 67) (.tmp 69) 24 rfl (B1 + 1) 37 li lz 4 32 Try.underlying24 HLI.out HLZ.out hy1 hy2 hy3 (by decide) _ done.length _ rfl (HO.out.alloc _) ⟨wf.heap.size, 0, none⟩ 1 1 [.int .i64 x.b, .int .i64 x.q, .int .i64 x.a, .int .i64 x.p] rfl ?d0c ?d1c ?d2c ?d3c ?d4c ?d5c ?_))
          (try case d0c => rfl)
          (try case d1c =>
            intro j' u hj'
            rw [addr_add, (rowIs_new wf _ _).cell j', ← Array.getElem?_toList]
            exact hj')
          (try case d2c => first | exact ⟨rfl, rfl, rfl, rfl⟩ | (intro u hu; simp at hu; rcases hu with rfl | rfl | rfl | rfl <;> rfl))
          (try case d3c => simp [maxLen]; omega)
          (try case d4c => omega)
          (try case d5c => first | omega | (simp; omega))
          intro v' w7 ho7 hg7 _
          have hF7 : RowsFrom w7 (B1 + 1) 37 4 Lk.vals v' (done ++ [x.turn]) := rowsFrom_app ho7
          have hgl : Below (B1 + 1) wf w7 := ((Below.refl _ wf).alloc hB1 _).grown hg7 (by simp; omega) (fun k e1 => (HO.out.lt k e1).1)
          replace R0 := Lib.hid (R0.out.below hgl (by omega))
          replace RB := Lib.hid (RB.out.below hgl (by omega))
          replace hbr := hbr.trans (hgl.mono (by omega))
          have HF7 := Lib.hid hF7
          obtain ⟨la7, lc7, he7, -⟩ := hF7
          subst he7
          clear ho7 hg7 hgl HO k4
          go_wp2_with ((with_reducible refine at_store 24 (.tmp 71) (.tmp 70) ?_); refine wpList_store_cell rfl 24 (.tmp 71) (.tmp 70) rfl B1 2 _ rfl rfl 26 _ RB.out (show 2 < 3 from by decide) (by kernel_rfl) rfl w.heap.size (by omega) ?_)
          intro w8 hR8 ho8 hs8 hb8
          have hR8' : RowIs w8 B1 26 #[.slice v.ai N.ids.length v.ci, .slice v.ac N.costs.length v.cc, .slice la7 (done ++ [x.turn]).length lc7] := by simpa using hR8
          replace RB := Lib.hid hR8'
          replace R0 := Lib.hid (rowIs_same R0.out (ho8 _ (by omega)))
          have HF7 := Lib.hid (HF7.out.same (fun m hm => ho8 m (by omega)))
          replace hbr := hbr.trans hb8
          clear hR8 hR8' ho8 hs8 hb8
          go_wp2_with fail
          exact ⟨⟨k, done ++ [x.turn], (k : Int) - 1, la7, lc7, by omega, by simp; omega, by go_num, rfl, HTY, R0, RB, HF7, hbr⟩, by simp [intOf]⟩
    | zero =>
      obtain rfl : z = -1 := by omega
      clear hz
      go_upto_region 12 with fail
      have hd1000 : done.length ≤ 1000 := by omega
      clear hlen
      have HAL : Hid (Alike N ⟨N.ids, N.costs, done⟩) := ⟨rfl, rfl, by have h := HPE.out; rwa [List.drop_zero] at h⟩
      obtain ⟨al, cl, he, hra⟩ := HF.out.at (fun x : Lk => (rfl : (Lk.vals x).length = 4))
      obtain ⟨e1, _, e3⟩ := Value.slice.inj he
      subst e1 e3
      have HRA := Lib.hid hra
      have HNB : Hid (∀ W, Below wr.heap.size wr W → NetAt W ⟨v.ai, v.ci, v.ac, v.cc, la, lc⟩ ⟨N.ids, N.costs, done⟩) := fun W hb => ⟨(HN.out.kept (hbr.trans (hb.mono hbr.size))).ids, (HN.out.kept (hbr.trans (hb.mono hbr.size))).costs, HRA.out.kept hb⟩
      have HNA : Hid (∀ W, Below wr.heap.size wr W → NetAt W v N) := fun W hb => HN.out.kept (hbr.trans (hb.mono hbr.size))
      have HOA : Hid (∀ W, Below wr.heap.size wr W → Calls Try.prog 10 #[.agg #[.slice v.ai N.ids.length v.ci, .slice v.ac N.costs.length v.cc, .slice v.al N.links.length v.cl]] W fun e w' => ∃ (ai : Option Addr) (ci : Nat) (al : Option Addr) (cl : Nat), e = .returned (.agg #[.slice ai N.ids.length ci, .slice v.ac N.costs.length v.cc, .slice al N.links.length cl]) ∧ NetAt w' ⟨ai, ci, v.ac, v.cc, al, cl⟩ N ∧ Below W.heap.size W w') := fun W hb => ofB18 v N W (HNA.out W hb) (by omega) (by omega)
      have HOB : Hid (∀ W, Below wr.heap.size wr W → Calls Try.prog 10 #[.agg #[.slice v.ai N.ids.length v.ci, .slice v.ac N.costs.length v.cc, .slice la done.length lc]] W fun e w' => ∃ (ai : Option Addr) (ci : Nat) (al : Option Addr) (cl : Nat), e = .returned (.agg #[.slice ai N.ids.length ci, .slice v.ac N.costs.length v.cc, .slice al done.length cl]) ∧ NetAt w' ⟨ai, ci, v.ac, v.cc, al, cl⟩ ⟨N.ids, N.costs, done⟩ ∧ Below W.heap.size W w') := fun W hb => ofB18 ⟨v.ai, v.ci, v.ac, v.cc, la, lc⟩ ⟨N.ids, N.costs, done⟩ W (HNB.out W hb) (by show N.ids.length ≤ 1000; omega) hd1000
      have hwwr : w.heap.size < wr.heap.size := R0.out.lt
      have hBwr : B1 < wr.heap.size := RB.out.lt
      clear HF hra HPE HRA HNB
      go_cut [8, 9] (fun u8 u9 wx => ∃ A Bb vai vci val vcl uai uci ual ucl, u8 = .pointer (some ⟨A, 0, none⟩) ∧ u9 = .pointer (some ⟨Bb, 0, none⟩) ∧ RowIs wx A 33 #[.slice vai N.ids.length vci, .slice v.ac N.costs.length v.cc, .slice val N.links.length vcl] ∧ RowIs wx Bb 33 #[.slice uai N.ids.length uci, .slice v.ac N.costs.length v.cc, .slice ual done.length ucl] ∧ NetAt wx ⟨vai, vci, v.ac, v.cc, val, vcl⟩ N ∧ NetAt wx ⟨uai, uci, v.ac, v.cc, ual, ucl⟩ ⟨N.ids, N.costs, done⟩ ∧ RowIs wx w.heap.size 26 #[.slice v.ai N.ids.length v.ci, .slice v.ac N.costs.length v.cc, .slice v.al N.links.length v.cl] ∧ Below wr.heap.size wr wx)
      case first =>
        as_aux_lemma =>
        have hbd : Below wr.heap.size wr wr.drew := (Below.refl _ _).drew
        replace R0 := Lib.hid (R0.out.kept hbd)
        replace RB := Lib.hid (RB.out.kept hbd)
        have RD : (fun w' => w'.rangeAt w.heap.size 0 [.slice v.ai N.ids.length v.ci, .slice v.ac N.costs.length v.cc, .slice v.al N.links.length v.cl] ∧ w'.rangeAt B1 0 [.slice v.ai N.ids.length v.ci, .slice v.ac N.costs.length v.cc, .slice la done.length lc]) wr.drew := ⟨range_of_row R0.out rfl, range_of_row RB.out rfl⟩
        refine wp_region_held (S := fun w' => w'.rangeAt w.heap.size 0 [.slice v.ai N.ids.length v.ci, .slice v.ac N.costs.length v.cc, .slice v.al N.links.length v.cl] ∧ w'.rangeAt B1 0 [.slice v.ai N.ids.length v.ci, .slice v.ac N.costs.length v.cc, .slice la done.length lc]) (by kernel_rfl) ?_
        change wpAnyH _ _ _ _ _ _ _ _ wr.drew
        have hb : Below wr.heap.size wr wr.drew := hbd
        clear hbd
        generalize wr.drew = wd at *
        refine wpAnyH_take (i := 0) (oi := { dst := some 72, op := Op.load 26 (Operand.tmp 2), type := 26, pos := "law.go:272", after := #[], guard := none }) (v := .agg #[.slice v.ai N.ids.length v.ci, .slice v.ac N.costs.length v.cc, .slice v.al N.links.length v.cl]) rfl (by kernel_rfl) (by kernel_rfl) (by kernel_rfl) (fun _ _ _ h => h) (yieldsIf_load_mid rfl _ _ rfl w.heap.size 0 rfl [.slice v.ai N.ids.length v.ci, .slice v.ac N.costs.length v.cc, .slice v.al N.links.length v.cl] _ (fun w' (hS' : (fun w' => w'.rangeAt w.heap.size 0 [.slice v.ai N.ids.length v.ci, .slice v.ac N.costs.length v.cc, .slice v.al N.links.length v.cl] ∧ w'.rangeAt B1 0 [.slice v.ai N.ids.length v.ci, .slice v.ac N.costs.length v.cc, .slice la done.length lc]) w') => hS'.1) Try.underlying26 rfl (by kernel_rfl)) RD ?_
        (try simp only [Act.put, List.setIfInBounds_toArray, List.set_cons_zero, List.set_cons_succ])
        refine wpAnyH_take (i := 2) (oi := { dst := some 74, op := Op.load 26 (Operand.tmp 5), type := 26, pos := "law.go:272", after := #[], guard := none }) (v := .agg #[.slice v.ai N.ids.length v.ci, .slice v.ac N.costs.length v.cc, .slice la done.length lc]) rfl (by kernel_rfl) (by kernel_rfl) (by kernel_rfl) (fun _ _ _ h => h) (yieldsIf_load_mid rfl _ _ rfl B1 0 rfl [.slice v.ai N.ids.length v.ci, .slice v.ac N.costs.length v.cc, .slice la done.length lc] _ (fun w' (hS' : (fun w' => w'.rangeAt w.heap.size 0 [.slice v.ai N.ids.length v.ci, .slice v.ac N.costs.length v.cc, .slice v.al N.links.length v.cl] ∧ w'.rangeAt B1 0 [.slice v.ai N.ids.length v.ci, .slice v.ac N.costs.length v.cc, .slice la done.length lc]) w') => hS'.2) Try.underlying26 rfl (by kernel_rfl)) RD ?_
        (try simp only [Act.put, List.setIfInBounds_toArray, List.set_cons_zero, List.set_cons_succ])
        refine wpAnyH_ready (rs := [1, 4, 5]) (by kernel_rfl) (by simp) ?_
        refine ar_call18 (i := 1) (o := { dst := some 73, op := Op.call { callee := Callee.value (Operand.func 10), args := #[Operand.tmp 72], argTypes := #[26] }, type := 33, pos := "law.go:272", after := #[{ on := 0, ground := Ground.data }], guard := none }) rfl (by kernel_rfl) (xs := [.tmp 72]) (vs := [.agg #[.slice v.ai N.ids.length v.ci, .slice v.ac N.costs.length v.cc, .slice v.al N.links.length v.cl]]) rfl rfl Try.func10 (by kernel_rfl) (by kernel_rfl) ?h1 ?more1
        case h1 =>
          refine (HOA.out wd hb).mono ?_
          rintro e v1 ⟨vai, vci, val, vcl, rfl, hres, hbk⟩
          have R0 := Lib.hid (R0.out.kept hbk)
          have RB := Lib.hid (RB.out.kept hbk)
          have Hv := Lib.hid hres
          replace hb := hb.trans (hbk.mono hb.size)
          have RD : (fun w' => w'.rangeAt w.heap.size 0 [.slice v.ai N.ids.length v.ci, .slice v.ac N.costs.length v.cc, .slice v.al N.links.length v.cl] ∧ w'.rangeAt B1 0 [.slice v.ai N.ids.length v.ci, .slice v.ac N.costs.length v.cc, .slice la done.length lc]) v1 := ⟨range_of_row R0.out rfl, range_of_row RB.out rfl⟩
          refine ⟨_, rfl, RD, ?_⟩
          clear hres hbk
          (try simp only [Act.put, List.setIfInBounds_toArray, List.set_cons_zero, List.set_cons_succ])
          refine wpAnyH_ready (rs := [3, 4, 5]) (by kernel_rfl) (by simp) ?_
          refine ar_call18 (i := 3) (o := { dst := some 75, op := Op.call { callee := Callee.value (Operand.func 10), args := #[Operand.tmp 74], argTypes := #[26] }, type := 33, pos := "law.go:272", after := #[{ on := 2, ground := Ground.data }, { on := 1, ground := Ground.chain }], guard := none }) rfl (by kernel_rfl) (xs := [.tmp 74]) (vs := [.agg #[.slice v.ai N.ids.length v.ci, .slice v.ac N.costs.length v.cc, .slice la done.length lc]]) rfl rfl Try.func10 (by kernel_rfl) (by kernel_rfl) ?h2 ?more2
          case h2 =>
            refine (HOB.out v1 hb).mono ?_
            rintro e v2 ⟨uai, uci, ual, ucl, rfl, hres, hbk⟩
            have R0 := Lib.hid (R0.out.kept hbk)
            have RB := Lib.hid (RB.out.kept hbk)
            have Hv := Lib.hid (Hv.out.kept hbk)
            have Hu := Lib.hid hres
            replace hb := hb.trans (hbk.mono hb.size)
            have RD : (fun w' => w'.rangeAt w.heap.size 0 [.slice v.ai N.ids.length v.ci, .slice v.ac N.costs.length v.cc, .slice v.al N.links.length v.cl] ∧ w'.rangeAt B1 0 [.slice v.ai N.ids.length v.ci, .slice v.ac N.costs.length v.cc, .slice la done.length lc]) v2 := ⟨range_of_row R0.out rfl, range_of_row RB.out rfl⟩
            refine ⟨_, rfl, RD, ?_⟩
            clear hres hbk
            (try simp only [Act.put, List.setIfInBounds_toArray, List.set_cons_zero, List.set_cons_succ])
            refine wpAnyH_ready (rs := [4, 5]) (by kernel_rfl) (by simp) ?_
            refine ar_alloc18 (i := 4) (o := { dst := some 8, op := Op.alloc 33, type := 0, pos := "law.go:272", after := #[], guard := none }) rfl (by kernel_rfl) 33 rfl #[.slice none 0 0, .slice none 0 0, .slice none 0 0] (by kernel_rfl) ?h3 ?more3
            case h3 =>
              have hbk : Below v2.heap.size v2 (v2.alloc (.cells #[.slice none 0 0, .slice none 0 0, .slice none 0 0] 33)) := (Below.refl _ _).alloc (Nat.le_refl _) _
              have R0 := Lib.hid (R0.out.kept hbk)
              have RB := Lib.hid (RB.out.kept hbk)
              have Hv := Lib.hid (Hv.out.kept hbk)
              have Hu := Lib.hid (Hu.out.kept hbk)
              have HA := Lib.hid (rowIs_new v2 33 #[.slice none 0 0, .slice none 0 0, .slice none 0 0])
              have hglA : wr.heap.size ≤ v2.heap.size := hb.size
              replace hb := hb.trans (hbk.mono hb.size)
              have RD : (fun w' => w'.rangeAt w.heap.size 0 [.slice v.ai N.ids.length v.ci, .slice v.ac N.costs.length v.cc, .slice v.al N.links.length v.cl] ∧ w'.rangeAt B1 0 [.slice v.ai N.ids.length v.ci, .slice v.ac N.costs.length v.cc, .slice la done.length lc]) (v2.alloc (.cells #[.slice none 0 0, .slice none 0 0, .slice none 0 0] 33)) := ⟨range_of_row R0.out rfl, range_of_row RB.out rfl⟩
              refine ⟨RD, ?_⟩
              clear hbk
              generalize (v2.alloc (.cells #[.slice none 0 0, .slice none 0 0, .slice none 0 0] 33)) = v3 at *
              generalize v2.heap.size = A at *
              (try simp only [Act.put, List.setIfInBounds_toArray, List.set_cons_zero, List.set_cons_succ])
              refine wpAnyH_ready (rs := [5]) (by kernel_rfl) (by simp) ?_
              refine ar_alloc18 (i := 5) (o := { dst := some 9, op := Op.alloc 33, type := 0, pos := "law.go:272", after := #[], guard := none }) rfl (by kernel_rfl) 33 rfl #[.slice none 0 0, .slice none 0 0, .slice none 0 0] (by kernel_rfl) ?h4 AllReadyH.nil
              case h4 =>
                have hbk : Below v3.heap.size v3 (v3.alloc (.cells #[.slice none 0 0, .slice none 0 0, .slice none 0 0] 33)) := (Below.refl _ _).alloc (Nat.le_refl _) _
                have hne : A ≠ v3.heap.size := by have := HA.out.lt; omega
                have R0 := Lib.hid (R0.out.kept hbk)
                have RB := Lib.hid (RB.out.kept hbk)
                have Hv := Lib.hid (Hv.out.kept hbk)
                have Hu := Lib.hid (Hu.out.kept hbk)
                have HA := Lib.hid (HA.out.kept hbk)
                have HBb := Lib.hid (rowIs_new v3 33 #[.slice none 0 0, .slice none 0 0, .slice none 0 0])
                have hglBb : wr.heap.size ≤ v3.heap.size := hb.size
                replace hb := hb.trans (hbk.mono hb.size)
                have RD : (fun w' => w'.rangeAt w.heap.size 0 [.slice v.ai N.ids.length v.ci, .slice v.ac N.costs.length v.cc, .slice v.al N.links.length v.cl] ∧ w'.rangeAt B1 0 [.slice v.ai N.ids.length v.ci, .slice v.ac N.costs.length v.cc, .slice la done.length lc]) (v3.alloc (.cells #[.slice none 0 0, .slice none 0 0, .slice none 0 0] 33)) := ⟨range_of_row R0.out rfl, range_of_row RB.out rfl⟩
                refine ⟨RD, ?_⟩
                clear hbk
                generalize (v3.alloc (.cells #[.slice none 0 0, .slice none 0 0, .slice none 0 0] 33)) = v4 at *
                generalize v3.heap.size = Bb at *
                (try simp only [Act.put, List.setIfInBounds_toArray, List.set_cons_zero, List.set_cons_succ])
                have hAB : A ≠ Bb := hne
                refine wpAnyH_ready (rs := [6]) (by kernel_rfl) (by simp) ?_
                refine ar_row18 (i := 6) (o := { dst := none, op := Op.store 33 (Operand.tmp 8) (Operand.tmp 73), type := 0, pos := "law.go:272", after := #[{ on := 4, ground := Ground.data }, { on := 1, ground := Ground.data }, { on := 3, ground := Ground.chain }, { on := 0, ground := Ground.phase }, { on := 1, ground := Ground.phase }, { on := 2, ground := Ground.textOnly Departure.lateStores }, { on := 3, ground := Ground.textOnly Departure.lateStoresUnsure }, { on := 4, ground := Ground.phase }, { on := 5, ground := Ground.phase }], guard := none }) rfl (by kernel_rfl) 33 (.tmp 8) (.tmp 73) rfl A #[.slice vai N.ids.length vci, .slice v.ac N.costs.length v.cc, .slice val N.links.length vcl] rfl rfl 33 _ HA.out (by kernel_rfl) rfl (by simp [Value.oneCell']) ?_
                intro wa hRa hoa hsa hba
                replace hb := hb.trans (hba.mono hglA)
                replace Hv := Lib.hid (Hv.out.away HA.out hoa hsa (HNA.out wa hb).costs)
                replace Hu := Lib.hid (Hu.out.away HA.out hoa hsa (HNA.out wa hb).costs)
                replace HA := Lib.hid hRa
                replace HBb := Lib.hid (rowIs_same HBb.out (hoa _ (Ne.symm hAB)))
                replace R0 := Lib.hid (rowIs_same R0.out (hoa _ (by omega)))
                replace RB := Lib.hid (rowIs_same RB.out (hoa _ (by omega)))
                refine ⟨⟨range_of_row R0.out rfl, range_of_row RB.out rfl⟩, ?_⟩
                clear hRa hoa hsa hba RD
                (try simp only [Act.put, List.setIfInBounds_toArray, List.set_cons_zero, List.set_cons_succ])
                refine wpAnyH_ready (rs := [7]) (by kernel_rfl) (by simp) ?_
                refine ar_row18 (i := 7) (o := { dst := none, op := Op.store 33 (Operand.tmp 9) (Operand.tmp 75), type := 0, pos := "law.go:272", after := #[{ on := 5, ground := Ground.data }, { on := 3, ground := Ground.data }, { on := 6, ground := Ground.chain }, { on := 0, ground := Ground.phase }, { on := 1, ground := Ground.phase }, { on := 2, ground := Ground.phase }, { on := 3, ground := Ground.phase }, { on := 4, ground := Ground.phase }, { on := 5, ground := Ground.phase }, { on := 6, ground := Ground.phase }], guard := none } ) rfl (by kernel_rfl) 33 (.tmp 9) (.tmp 75) rfl Bb #[.slice uai N.ids.length uci, .slice v.ac N.costs.length v.cc, .slice ual done.length ucl] rfl rfl 33 _ HBb.out (by kernel_rfl) rfl (by simp [Value.oneCell']) ?_
                intro wb hRb hob hsb hbb
                replace hb := hb.trans (hbb.mono hglBb)
                replace Hv := Lib.hid (Hv.out.away HBb.out hob hsb (HNA.out wb hb).costs)
                replace Hu := Lib.hid (Hu.out.away HBb.out hob hsb (HNA.out wb hb).costs)
                replace HBb := Lib.hid hRb
                replace HA := Lib.hid (rowIs_same HA.out (hob _ hAB))
                replace R0 := Lib.hid (rowIs_same R0.out (hob _ (by omega)))
                replace RB := Lib.hid (rowIs_same RB.out (hob _ (by omega)))
                refine ⟨⟨range_of_row R0.out rfl, range_of_row RB.out rfl⟩, ?_⟩
                clear hRb hob hsb hbb
                (try simp only [Act.put, List.setIfInBounds_toArray, List.set_cons_zero, List.set_cons_succ])
                refine wpAnyH_done (by kernel_rfl) ?_ _
                go_wp2_with fail
                go_meet
                exact ⟨A, Bb, vai, vci, val, vcl, uai, uci, ual, ucl, rfl, rfl, HA.out, HBb.out, Hv.out, Hu.out, R0.out, hb⟩
            case more3 =>
              refine ar_alloc18 (i := 5) (o := { dst := some 9, op := Op.alloc 33, type := 0, pos := "law.go:272", after := #[], guard := none }) rfl (by kernel_rfl) 33 rfl #[.slice none 0 0, .slice none 0 0, .slice none 0 0] (by kernel_rfl) ?h5 AllReadyH.nil
              case h5 =>
                have hbk : Below v2.heap.size v2 (v2.alloc (.cells #[.slice none 0 0, .slice none 0 0, .slice none 0 0] 33)) := (Below.refl _ _).alloc (Nat.le_refl _) _
                have R0 := Lib.hid (R0.out.kept hbk)
                have RB := Lib.hid (RB.out.kept hbk)
                have Hv := Lib.hid (Hv.out.kept hbk)
                have Hu := Lib.hid (Hu.out.kept hbk)
                have HBb := Lib.hid (rowIs_new v2 33 #[.slice none 0 0, .slice none 0 0, .slice none 0 0])
                have hglBb : wr.heap.size ≤ v2.heap.size := hb.size
                replace hb := hb.trans (hbk.mono hb.size)
                have RD : (fun w' => w'.rangeAt w.heap.size 0 [.slice v.ai N.ids.length v.ci, .slice v.ac N.costs.length v.cc, .slice v.al N.links.length v.cl] ∧ w'.rangeAt B1 0 [.slice v.ai N.ids.length v.ci, .slice v.ac N.costs.length v.cc, .slice la done.length lc]) (v2.alloc (.cells #[.slice none 0 0, .slice none 0 0, .slice none 0 0] 33)) := ⟨range_of_row R0.out rfl, range_of_row RB.out rfl⟩
                refine ⟨RD, ?_⟩
                clear hbk
                generalize (v2.alloc (.cells #[.slice none 0 0, .slice none 0 0, .slice none 0 0] 33)) = v5 at *
                generalize v2.heap.size = Bb at *
                (try simp only [Act.put, List.setIfInBounds_toArray, List.set_cons_zero, List.set_cons_succ])
                refine wpAnyH_ready (rs := [4]) (by kernel_rfl) (by simp) ?_
                refine ar_alloc18 (i := 4) (o := { dst := some 8, op := Op.alloc 33, type := 0, pos := "law.go:272", after := #[], guard := none }) rfl (by kernel_rfl) 33 rfl #[.slice none 0 0, .slice none 0 0, .slice none 0 0] (by kernel_rfl) ?h6 AllReadyH.nil
                case h6 =>
                  have hbk : Below v5.heap.size v5 (v5.alloc (.cells #[.slice none 0 0, .slice none 0 0, .slice none 0 0] 33)) := (Below.refl _ _).alloc (Nat.le_refl _) _
                  have hne : Bb ≠ v5.heap.size := by have := HBb.out.lt; omega
                  have R0 := Lib.hid (R0.out.kept hbk)
                  have RB := Lib.hid (RB.out.kept hbk)
                  have Hv := Lib.hid (Hv.out.kept hbk)
                  have Hu := Lib.hid (Hu.out.kept hbk)
                  have HBb := Lib.hid (HBb.out.kept hbk)
                  have HA := Lib.hid (rowIs_new v5 33 #[.slice none 0 0, .slice none 0 0, .slice none 0 0])
                  have hglA : wr.heap.size ≤ v5.heap.size := hb.size
                  replace hb := hb.trans (hbk.mono hb.size)
                  have RD : (fun w' => w'.rangeAt w.heap.size 0 [.slice v.ai N.ids.length v.ci, .slice v.ac N.costs.length v.cc, .slice v.al N.links.length v.cl] ∧ w'.rangeAt B1 0 [.slice v.ai N.ids.length v.ci, .slice v.ac N.costs.length v.cc, .slice la done.length lc]) (v5.alloc (.cells #[.slice none 0 0, .slice none 0 0, .slice none 0 0] 33)) := ⟨range_of_row R0.out rfl, range_of_row RB.out rfl⟩
                  refine ⟨RD, ?_⟩
                  clear hbk
                  generalize (v5.alloc (.cells #[.slice none 0 0, .slice none 0 0, .slice none 0 0] 33)) = v6 at *
                  generalize v5.heap.size = A at *
                  (try simp only [Act.put, List.setIfInBounds_toArray, List.set_cons_zero, List.set_cons_succ])
                  have hAB : A ≠ Bb := (Ne.symm hne)
                  refine wpAnyH_ready (rs := [6]) (by kernel_rfl) (by simp) ?_
                  refine ar_row18 (i := 6) (o := { dst := none, op := Op.store 33 (Operand.tmp 8) (Operand.tmp 73), type := 0, pos := "law.go:272", after := #[{ on := 4, ground := Ground.data }, { on := 1, ground := Ground.data }, { on := 3, ground := Ground.chain }, { on := 0, ground := Ground.phase }, { on := 1, ground := Ground.phase }, { on := 2, ground := Ground.textOnly Departure.lateStores }, { on := 3, ground := Ground.textOnly Departure.lateStoresUnsure }, { on := 4, ground := Ground.phase }, { on := 5, ground := Ground.phase }], guard := none }) rfl (by kernel_rfl) 33 (.tmp 8) (.tmp 73) rfl A #[.slice vai N.ids.length vci, .slice v.ac N.costs.length v.cc, .slice val N.links.length vcl] rfl rfl 33 _ HA.out (by kernel_rfl) rfl (by simp [Value.oneCell']) ?_
                  intro wa hRa hoa hsa hba
                  replace hb := hb.trans (hba.mono hglA)
                  replace Hv := Lib.hid (Hv.out.away HA.out hoa hsa (HNA.out wa hb).costs)
                  replace Hu := Lib.hid (Hu.out.away HA.out hoa hsa (HNA.out wa hb).costs)
                  replace HA := Lib.hid hRa
                  replace HBb := Lib.hid (rowIs_same HBb.out (hoa _ (Ne.symm hAB)))
                  replace R0 := Lib.hid (rowIs_same R0.out (hoa _ (by omega)))
                  replace RB := Lib.hid (rowIs_same RB.out (hoa _ (by omega)))
                  refine ⟨⟨range_of_row R0.out rfl, range_of_row RB.out rfl⟩, ?_⟩
                  clear hRa hoa hsa hba RD
                  (try simp only [Act.put, List.setIfInBounds_toArray, List.set_cons_zero, List.set_cons_succ])
                  refine wpAnyH_ready (rs := [7]) (by kernel_rfl) (by simp) ?_
                  refine ar_row18 (i := 7) (o := { dst := none, op := Op.store 33 (Operand.tmp 9) (Operand.tmp 75), type := 0, pos := "law.go:272", after := #[{ on := 5, ground := Ground.data }, { on := 3, ground := Ground.data }, { on := 6, ground := Ground.chain }, { on := 0, ground := Ground.phase }, { on := 1, ground := Ground.phase }, { on := 2, ground := Ground.phase }, { on := 3, ground := Ground.phase }, { on := 4, ground := Ground.phase }, { on := 5, ground := Ground.phase }, { on := 6, ground := Ground.phase }], guard := none } ) rfl (by kernel_rfl) 33 (.tmp 9) (.tmp 75) rfl Bb #[.slice uai N.ids.length uci, .slice v.ac N.costs.length v.cc, .slice ual done.length ucl] rfl rfl 33 _ HBb.out (by kernel_rfl) rfl (by simp [Value.oneCell']) ?_
                  intro wb hRb hob hsb hbb
                  replace hb := hb.trans (hbb.mono hglBb)
                  replace Hv := Lib.hid (Hv.out.away HBb.out hob hsb (HNA.out wb hb).costs)
                  replace Hu := Lib.hid (Hu.out.away HBb.out hob hsb (HNA.out wb hb).costs)
                  replace HBb := Lib.hid hRb
                  replace HA := Lib.hid (rowIs_same HA.out (hob _ hAB))
                  replace R0 := Lib.hid (rowIs_same R0.out (hob _ (by omega)))
                  replace RB := Lib.hid (rowIs_same RB.out (hob _ (by omega)))
                  refine ⟨⟨range_of_row R0.out rfl, range_of_row RB.out rfl⟩, ?_⟩
                  clear hRb hob hsb hbb
                  (try simp only [Act.put, List.setIfInBounds_toArray, List.set_cons_zero, List.set_cons_succ])
                  refine wpAnyH_done (by kernel_rfl) ?_ _
                  go_wp2_with fail
                  go_meet
                  exact ⟨A, Bb, vai, vci, val, vcl, uai, uci, ual, ucl, rfl, rfl, HA.out, HBb.out, Hv.out, Hu.out, R0.out, hb⟩
          case more2 =>
            refine ar_alloc18 (i := 4) (o := { dst := some 8, op := Op.alloc 33, type := 0, pos := "law.go:272", after := #[], guard := none }) rfl (by kernel_rfl) 33 rfl #[.slice none 0 0, .slice none 0 0, .slice none 0 0] (by kernel_rfl) ?h7 ?more7
            case h7 =>
              have hbk : Below v1.heap.size v1 (v1.alloc (.cells #[.slice none 0 0, .slice none 0 0, .slice none 0 0] 33)) := (Below.refl _ _).alloc (Nat.le_refl _) _
              have R0 := Lib.hid (R0.out.kept hbk)
              have RB := Lib.hid (RB.out.kept hbk)
              have Hv := Lib.hid (Hv.out.kept hbk)
              have HA := Lib.hid (rowIs_new v1 33 #[.slice none 0 0, .slice none 0 0, .slice none 0 0])
              have hglA : wr.heap.size ≤ v1.heap.size := hb.size
              replace hb := hb.trans (hbk.mono hb.size)
              have RD : (fun w' => w'.rangeAt w.heap.size 0 [.slice v.ai N.ids.length v.ci, .slice v.ac N.costs.length v.cc, .slice v.al N.links.length v.cl] ∧ w'.rangeAt B1 0 [.slice v.ai N.ids.length v.ci, .slice v.ac N.costs.length v.cc, .slice la done.length lc]) (v1.alloc (.cells #[.slice none 0 0, .slice none 0 0, .slice none 0 0] 33)) := ⟨range_of_row R0.out rfl, range_of_row RB.out rfl⟩
              refine ⟨RD, ?_⟩
              clear hbk
              generalize (v1.alloc (.cells #[.slice none 0 0, .slice none 0 0, .slice none 0 0] 33)) = v7 at *
              generalize v1.heap.size = A at *
              (try simp only [Act.put, List.setIfInBounds_toArray, List.set_cons_zero, List.set_cons_succ])
              refine wpAnyH_ready (rs := [3, 5]) (by kernel_rfl) (by simp) ?_
              refine ar_call18 (i := 3) (o := { dst := some 75, op := Op.call { callee := Callee.value (Operand.func 10), args := #[Operand.tmp 74], argTypes := #[26] }, type := 33, pos := "law.go:272", after := #[{ on := 2, ground := Ground.data }, { on := 1, ground := Ground.chain }], guard := none }) rfl (by kernel_rfl) (xs := [.tmp 74]) (vs := [.agg #[.slice v.ai N.ids.length v.ci, .slice v.ac N.costs.length v.cc, .slice la done.length lc]]) rfl rfl Try.func10 (by kernel_rfl) (by kernel_rfl) ?h8 ?more8
              case h8 =>
                refine (HOB.out v7 hb).mono ?_
                rintro e v8 ⟨uai, uci, ual, ucl, rfl, hres, hbk⟩
                have R0 := Lib.hid (R0.out.kept hbk)
                have RB := Lib.hid (RB.out.kept hbk)
                have Hv := Lib.hid (Hv.out.kept hbk)
                have HA := Lib.hid (HA.out.kept hbk)
                have Hu := Lib.hid hres
                replace hb := hb.trans (hbk.mono hb.size)
                have RD : (fun w' => w'.rangeAt w.heap.size 0 [.slice v.ai N.ids.length v.ci, .slice v.ac N.costs.length v.cc, .slice v.al N.links.length v.cl] ∧ w'.rangeAt B1 0 [.slice v.ai N.ids.length v.ci, .slice v.ac N.costs.length v.cc, .slice la done.length lc]) v8 := ⟨range_of_row R0.out rfl, range_of_row RB.out rfl⟩
                refine ⟨_, rfl, RD, ?_⟩
                clear hres hbk
                (try simp only [Act.put, List.setIfInBounds_toArray, List.set_cons_zero, List.set_cons_succ])
                refine wpAnyH_ready (rs := [5]) (by kernel_rfl) (by simp) ?_
                refine ar_alloc18 (i := 5) (o := { dst := some 9, op := Op.alloc 33, type := 0, pos := "law.go:272", after := #[], guard := none }) rfl (by kernel_rfl) 33 rfl #[.slice none 0 0, .slice none 0 0, .slice none 0 0] (by kernel_rfl) ?h9 AllReadyH.nil
                case h9 =>
                  have hbk : Below v8.heap.size v8 (v8.alloc (.cells #[.slice none 0 0, .slice none 0 0, .slice none 0 0] 33)) := (Below.refl _ _).alloc (Nat.le_refl _) _
                  have hne : A ≠ v8.heap.size := by have := HA.out.lt; omega
                  have R0 := Lib.hid (R0.out.kept hbk)
                  have RB := Lib.hid (RB.out.kept hbk)
                  have Hv := Lib.hid (Hv.out.kept hbk)
                  have HA := Lib.hid (HA.out.kept hbk)
                  have Hu := Lib.hid (Hu.out.kept hbk)
                  have HBb := Lib.hid (rowIs_new v8 33 #[.slice none 0 0, .slice none 0 0, .slice none 0 0])
                  have hglBb : wr.heap.size ≤ v8.heap.size := hb.size
                  replace hb := hb.trans (hbk.mono hb.size)
                  have RD : (fun w' => w'.rangeAt w.heap.size 0 [.slice v.ai N.ids.length v.ci, .slice v.ac N.costs.length v.cc, .slice v.al N.links.length v.cl] ∧ w'.rangeAt B1 0 [.slice v.ai N.ids.length v.ci, .slice v.ac N.costs.length v.cc, .slice la done.length lc]) (v8.alloc (.cells #[.slice none 0 0, .slice none 0 0, .slice none 0 0] 33)) := ⟨range_of_row R0.out rfl, range_of_row RB.out rfl⟩
                  refine ⟨RD, ?_⟩
                  clear hbk
                  generalize (v8.alloc (.cells #[.slice none 0 0, .slice none 0 0, .slice none 0 0] 33)) = v9 at *
                  generalize v8.heap.size = Bb at *
                  (try simp only [Act.put, List.setIfInBounds_toArray, List.set_cons_zero, List.set_cons_succ])
                  have hAB : A ≠ Bb := hne
                  refine wpAnyH_ready (rs := [6]) (by kernel_rfl) (by simp) ?_
                  refine ar_row18 (i := 6) (o := { dst := none, op := Op.store 33 (Operand.tmp 8) (Operand.tmp 73), type := 0, pos := "law.go:272", after := #[{ on := 4, ground := Ground.data }, { on := 1, ground := Ground.data }, { on := 3, ground := Ground.chain }, { on := 0, ground := Ground.phase }, { on := 1, ground := Ground.phase }, { on := 2, ground := Ground.textOnly Departure.lateStores }, { on := 3, ground := Ground.textOnly Departure.lateStoresUnsure }, { on := 4, ground := Ground.phase }, { on := 5, ground := Ground.phase }], guard := none }) rfl (by kernel_rfl) 33 (.tmp 8) (.tmp 73) rfl A #[.slice vai N.ids.length vci, .slice v.ac N.costs.length v.cc, .slice val N.links.length vcl] rfl rfl 33 _ HA.out (by kernel_rfl) rfl (by simp [Value.oneCell']) ?_
                  intro wa hRa hoa hsa hba
                  replace hb := hb.trans (hba.mono hglA)
                  replace Hv := Lib.hid (Hv.out.away HA.out hoa hsa (HNA.out wa hb).costs)
                  replace Hu := Lib.hid (Hu.out.away HA.out hoa hsa (HNA.out wa hb).costs)
                  replace HA := Lib.hid hRa
                  replace HBb := Lib.hid (rowIs_same HBb.out (hoa _ (Ne.symm hAB)))
                  replace R0 := Lib.hid (rowIs_same R0.out (hoa _ (by omega)))
                  replace RB := Lib.hid (rowIs_same RB.out (hoa _ (by omega)))
                  refine ⟨⟨range_of_row R0.out rfl, range_of_row RB.out rfl⟩, ?_⟩
                  clear hRa hoa hsa hba RD
                  (try simp only [Act.put, List.setIfInBounds_toArray, List.set_cons_zero, List.set_cons_succ])
                  refine wpAnyH_ready (rs := [7]) (by kernel_rfl) (by simp) ?_
                  refine ar_row18 (i := 7) (o := { dst := none, op := Op.store 33 (Operand.tmp 9) (Operand.tmp 75), type := 0, pos := "law.go:272", after := #[{ on := 5, ground := Ground.data }, { on := 3, ground := Ground.data }, { on := 6, ground := Ground.chain }, { on := 0, ground := Ground.phase }, { on := 1, ground := Ground.phase }, { on := 2, ground := Ground.phase }, { on := 3, ground := Ground.phase }, { on := 4, ground := Ground.phase }, { on := 5, ground := Ground.phase }, { on := 6, ground := Ground.phase }], guard := none } ) rfl (by kernel_rfl) 33 (.tmp 9) (.tmp 75) rfl Bb #[.slice uai N.ids.length uci, .slice v.ac N.costs.length v.cc, .slice ual done.length ucl] rfl rfl 33 _ HBb.out (by kernel_rfl) rfl (by simp [Value.oneCell']) ?_
                  intro wb hRb hob hsb hbb
                  replace hb := hb.trans (hbb.mono hglBb)
                  replace Hv := Lib.hid (Hv.out.away HBb.out hob hsb (HNA.out wb hb).costs)
                  replace Hu := Lib.hid (Hu.out.away HBb.out hob hsb (HNA.out wb hb).costs)
                  replace HBb := Lib.hid hRb
                  replace HA := Lib.hid (rowIs_same HA.out (hob _ hAB))
                  replace R0 := Lib.hid (rowIs_same R0.out (hob _ (by omega)))
                  replace RB := Lib.hid (rowIs_same RB.out (hob _ (by omega)))
                  refine ⟨⟨range_of_row R0.out rfl, range_of_row RB.out rfl⟩, ?_⟩
                  clear hRb hob hsb hbb
                  (try simp only [Act.put, List.setIfInBounds_toArray, List.set_cons_zero, List.set_cons_succ])
                  refine wpAnyH_done (by kernel_rfl) ?_ _
                  go_wp2_with fail
                  go_meet
                  exact ⟨A, Bb, vai, vci, val, vcl, uai, uci, ual, ucl, rfl, rfl, HA.out, HBb.out, Hv.out, Hu.out, R0.out, hb⟩
              case more8 =>
                refine ar_alloc18 (i := 5) (o := { dst := some 9, op := Op.alloc 33, type := 0, pos := "law.go:272", after := #[], guard := none }) rfl (by kernel_rfl) 33 rfl #[.slice none 0 0, .slice none 0 0, .slice none 0 0] (by kernel_rfl) ?h10 AllReadyH.nil
                case h10 =>
                  have hbk : Below v7.heap.size v7 (v7.alloc (.cells #[.slice none 0 0, .slice none 0 0, .slice none 0 0] 33)) := (Below.refl _ _).alloc (Nat.le_refl _) _
                  have hne : A ≠ v7.heap.size := by have := HA.out.lt; omega
                  have R0 := Lib.hid (R0.out.kept hbk)
                  have RB := Lib.hid (RB.out.kept hbk)
                  have Hv := Lib.hid (Hv.out.kept hbk)
                  have HA := Lib.hid (HA.out.kept hbk)
                  have HBb := Lib.hid (rowIs_new v7 33 #[.slice none 0 0, .slice none 0 0, .slice none 0 0])
                  have hglBb : wr.heap.size ≤ v7.heap.size := hb.size
                  replace hb := hb.trans (hbk.mono hb.size)
                  have RD : (fun w' => w'.rangeAt w.heap.size 0 [.slice v.ai N.ids.length v.ci, .slice v.ac N.costs.length v.cc, .slice v.al N.links.length v.cl] ∧ w'.rangeAt B1 0 [.slice v.ai N.ids.length v.ci, .slice v.ac N.costs.length v.cc, .slice la done.length lc]) (v7.alloc (.cells #[.slice none 0 0, .slice none 0 0, .slice none 0 0] 33)) := ⟨range_of_row R0.out rfl, range_of_row RB.out rfl⟩
                  refine ⟨RD, ?_⟩
                  clear hbk
                  generalize (v7.alloc (.cells #[.slice none 0 0, .slice none 0 0, .slice none 0 0] 33)) = v10 at *
                  generalize v7.heap.size = Bb at *
                  (try simp only [Act.put, List.setIfInBounds_toArray, List.set_cons_zero, List.set_cons_succ])
                  refine wpAnyH_ready (rs := [3]) (by kernel_rfl) (by simp) ?_
                  refine ar_call18 (i := 3) (o := { dst := some 75, op := Op.call { callee := Callee.value (Operand.func 10), args := #[Operand.tmp 74], argTypes := #[26] }, type := 33, pos := "law.go:272", after := #[{ on := 2, ground := Ground.data }, { on := 1, ground := Ground.chain }], guard := none }) rfl (by kernel_rfl) (xs := [.tmp 74]) (vs := [.agg #[.slice v.ai N.ids.length v.ci, .slice v.ac N.costs.length v.cc, .slice la done.length lc]]) rfl rfl Try.func10 (by kernel_rfl) (by kernel_rfl) ?h11 AllReadyH.nil
                  case h11 =>
                    refine (HOB.out v10 hb).mono ?_
                    rintro e v11 ⟨uai, uci, ual, ucl, rfl, hres, hbk⟩
                    have R0 := Lib.hid (R0.out.kept hbk)
                    have RB := Lib.hid (RB.out.kept hbk)
                    have Hv := Lib.hid (Hv.out.kept hbk)
                    have HA := Lib.hid (HA.out.kept hbk)
                    have HBb := Lib.hid (HBb.out.kept hbk)
                    have Hu := Lib.hid hres
                    replace hb := hb.trans (hbk.mono hb.size)
                    have RD : (fun w' => w'.rangeAt w.heap.size 0 [.slice v.ai N.ids.length v.ci, .slice v.ac N.costs.length v.cc, .slice v.al N.links.length v.cl] ∧ w'.rangeAt B1 0 [.slice v.ai N.ids.length v.ci, .slice v.ac N.costs.length v.cc, .slice la done.length lc]) v11 := ⟨range_of_row R0.out rfl, range_of_row RB.out rfl⟩
                    refine ⟨_, rfl, RD, ?_⟩
                    clear hres hbk
                    (try simp only [Act.put, List.setIfInBounds_toArray, List.set_cons_zero, List.set_cons_succ])
                    have hAB : A ≠ Bb := hne
                    refine wpAnyH_ready (rs := [6]) (by kernel_rfl) (by simp) ?_
                    refine ar_row18 (i := 6) (o := { dst := none, op := Op.store 33 (Operand.tmp 8) (Operand.tmp 73), type := 0, pos := "law.go:272", after := #[{ on := 4, ground := Ground.data }, { on := 1, ground := Ground.data }, { on := 3, ground := Ground.chain }, { on := 0, ground := Ground.phase }, { on := 1, ground := Ground.phase }, { on := 2, ground := Ground.textOnly Departure.lateStores }, { on := 3, ground := Ground.textOnly Departure.lateStoresUnsure }, { on := 4, ground := Ground.phase }, { on := 5, ground := Ground.phase }], guard := none }) rfl (by kernel_rfl) 33 (.tmp 8) (.tmp 73) rfl A #[.slice vai N.ids.length vci, .slice v.ac N.costs.length v.cc, .slice val N.links.length vcl] rfl rfl 33 _ HA.out (by kernel_rfl) rfl (by simp [Value.oneCell']) ?_
                    intro wa hRa hoa hsa hba
                    replace hb := hb.trans (hba.mono hglA)
                    replace Hv := Lib.hid (Hv.out.away HA.out hoa hsa (HNA.out wa hb).costs)
                    replace Hu := Lib.hid (Hu.out.away HA.out hoa hsa (HNA.out wa hb).costs)
                    replace HA := Lib.hid hRa
                    replace HBb := Lib.hid (rowIs_same HBb.out (hoa _ (Ne.symm hAB)))
                    replace R0 := Lib.hid (rowIs_same R0.out (hoa _ (by omega)))
                    replace RB := Lib.hid (rowIs_same RB.out (hoa _ (by omega)))
                    refine ⟨⟨range_of_row R0.out rfl, range_of_row RB.out rfl⟩, ?_⟩
                    clear hRa hoa hsa hba RD
                    (try simp only [Act.put, List.setIfInBounds_toArray, List.set_cons_zero, List.set_cons_succ])
                    refine wpAnyH_ready (rs := [7]) (by kernel_rfl) (by simp) ?_
                    refine ar_row18 (i := 7) (o := { dst := none, op := Op.store 33 (Operand.tmp 9) (Operand.tmp 75), type := 0, pos := "law.go:272", after := #[{ on := 5, ground := Ground.data }, { on := 3, ground := Ground.data }, { on := 6, ground := Ground.chain }, { on := 0, ground := Ground.phase }, { on := 1, ground := Ground.phase }, { on := 2, ground := Ground.phase }, { on := 3, ground := Ground.phase }, { on := 4, ground := Ground.phase }, { on := 5, ground := Ground.phase }, { on := 6, ground := Ground.phase }], guard := none } ) rfl (by kernel_rfl) 33 (.tmp 9) (.tmp 75) rfl Bb #[.slice uai N.ids.length uci, .slice v.ac N.costs.length v.cc, .slice ual done.length ucl] rfl rfl 33 _ HBb.out (by kernel_rfl) rfl (by simp [Value.oneCell']) ?_
                    intro wb hRb hob hsb hbb
                    replace hb := hb.trans (hbb.mono hglBb)
                    replace Hv := Lib.hid (Hv.out.away HBb.out hob hsb (HNA.out wb hb).costs)
                    replace Hu := Lib.hid (Hu.out.away HBb.out hob hsb (HNA.out wb hb).costs)
                    replace HBb := Lib.hid hRb
                    replace HA := Lib.hid (rowIs_same HA.out (hob _ hAB))
                    replace R0 := Lib.hid (rowIs_same R0.out (hob _ (by omega)))
                    replace RB := Lib.hid (rowIs_same RB.out (hob _ (by omega)))
                    refine ⟨⟨range_of_row R0.out rfl, range_of_row RB.out rfl⟩, ?_⟩
                    clear hRb hob hsb hbb
                    (try simp only [Act.put, List.setIfInBounds_toArray, List.set_cons_zero, List.set_cons_succ])
                    refine wpAnyH_done (by kernel_rfl) ?_ _
                    go_wp2_with fail
                    go_meet
                    exact ⟨A, Bb, vai, vci, val, vcl, uai, uci, ual, ucl, rfl, rfl, HA.out, HBb.out, Hv.out, Hu.out, R0.out, hb⟩
            case more7 =>
              refine ar_alloc18 (i := 5) (o := { dst := some 9, op := Op.alloc 33, type := 0, pos := "law.go:272", after := #[], guard := none }) rfl (by kernel_rfl) 33 rfl #[.slice none 0 0, .slice none 0 0, .slice none 0 0] (by kernel_rfl) ?h12 AllReadyH.nil
              case h12 =>
                have hbk : Below v1.heap.size v1 (v1.alloc (.cells #[.slice none 0 0, .slice none 0 0, .slice none 0 0] 33)) := (Below.refl _ _).alloc (Nat.le_refl _) _
                have R0 := Lib.hid (R0.out.kept hbk)
                have RB := Lib.hid (RB.out.kept hbk)
                have Hv := Lib.hid (Hv.out.kept hbk)
                have HBb := Lib.hid (rowIs_new v1 33 #[.slice none 0 0, .slice none 0 0, .slice none 0 0])
                have hglBb : wr.heap.size ≤ v1.heap.size := hb.size
                replace hb := hb.trans (hbk.mono hb.size)
                have RD : (fun w' => w'.rangeAt w.heap.size 0 [.slice v.ai N.ids.length v.ci, .slice v.ac N.costs.length v.cc, .slice v.al N.links.length v.cl] ∧ w'.rangeAt B1 0 [.slice v.ai N.ids.length v.ci, .slice v.ac N.costs.length v.cc, .slice la done.length lc]) (v1.alloc (.cells #[.slice none 0 0, .slice none 0 0, .slice none 0 0] 33)) := ⟨range_of_row R0.out rfl, range_of_row RB.out rfl⟩
                refine ⟨RD, ?_⟩
                clear hbk
                generalize (v1.alloc (.cells #[.slice none 0 0, .slice none 0 0, .slice none 0 0] 33)) = v12 at *
                generalize v1.heap.size = Bb at *
                (try simp only [Act.put, List.setIfInBounds_toArray, List.set_cons_zero, List.set_cons_succ])
                refine wpAnyH_ready (rs := [3, 4]) (by kernel_rfl) (by simp) ?_
                refine ar_call18 (i := 3) (o := { dst := some 75, op := Op.call { callee := Callee.value (Operand.func 10), args := #[Operand.tmp 74], argTypes := #[26] }, type := 33, pos := "law.go:272", after := #[{ on := 2, ground := Ground.data }, { on := 1, ground := Ground.chain }], guard := none }) rfl (by kernel_rfl) (xs := [.tmp 74]) (vs := [.agg #[.slice v.ai N.ids.length v.ci, .slice v.ac N.costs.length v.cc, .slice la done.length lc]]) rfl rfl Try.func10 (by kernel_rfl) (by kernel_rfl) ?h13 ?more13
                case h13 =>
                  refine (HOB.out v12 hb).mono ?_
                  rintro e v13 ⟨uai, uci, ual, ucl, rfl, hres, hbk⟩
                  have R0 := Lib.hid (R0.out.kept hbk)
                  have RB := Lib.hid (RB.out.kept hbk)
                  have Hv := Lib.hid (Hv.out.kept hbk)
                  have HBb := Lib.hid (HBb.out.kept hbk)
                  have Hu := Lib.hid hres
                  replace hb := hb.trans (hbk.mono hb.size)
                  have RD : (fun w' => w'.rangeAt w.heap.size 0 [.slice v.ai N.ids.length v.ci, .slice v.ac N.costs.length v.cc, .slice v.al N.links.length v.cl] ∧ w'.rangeAt B1 0 [.slice v.ai N.ids.length v.ci, .slice v.ac N.costs.length v.cc, .slice la done.length lc]) v13 := ⟨range_of_row R0.out rfl, range_of_row RB.out rfl⟩
                  refine ⟨_, rfl, RD, ?_⟩
                  clear hres hbk
                  (try simp only [Act.put, List.setIfInBounds_toArray, List.set_cons_zero, List.set_cons_succ])
                  refine wpAnyH_ready (rs := [4]) (by kernel_rfl) (by simp) ?_
                  refine ar_alloc18 (i := 4) (o := { dst := some 8, op := Op.alloc 33, type := 0, pos := "law.go:272", after := #[], guard := none }) rfl (by kernel_rfl) 33 rfl #[.slice none 0 0, .slice none 0 0, .slice none 0 0] (by kernel_rfl) ?h14 AllReadyH.nil
                  case h14 =>
                    have hbk : Below v13.heap.size v13 (v13.alloc (.cells #[.slice none 0 0, .slice none 0 0, .slice none 0 0] 33)) := (Below.refl _ _).alloc (Nat.le_refl _) _
                    have hne : Bb ≠ v13.heap.size := by have := HBb.out.lt; omega
                    have R0 := Lib.hid (R0.out.kept hbk)
                    have RB := Lib.hid (RB.out.kept hbk)
                    have Hv := Lib.hid (Hv.out.kept hbk)
                    have HBb := Lib.hid (HBb.out.kept hbk)
                    have Hu := Lib.hid (Hu.out.kept hbk)
                    have HA := Lib.hid (rowIs_new v13 33 #[.slice none 0 0, .slice none 0 0, .slice none 0 0])
                    have hglA : wr.heap.size ≤ v13.heap.size := hb.size
                    replace hb := hb.trans (hbk.mono hb.size)
                    have RD : (fun w' => w'.rangeAt w.heap.size 0 [.slice v.ai N.ids.length v.ci, .slice v.ac N.costs.length v.cc, .slice v.al N.links.length v.cl] ∧ w'.rangeAt B1 0 [.slice v.ai N.ids.length v.ci, .slice v.ac N.costs.length v.cc, .slice la done.length lc]) (v13.alloc (.cells #[.slice none 0 0, .slice none 0 0, .slice none 0 0] 33)) := ⟨range_of_row R0.out rfl, range_of_row RB.out rfl⟩
                    refine ⟨RD, ?_⟩
                    clear hbk
                    generalize (v13.alloc (.cells #[.slice none 0 0, .slice none 0 0, .slice none 0 0] 33)) = v14 at *
                    generalize v13.heap.size = A at *
                    (try simp only [Act.put, List.setIfInBounds_toArray, List.set_cons_zero, List.set_cons_succ])
                    have hAB : A ≠ Bb := (Ne.symm hne)
                    refine wpAnyH_ready (rs := [6]) (by kernel_rfl) (by simp) ?_
                    refine ar_row18 (i := 6) (o := { dst := none, op := Op.store 33 (Operand.tmp 8) (Operand.tmp 73), type := 0, pos := "law.go:272", after := #[{ on := 4, ground := Ground.data }, { on := 1, ground := Ground.data }, { on := 3, ground := Ground.chain }, { on := 0, ground := Ground.phase }, { on := 1, ground := Ground.phase }, { on := 2, ground := Ground.textOnly Departure.lateStores }, { on := 3, ground := Ground.textOnly Departure.lateStoresUnsure }, { on := 4, ground := Ground.phase }, { on := 5, ground := Ground.phase }], guard := none }) rfl (by kernel_rfl) 33 (.tmp 8) (.tmp 73) rfl A #[.slice vai N.ids.length vci, .slice v.ac N.costs.length v.cc, .slice val N.links.length vcl] rfl rfl 33 _ HA.out (by kernel_rfl) rfl (by simp [Value.oneCell']) ?_
                    intro wa hRa hoa hsa hba
                    replace hb := hb.trans (hba.mono hglA)
                    replace Hv := Lib.hid (Hv.out.away HA.out hoa hsa (HNA.out wa hb).costs)
                    replace Hu := Lib.hid (Hu.out.away HA.out hoa hsa (HNA.out wa hb).costs)
                    replace HA := Lib.hid hRa
                    replace HBb := Lib.hid (rowIs_same HBb.out (hoa _ (Ne.symm hAB)))
                    replace R0 := Lib.hid (rowIs_same R0.out (hoa _ (by omega)))
                    replace RB := Lib.hid (rowIs_same RB.out (hoa _ (by omega)))
                    refine ⟨⟨range_of_row R0.out rfl, range_of_row RB.out rfl⟩, ?_⟩
                    clear hRa hoa hsa hba RD
                    (try simp only [Act.put, List.setIfInBounds_toArray, List.set_cons_zero, List.set_cons_succ])
                    refine wpAnyH_ready (rs := [7]) (by kernel_rfl) (by simp) ?_
                    refine ar_row18 (i := 7) (o := { dst := none, op := Op.store 33 (Operand.tmp 9) (Operand.tmp 75), type := 0, pos := "law.go:272", after := #[{ on := 5, ground := Ground.data }, { on := 3, ground := Ground.data }, { on := 6, ground := Ground.chain }, { on := 0, ground := Ground.phase }, { on := 1, ground := Ground.phase }, { on := 2, ground := Ground.phase }, { on := 3, ground := Ground.phase }, { on := 4, ground := Ground.phase }, { on := 5, ground := Ground.phase }, { on := 6, ground := Ground.phase }], guard := none } ) rfl (by kernel_rfl) 33 (.tmp 9) (.tmp 75) rfl Bb #[.slice uai N.ids.length uci, .slice v.ac N.costs.length v.cc, .slice ual done.length ucl] rfl rfl 33 _ HBb.out (by kernel_rfl) rfl (by simp [Value.oneCell']) ?_
                    intro wb hRb hob hsb hbb
                    replace hb := hb.trans (hbb.mono hglBb)
                    replace Hv := Lib.hid (Hv.out.away HBb.out hob hsb (HNA.out wb hb).costs)
                    replace Hu := Lib.hid (Hu.out.away HBb.out hob hsb (HNA.out wb hb).costs)
                    replace HBb := Lib.hid hRb
                    replace HA := Lib.hid (rowIs_same HA.out (hob _ hAB))
                    replace R0 := Lib.hid (rowIs_same R0.out (hob _ (by omega)))
                    replace RB := Lib.hid (rowIs_same RB.out (hob _ (by omega)))
                    refine ⟨⟨range_of_row R0.out rfl, range_of_row RB.out rfl⟩, ?_⟩
                    clear hRb hob hsb hbb
                    (try simp only [Act.put, List.setIfInBounds_toArray, List.set_cons_zero, List.set_cons_succ])
                    refine wpAnyH_done (by kernel_rfl) ?_ _
                    go_wp2_with fail
                    go_meet
                    exact ⟨A, Bb, vai, vci, val, vcl, uai, uci, ual, ucl, rfl, rfl, HA.out, HBb.out, Hv.out, Hu.out, R0.out, hb⟩
                case more13 =>
                  refine ar_alloc18 (i := 4) (o := { dst := some 8, op := Op.alloc 33, type := 0, pos := "law.go:272", after := #[], guard := none }) rfl (by kernel_rfl) 33 rfl #[.slice none 0 0, .slice none 0 0, .slice none 0 0] (by kernel_rfl) ?h15 AllReadyH.nil
                  case h15 =>
                    have hbk : Below v12.heap.size v12 (v12.alloc (.cells #[.slice none 0 0, .slice none 0 0, .slice none 0 0] 33)) := (Below.refl _ _).alloc (Nat.le_refl _) _
                    have hne : Bb ≠ v12.heap.size := by have := HBb.out.lt; omega
                    have R0 := Lib.hid (R0.out.kept hbk)
                    have RB := Lib.hid (RB.out.kept hbk)
                    have Hv := Lib.hid (Hv.out.kept hbk)
                    have HBb := Lib.hid (HBb.out.kept hbk)
                    have HA := Lib.hid (rowIs_new v12 33 #[.slice none 0 0, .slice none 0 0, .slice none 0 0])
                    have hglA : wr.heap.size ≤ v12.heap.size := hb.size
                    replace hb := hb.trans (hbk.mono hb.size)
                    have RD : (fun w' => w'.rangeAt w.heap.size 0 [.slice v.ai N.ids.length v.ci, .slice v.ac N.costs.length v.cc, .slice v.al N.links.length v.cl] ∧ w'.rangeAt B1 0 [.slice v.ai N.ids.length v.ci, .slice v.ac N.costs.length v.cc, .slice la done.length lc]) (v12.alloc (.cells #[.slice none 0 0, .slice none 0 0, .slice none 0 0] 33)) := ⟨range_of_row R0.out rfl, range_of_row RB.out rfl⟩
                    refine ⟨RD, ?_⟩
                    clear hbk
                    generalize (v12.alloc (.cells #[.slice none 0 0, .slice none 0 0, .slice none 0 0] 33)) = v15 at *
                    generalize v12.heap.size = A at *
                    (try simp only [Act.put, List.setIfInBounds_toArray, List.set_cons_zero, List.set_cons_succ])
                    refine wpAnyH_ready (rs := [3]) (by kernel_rfl) (by simp) ?_
                    refine ar_call18 (i := 3) (o := { dst := some 75, op := Op.call { callee := Callee.value (Operand.func 10), args := #[Operand.tmp 74], argTypes := #[26] }, type := 33, pos := "law.go:272", after := #[{ on := 2, ground := Ground.data }, { on := 1, ground := Ground.chain }], guard := none }) rfl (by kernel_rfl) (xs := [.tmp 74]) (vs := [.agg #[.slice v.ai N.ids.length v.ci, .slice v.ac N.costs.length v.cc, .slice la done.length lc]]) rfl rfl Try.func10 (by kernel_rfl) (by kernel_rfl) ?h16 AllReadyH.nil
                    case h16 =>
                      refine (HOB.out v15 hb).mono ?_
                      rintro e v16 ⟨uai, uci, ual, ucl, rfl, hres, hbk⟩
                      have R0 := Lib.hid (R0.out.kept hbk)
                      have RB := Lib.hid (RB.out.kept hbk)
                      have Hv := Lib.hid (Hv.out.kept hbk)
                      have HBb := Lib.hid (HBb.out.kept hbk)
                      have HA := Lib.hid (HA.out.kept hbk)
                      have Hu := Lib.hid hres
                      replace hb := hb.trans (hbk.mono hb.size)
                      have RD : (fun w' => w'.rangeAt w.heap.size 0 [.slice v.ai N.ids.length v.ci, .slice v.ac N.costs.length v.cc, .slice v.al N.links.length v.cl] ∧ w'.rangeAt B1 0 [.slice v.ai N.ids.length v.ci, .slice v.ac N.costs.length v.cc, .slice la done.length lc]) v16 := ⟨range_of_row R0.out rfl, range_of_row RB.out rfl⟩
                      refine ⟨_, rfl, RD, ?_⟩
                      clear hres hbk
                      (try simp only [Act.put, List.setIfInBounds_toArray, List.set_cons_zero, List.set_cons_succ])
                      have hAB : A ≠ Bb := (Ne.symm hne)
                      refine wpAnyH_ready (rs := [6]) (by kernel_rfl) (by simp) ?_
                      refine ar_row18 (i := 6) (o := { dst := none, op := Op.store 33 (Operand.tmp 8) (Operand.tmp 73), type := 0, pos := "law.go:272", after := #[{ on := 4, ground := Ground.data }, { on := 1, ground := Ground.data }, { on := 3, ground := Ground.chain }, { on := 0, ground := Ground.phase }, { on := 1, ground := Ground.phase }, { on := 2, ground := Ground.textOnly Departure.lateStores }, { on := 3, ground := Ground.textOnly Departure.lateStoresUnsure }, { on := 4, ground := Ground.phase }, { on := 5, ground := Ground.phase }], guard := none }) rfl (by kernel_rfl) 33 (.tmp 8) (.tmp 73) rfl A #[.slice vai N.ids.length vci, .slice v.ac N.costs.length v.cc, .slice val N.links.length vcl] rfl rfl 33 _ HA.out (by kernel_rfl) rfl (by simp [Value.oneCell']) ?_
                      intro wa hRa hoa hsa hba
                      replace hb := hb.trans (hba.mono hglA)
                      replace Hv := Lib.hid (Hv.out.away HA.out hoa hsa (HNA.out wa hb).costs)
                      replace Hu := Lib.hid (Hu.out.away HA.out hoa hsa (HNA.out wa hb).costs)
                      replace HA := Lib.hid hRa
                      replace HBb := Lib.hid (rowIs_same HBb.out (hoa _ (Ne.symm hAB)))
                      replace R0 := Lib.hid (rowIs_same R0.out (hoa _ (by omega)))
                      replace RB := Lib.hid (rowIs_same RB.out (hoa _ (by omega)))
                      refine ⟨⟨range_of_row R0.out rfl, range_of_row RB.out rfl⟩, ?_⟩
                      clear hRa hoa hsa hba RD
                      (try simp only [Act.put, List.setIfInBounds_toArray, List.set_cons_zero, List.set_cons_succ])
                      refine wpAnyH_ready (rs := [7]) (by kernel_rfl) (by simp) ?_
                      refine ar_row18 (i := 7) (o := { dst := none, op := Op.store 33 (Operand.tmp 9) (Operand.tmp 75), type := 0, pos := "law.go:272", after := #[{ on := 5, ground := Ground.data }, { on := 3, ground := Ground.data }, { on := 6, ground := Ground.chain }, { on := 0, ground := Ground.phase }, { on := 1, ground := Ground.phase }, { on := 2, ground := Ground.phase }, { on := 3, ground := Ground.phase }, { on := 4, ground := Ground.phase }, { on := 5, ground := Ground.phase }, { on := 6, ground := Ground.phase }], guard := none } ) rfl (by kernel_rfl) 33 (.tmp 9) (.tmp 75) rfl Bb #[.slice uai N.ids.length uci, .slice v.ac N.costs.length v.cc, .slice ual done.length ucl] rfl rfl 33 _ HBb.out (by kernel_rfl) rfl (by simp [Value.oneCell']) ?_
                      intro wb hRb hob hsb hbb
                      replace hb := hb.trans (hbb.mono hglBb)
                      replace Hv := Lib.hid (Hv.out.away HBb.out hob hsb (HNA.out wb hb).costs)
                      replace Hu := Lib.hid (Hu.out.away HBb.out hob hsb (HNA.out wb hb).costs)
                      replace HBb := Lib.hid hRb
                      replace HA := Lib.hid (rowIs_same HA.out (hob _ hAB))
                      replace R0 := Lib.hid (rowIs_same R0.out (hob _ (by omega)))
                      replace RB := Lib.hid (rowIs_same RB.out (hob _ (by omega)))
                      refine ⟨⟨range_of_row R0.out rfl, range_of_row RB.out rfl⟩, ?_⟩
                      clear hRb hob hsb hbb
                      (try simp only [Act.put, List.setIfInBounds_toArray, List.set_cons_zero, List.set_cons_succ])
                      refine wpAnyH_done (by kernel_rfl) ?_ _
                      go_wp2_with fail
                      go_meet
                      exact ⟨A, Bb, vai, vci, val, vcl, uai, uci, ual, ucl, rfl, rfl, HA.out, HBb.out, Hv.out, Hu.out, R0.out, hb⟩
        case more1 =>
          refine ar_alloc18 (i := 4) (o := { dst := some 8, op := Op.alloc 33, type := 0, pos := "law.go:272", after := #[], guard := none }) rfl (by kernel_rfl) 33 rfl #[.slice none 0 0, .slice none 0 0, .slice none 0 0] (by kernel_rfl) ?h17 ?more17
          case h17 =>
            have hbk : Below wd.heap.size wd (wd.alloc (.cells #[.slice none 0 0, .slice none 0 0, .slice none 0 0] 33)) := (Below.refl _ _).alloc (Nat.le_refl _) _
            have R0 := Lib.hid (R0.out.kept hbk)
            have RB := Lib.hid (RB.out.kept hbk)
            have HA := Lib.hid (rowIs_new wd 33 #[.slice none 0 0, .slice none 0 0, .slice none 0 0])
            have hglA : wr.heap.size ≤ wd.heap.size := hb.size
            replace hb := hb.trans (hbk.mono hb.size)
            have RD : (fun w' => w'.rangeAt w.heap.size 0 [.slice v.ai N.ids.length v.ci, .slice v.ac N.costs.length v.cc, .slice v.al N.links.length v.cl] ∧ w'.rangeAt B1 0 [.slice v.ai N.ids.length v.ci, .slice v.ac N.costs.length v.cc, .slice la done.length lc]) (wd.alloc (.cells #[.slice none 0 0, .slice none 0 0, .slice none 0 0] 33)) := ⟨range_of_row R0.out rfl, range_of_row RB.out rfl⟩
            refine ⟨RD, ?_⟩
            clear hbk
            generalize (wd.alloc (.cells #[.slice none 0 0, .slice none 0 0, .slice none 0 0] 33)) = v17 at *
            generalize wd.heap.size = A at *
            (try simp only [Act.put, List.setIfInBounds_toArray, List.set_cons_zero, List.set_cons_succ])
            refine wpAnyH_ready (rs := [1, 5]) (by kernel_rfl) (by simp) ?_
            refine ar_call18 (i := 1) (o := { dst := some 73, op := Op.call { callee := Callee.value (Operand.func 10), args := #[Operand.tmp 72], argTypes := #[26] }, type := 33, pos := "law.go:272", after := #[{ on := 0, ground := Ground.data }], guard := none }) rfl (by kernel_rfl) (xs := [.tmp 72]) (vs := [.agg #[.slice v.ai N.ids.length v.ci, .slice v.ac N.costs.length v.cc, .slice v.al N.links.length v.cl]]) rfl rfl Try.func10 (by kernel_rfl) (by kernel_rfl) ?h18 ?more18
            case h18 =>
              refine (HOA.out v17 hb).mono ?_
              rintro e v18 ⟨vai, vci, val, vcl, rfl, hres, hbk⟩
              have R0 := Lib.hid (R0.out.kept hbk)
              have RB := Lib.hid (RB.out.kept hbk)
              have HA := Lib.hid (HA.out.kept hbk)
              have Hv := Lib.hid hres
              replace hb := hb.trans (hbk.mono hb.size)
              have RD : (fun w' => w'.rangeAt w.heap.size 0 [.slice v.ai N.ids.length v.ci, .slice v.ac N.costs.length v.cc, .slice v.al N.links.length v.cl] ∧ w'.rangeAt B1 0 [.slice v.ai N.ids.length v.ci, .slice v.ac N.costs.length v.cc, .slice la done.length lc]) v18 := ⟨range_of_row R0.out rfl, range_of_row RB.out rfl⟩
              refine ⟨_, rfl, RD, ?_⟩
              clear hres hbk
              (try simp only [Act.put, List.setIfInBounds_toArray, List.set_cons_zero, List.set_cons_succ])
              refine wpAnyH_ready (rs := [3, 5]) (by kernel_rfl) (by simp) ?_
              refine ar_call18 (i := 3) (o := { dst := some 75, op := Op.call { callee := Callee.value (Operand.func 10), args := #[Operand.tmp 74], argTypes := #[26] }, type := 33, pos := "law.go:272", after := #[{ on := 2, ground := Ground.data }, { on := 1, ground := Ground.chain }], guard := none }) rfl (by kernel_rfl) (xs := [.tmp 74]) (vs := [.agg #[.slice v.ai N.ids.length v.ci, .slice v.ac N.costs.length v.cc, .slice la done.length lc]]) rfl rfl Try.func10 (by kernel_rfl) (by kernel_rfl) ?h19 ?more19
              case h19 =>
                refine (HOB.out v18 hb).mono ?_
                rintro e v19 ⟨uai, uci, ual, ucl, rfl, hres, hbk⟩
                have R0 := Lib.hid (R0.out.kept hbk)
                have RB := Lib.hid (RB.out.kept hbk)
                have HA := Lib.hid (HA.out.kept hbk)
                have Hv := Lib.hid (Hv.out.kept hbk)
                have Hu := Lib.hid hres
                replace hb := hb.trans (hbk.mono hb.size)
                have RD : (fun w' => w'.rangeAt w.heap.size 0 [.slice v.ai N.ids.length v.ci, .slice v.ac N.costs.length v.cc, .slice v.al N.links.length v.cl] ∧ w'.rangeAt B1 0 [.slice v.ai N.ids.length v.ci, .slice v.ac N.costs.length v.cc, .slice la done.length lc]) v19 := ⟨range_of_row R0.out rfl, range_of_row RB.out rfl⟩
                refine ⟨_, rfl, RD, ?_⟩
                clear hres hbk
                (try simp only [Act.put, List.setIfInBounds_toArray, List.set_cons_zero, List.set_cons_succ])
                refine wpAnyH_ready (rs := [5]) (by kernel_rfl) (by simp) ?_
                refine ar_alloc18 (i := 5) (o := { dst := some 9, op := Op.alloc 33, type := 0, pos := "law.go:272", after := #[], guard := none }) rfl (by kernel_rfl) 33 rfl #[.slice none 0 0, .slice none 0 0, .slice none 0 0] (by kernel_rfl) ?h20 AllReadyH.nil
                case h20 =>
                  have hbk : Below v19.heap.size v19 (v19.alloc (.cells #[.slice none 0 0, .slice none 0 0, .slice none 0 0] 33)) := (Below.refl _ _).alloc (Nat.le_refl _) _
                  have hne : A ≠ v19.heap.size := by have := HA.out.lt; omega
                  have R0 := Lib.hid (R0.out.kept hbk)
                  have RB := Lib.hid (RB.out.kept hbk)
                  have HA := Lib.hid (HA.out.kept hbk)
                  have Hv := Lib.hid (Hv.out.kept hbk)
                  have Hu := Lib.hid (Hu.out.kept hbk)
                  have HBb := Lib.hid (rowIs_new v19 33 #[.slice none 0 0, .slice none 0 0, .slice none 0 0])
                  have hglBb : wr.heap.size ≤ v19.heap.size := hb.size
                  replace hb := hb.trans (hbk.mono hb.size)
                  have RD : (fun w' => w'.rangeAt w.heap.size 0 [.slice v.ai N.ids.length v.ci, .slice v.ac N.costs.length v.cc, .slice v.al N.links.length v.cl] ∧ w'.rangeAt B1 0 [.slice v.ai N.ids.length v.ci, .slice v.ac N.costs.length v.cc, .slice la done.length lc]) (v19.alloc (.cells #[.slice none 0 0, .slice none 0 0, .slice none 0 0] 33)) := ⟨range_of_row R0.out rfl, range_of_row RB.out rfl⟩
                  refine ⟨RD, ?_⟩
                  clear hbk
                  generalize (v19.alloc (.cells #[.slice none 0 0, .slice none 0 0, .slice none 0 0] 33)) = v20 at *
                  generalize v19.heap.size = Bb at *
                  (try simp only [Act.put, List.setIfInBounds_toArray, List.set_cons_zero, List.set_cons_succ])
                  have hAB : A ≠ Bb := hne
                  refine wpAnyH_ready (rs := [6]) (by kernel_rfl) (by simp) ?_
                  refine ar_row18 (i := 6) (o := { dst := none, op := Op.store 33 (Operand.tmp 8) (Operand.tmp 73), type := 0, pos := "law.go:272", after := #[{ on := 4, ground := Ground.data }, { on := 1, ground := Ground.data }, { on := 3, ground := Ground.chain }, { on := 0, ground := Ground.phase }, { on := 1, ground := Ground.phase }, { on := 2, ground := Ground.textOnly Departure.lateStores }, { on := 3, ground := Ground.textOnly Departure.lateStoresUnsure }, { on := 4, ground := Ground.phase }, { on := 5, ground := Ground.phase }], guard := none }) rfl (by kernel_rfl) 33 (.tmp 8) (.tmp 73) rfl A #[.slice vai N.ids.length vci, .slice v.ac N.costs.length v.cc, .slice val N.links.length vcl] rfl rfl 33 _ HA.out (by kernel_rfl) rfl (by simp [Value.oneCell']) ?_
                  intro wa hRa hoa hsa hba
                  replace hb := hb.trans (hba.mono hglA)
                  replace Hv := Lib.hid (Hv.out.away HA.out hoa hsa (HNA.out wa hb).costs)
                  replace Hu := Lib.hid (Hu.out.away HA.out hoa hsa (HNA.out wa hb).costs)
                  replace HA := Lib.hid hRa
                  replace HBb := Lib.hid (rowIs_same HBb.out (hoa _ (Ne.symm hAB)))
                  replace R0 := Lib.hid (rowIs_same R0.out (hoa _ (by omega)))
                  replace RB := Lib.hid (rowIs_same RB.out (hoa _ (by omega)))
                  refine ⟨⟨range_of_row R0.out rfl, range_of_row RB.out rfl⟩, ?_⟩
                  clear hRa hoa hsa hba RD
                  (try simp only [Act.put, List.setIfInBounds_toArray, List.set_cons_zero, List.set_cons_succ])
                  refine wpAnyH_ready (rs := [7]) (by kernel_rfl) (by simp) ?_
                  refine ar_row18 (i := 7) (o := { dst := none, op := Op.store 33 (Operand.tmp 9) (Operand.tmp 75), type := 0, pos := "law.go:272", after := #[{ on := 5, ground := Ground.data }, { on := 3, ground := Ground.data }, { on := 6, ground := Ground.chain }, { on := 0, ground := Ground.phase }, { on := 1, ground := Ground.phase }, { on := 2, ground := Ground.phase }, { on := 3, ground := Ground.phase }, { on := 4, ground := Ground.phase }, { on := 5, ground := Ground.phase }, { on := 6, ground := Ground.phase }], guard := none } ) rfl (by kernel_rfl) 33 (.tmp 9) (.tmp 75) rfl Bb #[.slice uai N.ids.length uci, .slice v.ac N.costs.length v.cc, .slice ual done.length ucl] rfl rfl 33 _ HBb.out (by kernel_rfl) rfl (by simp [Value.oneCell']) ?_
                  intro wb hRb hob hsb hbb
                  replace hb := hb.trans (hbb.mono hglBb)
                  replace Hv := Lib.hid (Hv.out.away HBb.out hob hsb (HNA.out wb hb).costs)
                  replace Hu := Lib.hid (Hu.out.away HBb.out hob hsb (HNA.out wb hb).costs)
                  replace HBb := Lib.hid hRb
                  replace HA := Lib.hid (rowIs_same HA.out (hob _ hAB))
                  replace R0 := Lib.hid (rowIs_same R0.out (hob _ (by omega)))
                  replace RB := Lib.hid (rowIs_same RB.out (hob _ (by omega)))
                  refine ⟨⟨range_of_row R0.out rfl, range_of_row RB.out rfl⟩, ?_⟩
                  clear hRb hob hsb hbb
                  (try simp only [Act.put, List.setIfInBounds_toArray, List.set_cons_zero, List.set_cons_succ])
                  refine wpAnyH_done (by kernel_rfl) ?_ _
                  go_wp2_with fail
                  go_meet
                  exact ⟨A, Bb, vai, vci, val, vcl, uai, uci, ual, ucl, rfl, rfl, HA.out, HBb.out, Hv.out, Hu.out, R0.out, hb⟩
              case more19 =>
                refine ar_alloc18 (i := 5) (o := { dst := some 9, op := Op.alloc 33, type := 0, pos := "law.go:272", after := #[], guard := none }) rfl (by kernel_rfl) 33 rfl #[.slice none 0 0, .slice none 0 0, .slice none 0 0] (by kernel_rfl) ?h21 AllReadyH.nil
                case h21 =>
                  have hbk : Below v18.heap.size v18 (v18.alloc (.cells #[.slice none 0 0, .slice none 0 0, .slice none 0 0] 33)) := (Below.refl _ _).alloc (Nat.le_refl _) _
                  have hne : A ≠ v18.heap.size := by have := HA.out.lt; omega
                  have R0 := Lib.hid (R0.out.kept hbk)
                  have RB := Lib.hid (RB.out.kept hbk)
                  have HA := Lib.hid (HA.out.kept hbk)
                  have Hv := Lib.hid (Hv.out.kept hbk)
                  have HBb := Lib.hid (rowIs_new v18 33 #[.slice none 0 0, .slice none 0 0, .slice none 0 0])
                  have hglBb : wr.heap.size ≤ v18.heap.size := hb.size
                  replace hb := hb.trans (hbk.mono hb.size)
                  have RD : (fun w' => w'.rangeAt w.heap.size 0 [.slice v.ai N.ids.length v.ci, .slice v.ac N.costs.length v.cc, .slice v.al N.links.length v.cl] ∧ w'.rangeAt B1 0 [.slice v.ai N.ids.length v.ci, .slice v.ac N.costs.length v.cc, .slice la done.length lc]) (v18.alloc (.cells #[.slice none 0 0, .slice none 0 0, .slice none 0 0] 33)) := ⟨range_of_row R0.out rfl, range_of_row RB.out rfl⟩
                  refine ⟨RD, ?_⟩
                  clear hbk
                  generalize (v18.alloc (.cells #[.slice none 0 0, .slice none 0 0, .slice none 0 0] 33)) = v21 at *
                  generalize v18.heap.size = Bb at *
                  (try simp only [Act.put, List.setIfInBounds_toArray, List.set_cons_zero, List.set_cons_succ])
                  refine wpAnyH_ready (rs := [3]) (by kernel_rfl) (by simp) ?_
                  refine ar_call18 (i := 3) (o := { dst := some 75, op := Op.call { callee := Callee.value (Operand.func 10), args := #[Operand.tmp 74], argTypes := #[26] }, type := 33, pos := "law.go:272", after := #[{ on := 2, ground := Ground.data }, { on := 1, ground := Ground.chain }], guard := none }) rfl (by kernel_rfl) (xs := [.tmp 74]) (vs := [.agg #[.slice v.ai N.ids.length v.ci, .slice v.ac N.costs.length v.cc, .slice la done.length lc]]) rfl rfl Try.func10 (by kernel_rfl) (by kernel_rfl) ?h22 AllReadyH.nil
                  case h22 =>
                    refine (HOB.out v21 hb).mono ?_
                    rintro e v22 ⟨uai, uci, ual, ucl, rfl, hres, hbk⟩
                    have R0 := Lib.hid (R0.out.kept hbk)
                    have RB := Lib.hid (RB.out.kept hbk)
                    have HA := Lib.hid (HA.out.kept hbk)
                    have Hv := Lib.hid (Hv.out.kept hbk)
                    have HBb := Lib.hid (HBb.out.kept hbk)
                    have Hu := Lib.hid hres
                    replace hb := hb.trans (hbk.mono hb.size)
                    have RD : (fun w' => w'.rangeAt w.heap.size 0 [.slice v.ai N.ids.length v.ci, .slice v.ac N.costs.length v.cc, .slice v.al N.links.length v.cl] ∧ w'.rangeAt B1 0 [.slice v.ai N.ids.length v.ci, .slice v.ac N.costs.length v.cc, .slice la done.length lc]) v22 := ⟨range_of_row R0.out rfl, range_of_row RB.out rfl⟩
                    refine ⟨_, rfl, RD, ?_⟩
                    clear hres hbk
                    (try simp only [Act.put, List.setIfInBounds_toArray, List.set_cons_zero, List.set_cons_succ])
                    have hAB : A ≠ Bb := hne
                    refine wpAnyH_ready (rs := [6]) (by kernel_rfl) (by simp) ?_
                    refine ar_row18 (i := 6) (o := { dst := none, op := Op.store 33 (Operand.tmp 8) (Operand.tmp 73), type := 0, pos := "law.go:272", after := #[{ on := 4, ground := Ground.data }, { on := 1, ground := Ground.data }, { on := 3, ground := Ground.chain }, { on := 0, ground := Ground.phase }, { on := 1, ground := Ground.phase }, { on := 2, ground := Ground.textOnly Departure.lateStores }, { on := 3, ground := Ground.textOnly Departure.lateStoresUnsure }, { on := 4, ground := Ground.phase }, { on := 5, ground := Ground.phase }], guard := none }) rfl (by kernel_rfl) 33 (.tmp 8) (.tmp 73) rfl A #[.slice vai N.ids.length vci, .slice v.ac N.costs.length v.cc, .slice val N.links.length vcl] rfl rfl 33 _ HA.out (by kernel_rfl) rfl (by simp [Value.oneCell']) ?_
                    intro wa hRa hoa hsa hba
                    replace hb := hb.trans (hba.mono hglA)
                    replace Hv := Lib.hid (Hv.out.away HA.out hoa hsa (HNA.out wa hb).costs)
                    replace Hu := Lib.hid (Hu.out.away HA.out hoa hsa (HNA.out wa hb).costs)
                    replace HA := Lib.hid hRa
                    replace HBb := Lib.hid (rowIs_same HBb.out (hoa _ (Ne.symm hAB)))
                    replace R0 := Lib.hid (rowIs_same R0.out (hoa _ (by omega)))
                    replace RB := Lib.hid (rowIs_same RB.out (hoa _ (by omega)))
                    refine ⟨⟨range_of_row R0.out rfl, range_of_row RB.out rfl⟩, ?_⟩
                    clear hRa hoa hsa hba RD
                    (try simp only [Act.put, List.setIfInBounds_toArray, List.set_cons_zero, List.set_cons_succ])
                    refine wpAnyH_ready (rs := [7]) (by kernel_rfl) (by simp) ?_
                    refine ar_row18 (i := 7) (o := { dst := none, op := Op.store 33 (Operand.tmp 9) (Operand.tmp 75), type := 0, pos := "law.go:272", after := #[{ on := 5, ground := Ground.data }, { on := 3, ground := Ground.data }, { on := 6, ground := Ground.chain }, { on := 0, ground := Ground.phase }, { on := 1, ground := Ground.phase }, { on := 2, ground := Ground.phase }, { on := 3, ground := Ground.phase }, { on := 4, ground := Ground.phase }, { on := 5, ground := Ground.phase }, { on := 6, ground := Ground.phase }], guard := none } ) rfl (by kernel_rfl) 33 (.tmp 9) (.tmp 75) rfl Bb #[.slice uai N.ids.length uci, .slice v.ac N.costs.length v.cc, .slice ual done.length ucl] rfl rfl 33 _ HBb.out (by kernel_rfl) rfl (by simp [Value.oneCell']) ?_
                    intro wb hRb hob hsb hbb
                    replace hb := hb.trans (hbb.mono hglBb)
                    replace Hv := Lib.hid (Hv.out.away HBb.out hob hsb (HNA.out wb hb).costs)
                    replace Hu := Lib.hid (Hu.out.away HBb.out hob hsb (HNA.out wb hb).costs)
                    replace HBb := Lib.hid hRb
                    replace HA := Lib.hid (rowIs_same HA.out (hob _ hAB))
                    replace R0 := Lib.hid (rowIs_same R0.out (hob _ (by omega)))
                    replace RB := Lib.hid (rowIs_same RB.out (hob _ (by omega)))
                    refine ⟨⟨range_of_row R0.out rfl, range_of_row RB.out rfl⟩, ?_⟩
                    clear hRb hob hsb hbb
                    (try simp only [Act.put, List.setIfInBounds_toArray, List.set_cons_zero, List.set_cons_succ])
                    refine wpAnyH_done (by kernel_rfl) ?_ _
                    go_wp2_with fail
                    go_meet
                    exact ⟨A, Bb, vai, vci, val, vcl, uai, uci, ual, ucl, rfl, rfl, HA.out, HBb.out, Hv.out, Hu.out, R0.out, hb⟩
            case more18 =>
              refine ar_alloc18 (i := 5) (o := { dst := some 9, op := Op.alloc 33, type := 0, pos := "law.go:272", after := #[], guard := none }) rfl (by kernel_rfl) 33 rfl #[.slice none 0 0, .slice none 0 0, .slice none 0 0] (by kernel_rfl) ?h23 AllReadyH.nil
              case h23 =>
                have hbk : Below v17.heap.size v17 (v17.alloc (.cells #[.slice none 0 0, .slice none 0 0, .slice none 0 0] 33)) := (Below.refl _ _).alloc (Nat.le_refl _) _
                have hne : A ≠ v17.heap.size := by have := HA.out.lt; omega
                have R0 := Lib.hid (R0.out.kept hbk)
                have RB := Lib.hid (RB.out.kept hbk)
                have HA := Lib.hid (HA.out.kept hbk)
                have HBb := Lib.hid (rowIs_new v17 33 #[.slice none 0 0, .slice none 0 0, .slice none 0 0])
                have hglBb : wr.heap.size ≤ v17.heap.size := hb.size
                replace hb := hb.trans (hbk.mono hb.size)
                have RD : (fun w' => w'.rangeAt w.heap.size 0 [.slice v.ai N.ids.length v.ci, .slice v.ac N.costs.length v.cc, .slice v.al N.links.length v.cl] ∧ w'.rangeAt B1 0 [.slice v.ai N.ids.length v.ci, .slice v.ac N.costs.length v.cc, .slice la done.length lc]) (v17.alloc (.cells #[.slice none 0 0, .slice none 0 0, .slice none 0 0] 33)) := ⟨range_of_row R0.out rfl, range_of_row RB.out rfl⟩
                refine ⟨RD, ?_⟩
                clear hbk
                generalize (v17.alloc (.cells #[.slice none 0 0, .slice none 0 0, .slice none 0 0] 33)) = v23 at *
                generalize v17.heap.size = Bb at *
                (try simp only [Act.put, List.setIfInBounds_toArray, List.set_cons_zero, List.set_cons_succ])
                refine wpAnyH_ready (rs := [1]) (by kernel_rfl) (by simp) ?_
                refine ar_call18 (i := 1) (o := { dst := some 73, op := Op.call { callee := Callee.value (Operand.func 10), args := #[Operand.tmp 72], argTypes := #[26] }, type := 33, pos := "law.go:272", after := #[{ on := 0, ground := Ground.data }], guard := none }) rfl (by kernel_rfl) (xs := [.tmp 72]) (vs := [.agg #[.slice v.ai N.ids.length v.ci, .slice v.ac N.costs.length v.cc, .slice v.al N.links.length v.cl]]) rfl rfl Try.func10 (by kernel_rfl) (by kernel_rfl) ?h24 AllReadyH.nil
                case h24 =>
                  refine (HOA.out v23 hb).mono ?_
                  rintro e v24 ⟨vai, vci, val, vcl, rfl, hres, hbk⟩
                  have R0 := Lib.hid (R0.out.kept hbk)
                  have RB := Lib.hid (RB.out.kept hbk)
                  have HA := Lib.hid (HA.out.kept hbk)
                  have HBb := Lib.hid (HBb.out.kept hbk)
                  have Hv := Lib.hid hres
                  replace hb := hb.trans (hbk.mono hb.size)
                  have RD : (fun w' => w'.rangeAt w.heap.size 0 [.slice v.ai N.ids.length v.ci, .slice v.ac N.costs.length v.cc, .slice v.al N.links.length v.cl] ∧ w'.rangeAt B1 0 [.slice v.ai N.ids.length v.ci, .slice v.ac N.costs.length v.cc, .slice la done.length lc]) v24 := ⟨range_of_row R0.out rfl, range_of_row RB.out rfl⟩
                  refine ⟨_, rfl, RD, ?_⟩
                  clear hres hbk
                  (try simp only [Act.put, List.setIfInBounds_toArray, List.set_cons_zero, List.set_cons_succ])
                  refine wpAnyH_ready (rs := [3]) (by kernel_rfl) (by simp) ?_
                  refine ar_call18 (i := 3) (o := { dst := some 75, op := Op.call { callee := Callee.value (Operand.func 10), args := #[Operand.tmp 74], argTypes := #[26] }, type := 33, pos := "law.go:272", after := #[{ on := 2, ground := Ground.data }, { on := 1, ground := Ground.chain }], guard := none }) rfl (by kernel_rfl) (xs := [.tmp 74]) (vs := [.agg #[.slice v.ai N.ids.length v.ci, .slice v.ac N.costs.length v.cc, .slice la done.length lc]]) rfl rfl Try.func10 (by kernel_rfl) (by kernel_rfl) ?h25 AllReadyH.nil
                  case h25 =>
                    refine (HOB.out v24 hb).mono ?_
                    rintro e v25 ⟨uai, uci, ual, ucl, rfl, hres, hbk⟩
                    have R0 := Lib.hid (R0.out.kept hbk)
                    have RB := Lib.hid (RB.out.kept hbk)
                    have HA := Lib.hid (HA.out.kept hbk)
                    have HBb := Lib.hid (HBb.out.kept hbk)
                    have Hv := Lib.hid (Hv.out.kept hbk)
                    have Hu := Lib.hid hres
                    replace hb := hb.trans (hbk.mono hb.size)
                    have RD : (fun w' => w'.rangeAt w.heap.size 0 [.slice v.ai N.ids.length v.ci, .slice v.ac N.costs.length v.cc, .slice v.al N.links.length v.cl] ∧ w'.rangeAt B1 0 [.slice v.ai N.ids.length v.ci, .slice v.ac N.costs.length v.cc, .slice la done.length lc]) v25 := ⟨range_of_row R0.out rfl, range_of_row RB.out rfl⟩
                    refine ⟨_, rfl, RD, ?_⟩
                    clear hres hbk
                    (try simp only [Act.put, List.setIfInBounds_toArray, List.set_cons_zero, List.set_cons_succ])
                    have hAB : A ≠ Bb := hne
                    refine wpAnyH_ready (rs := [6]) (by kernel_rfl) (by simp) ?_
                    refine ar_row18 (i := 6) (o := { dst := none, op := Op.store 33 (Operand.tmp 8) (Operand.tmp 73), type := 0, pos := "law.go:272", after := #[{ on := 4, ground := Ground.data }, { on := 1, ground := Ground.data }, { on := 3, ground := Ground.chain }, { on := 0, ground := Ground.phase }, { on := 1, ground := Ground.phase }, { on := 2, ground := Ground.textOnly Departure.lateStores }, { on := 3, ground := Ground.textOnly Departure.lateStoresUnsure }, { on := 4, ground := Ground.phase }, { on := 5, ground := Ground.phase }], guard := none }) rfl (by kernel_rfl) 33 (.tmp 8) (.tmp 73) rfl A #[.slice vai N.ids.length vci, .slice v.ac N.costs.length v.cc, .slice val N.links.length vcl] rfl rfl 33 _ HA.out (by kernel_rfl) rfl (by simp [Value.oneCell']) ?_
                    intro wa hRa hoa hsa hba
                    replace hb := hb.trans (hba.mono hglA)
                    replace Hv := Lib.hid (Hv.out.away HA.out hoa hsa (HNA.out wa hb).costs)
                    replace Hu := Lib.hid (Hu.out.away HA.out hoa hsa (HNA.out wa hb).costs)
                    replace HA := Lib.hid hRa
                    replace HBb := Lib.hid (rowIs_same HBb.out (hoa _ (Ne.symm hAB)))
                    replace R0 := Lib.hid (rowIs_same R0.out (hoa _ (by omega)))
                    replace RB := Lib.hid (rowIs_same RB.out (hoa _ (by omega)))
                    refine ⟨⟨range_of_row R0.out rfl, range_of_row RB.out rfl⟩, ?_⟩
                    clear hRa hoa hsa hba RD
                    (try simp only [Act.put, List.setIfInBounds_toArray, List.set_cons_zero, List.set_cons_succ])
                    refine wpAnyH_ready (rs := [7]) (by kernel_rfl) (by simp) ?_
                    refine ar_row18 (i := 7) (o := { dst := none, op := Op.store 33 (Operand.tmp 9) (Operand.tmp 75), type := 0, pos := "law.go:272", after := #[{ on := 5, ground := Ground.data }, { on := 3, ground := Ground.data }, { on := 6, ground := Ground.chain }, { on := 0, ground := Ground.phase }, { on := 1, ground := Ground.phase }, { on := 2, ground := Ground.phase }, { on := 3, ground := Ground.phase }, { on := 4, ground := Ground.phase }, { on := 5, ground := Ground.phase }, { on := 6, ground := Ground.phase }], guard := none } ) rfl (by kernel_rfl) 33 (.tmp 9) (.tmp 75) rfl Bb #[.slice uai N.ids.length uci, .slice v.ac N.costs.length v.cc, .slice ual done.length ucl] rfl rfl 33 _ HBb.out (by kernel_rfl) rfl (by simp [Value.oneCell']) ?_
                    intro wb hRb hob hsb hbb
                    replace hb := hb.trans (hbb.mono hglBb)
                    replace Hv := Lib.hid (Hv.out.away HBb.out hob hsb (HNA.out wb hb).costs)
                    replace Hu := Lib.hid (Hu.out.away HBb.out hob hsb (HNA.out wb hb).costs)
                    replace HBb := Lib.hid hRb
                    replace HA := Lib.hid (rowIs_same HA.out (hob _ hAB))
                    replace R0 := Lib.hid (rowIs_same R0.out (hob _ (by omega)))
                    replace RB := Lib.hid (rowIs_same RB.out (hob _ (by omega)))
                    refine ⟨⟨range_of_row R0.out rfl, range_of_row RB.out rfl⟩, ?_⟩
                    clear hRb hob hsb hbb
                    (try simp only [Act.put, List.setIfInBounds_toArray, List.set_cons_zero, List.set_cons_succ])
                    refine wpAnyH_done (by kernel_rfl) ?_ _
                    go_wp2_with fail
                    go_meet
                    exact ⟨A, Bb, vai, vci, val, vcl, uai, uci, ual, ucl, rfl, rfl, HA.out, HBb.out, Hv.out, Hu.out, R0.out, hb⟩
          case more17 =>
            refine ar_alloc18 (i := 5) (o := { dst := some 9, op := Op.alloc 33, type := 0, pos := "law.go:272", after := #[], guard := none }) rfl (by kernel_rfl) 33 rfl #[.slice none 0 0, .slice none 0 0, .slice none 0 0] (by kernel_rfl) ?h26 AllReadyH.nil
            case h26 =>
              have hbk : Below wd.heap.size wd (wd.alloc (.cells #[.slice none 0 0, .slice none 0 0, .slice none 0 0] 33)) := (Below.refl _ _).alloc (Nat.le_refl _) _
              have R0 := Lib.hid (R0.out.kept hbk)
              have RB := Lib.hid (RB.out.kept hbk)
              have HBb := Lib.hid (rowIs_new wd 33 #[.slice none 0 0, .slice none 0 0, .slice none 0 0])
              have hglBb : wr.heap.size ≤ wd.heap.size := hb.size
              replace hb := hb.trans (hbk.mono hb.size)
              have RD : (fun w' => w'.rangeAt w.heap.size 0 [.slice v.ai N.ids.length v.ci, .slice v.ac N.costs.length v.cc, .slice v.al N.links.length v.cl] ∧ w'.rangeAt B1 0 [.slice v.ai N.ids.length v.ci, .slice v.ac N.costs.length v.cc, .slice la done.length lc]) (wd.alloc (.cells #[.slice none 0 0, .slice none 0 0, .slice none 0 0] 33)) := ⟨range_of_row R0.out rfl, range_of_row RB.out rfl⟩
              refine ⟨RD, ?_⟩
              clear hbk
              generalize (wd.alloc (.cells #[.slice none 0 0, .slice none 0 0, .slice none 0 0] 33)) = v26 at *
              generalize wd.heap.size = Bb at *
              (try simp only [Act.put, List.setIfInBounds_toArray, List.set_cons_zero, List.set_cons_succ])
              refine wpAnyH_ready (rs := [1, 4]) (by kernel_rfl) (by simp) ?_
              refine ar_call18 (i := 1) (o := { dst := some 73, op := Op.call { callee := Callee.value (Operand.func 10), args := #[Operand.tmp 72], argTypes := #[26] }, type := 33, pos := "law.go:272", after := #[{ on := 0, ground := Ground.data }], guard := none }) rfl (by kernel_rfl) (xs := [.tmp 72]) (vs := [.agg #[.slice v.ai N.ids.length v.ci, .slice v.ac N.costs.length v.cc, .slice v.al N.links.length v.cl]]) rfl rfl Try.func10 (by kernel_rfl) (by kernel_rfl) ?h27 ?more27
              case h27 =>
                refine (HOA.out v26 hb).mono ?_
                rintro e v27 ⟨vai, vci, val, vcl, rfl, hres, hbk⟩
                have R0 := Lib.hid (R0.out.kept hbk)
                have RB := Lib.hid (RB.out.kept hbk)
                have HBb := Lib.hid (HBb.out.kept hbk)
                have Hv := Lib.hid hres
                replace hb := hb.trans (hbk.mono hb.size)
                have RD : (fun w' => w'.rangeAt w.heap.size 0 [.slice v.ai N.ids.length v.ci, .slice v.ac N.costs.length v.cc, .slice v.al N.links.length v.cl] ∧ w'.rangeAt B1 0 [.slice v.ai N.ids.length v.ci, .slice v.ac N.costs.length v.cc, .slice la done.length lc]) v27 := ⟨range_of_row R0.out rfl, range_of_row RB.out rfl⟩
                refine ⟨_, rfl, RD, ?_⟩
                clear hres hbk
                (try simp only [Act.put, List.setIfInBounds_toArray, List.set_cons_zero, List.set_cons_succ])
                refine wpAnyH_ready (rs := [3, 4]) (by kernel_rfl) (by simp) ?_
                refine ar_call18 (i := 3) (o := { dst := some 75, op := Op.call { callee := Callee.value (Operand.func 10), args := #[Operand.tmp 74], argTypes := #[26] }, type := 33, pos := "law.go:272", after := #[{ on := 2, ground := Ground.data }, { on := 1, ground := Ground.chain }], guard := none }) rfl (by kernel_rfl) (xs := [.tmp 74]) (vs := [.agg #[.slice v.ai N.ids.length v.ci, .slice v.ac N.costs.length v.cc, .slice la done.length lc]]) rfl rfl Try.func10 (by kernel_rfl) (by kernel_rfl) ?h28 ?more28
                case h28 =>
                  refine (HOB.out v27 hb).mono ?_
                  rintro e v28 ⟨uai, uci, ual, ucl, rfl, hres, hbk⟩
                  have R0 := Lib.hid (R0.out.kept hbk)
                  have RB := Lib.hid (RB.out.kept hbk)
                  have HBb := Lib.hid (HBb.out.kept hbk)
                  have Hv := Lib.hid (Hv.out.kept hbk)
                  have Hu := Lib.hid hres
                  replace hb := hb.trans (hbk.mono hb.size)
                  have RD : (fun w' => w'.rangeAt w.heap.size 0 [.slice v.ai N.ids.length v.ci, .slice v.ac N.costs.length v.cc, .slice v.al N.links.length v.cl] ∧ w'.rangeAt B1 0 [.slice v.ai N.ids.length v.ci, .slice v.ac N.costs.length v.cc, .slice la done.length lc]) v28 := ⟨range_of_row R0.out rfl, range_of_row RB.out rfl⟩
                  refine ⟨_, rfl, RD, ?_⟩
                  clear hres hbk
                  (try simp only [Act.put, List.setIfInBounds_toArray, List.set_cons_zero, List.set_cons_succ])
                  refine wpAnyH_ready (rs := [4]) (by kernel_rfl) (by simp) ?_
                  refine ar_alloc18 (i := 4) (o := { dst := some 8, op := Op.alloc 33, type := 0, pos := "law.go:272", after := #[], guard := none }) rfl (by kernel_rfl) 33 rfl #[.slice none 0 0, .slice none 0 0, .slice none 0 0] (by kernel_rfl) ?h29 AllReadyH.nil
                  case h29 =>
                    have hbk : Below v28.heap.size v28 (v28.alloc (.cells #[.slice none 0 0, .slice none 0 0, .slice none 0 0] 33)) := (Below.refl _ _).alloc (Nat.le_refl _) _
                    have hne : Bb ≠ v28.heap.size := by have := HBb.out.lt; omega
                    have R0 := Lib.hid (R0.out.kept hbk)
                    have RB := Lib.hid (RB.out.kept hbk)
                    have HBb := Lib.hid (HBb.out.kept hbk)
                    have Hv := Lib.hid (Hv.out.kept hbk)
                    have Hu := Lib.hid (Hu.out.kept hbk)
                    have HA := Lib.hid (rowIs_new v28 33 #[.slice none 0 0, .slice none 0 0, .slice none 0 0])
                    have hglA : wr.heap.size ≤ v28.heap.size := hb.size
                    replace hb := hb.trans (hbk.mono hb.size)
                    have RD : (fun w' => w'.rangeAt w.heap.size 0 [.slice v.ai N.ids.length v.ci, .slice v.ac N.costs.length v.cc, .slice v.al N.links.length v.cl] ∧ w'.rangeAt B1 0 [.slice v.ai N.ids.length v.ci, .slice v.ac N.costs.length v.cc, .slice la done.length lc]) (v28.alloc (.cells #[.slice none 0 0, .slice none 0 0, .slice none 0 0] 33)) := ⟨range_of_row R0.out rfl, range_of_row RB.out rfl⟩
                    refine ⟨RD, ?_⟩
                    clear hbk
                    generalize (v28.alloc (.cells #[.slice none 0 0, .slice none 0 0, .slice none 0 0] 33)) = v29 at *
                    generalize v28.heap.size = A at *
                    (try simp only [Act.put, List.setIfInBounds_toArray, List.set_cons_zero, List.set_cons_succ])
                    have hAB : A ≠ Bb := (Ne.symm hne)
                    refine wpAnyH_ready (rs := [6]) (by kernel_rfl) (by simp) ?_
                    refine ar_row18 (i := 6) (o := { dst := none, op := Op.store 33 (Operand.tmp 8) (Operand.tmp 73), type := 0, pos := "law.go:272", after := #[{ on := 4, ground := Ground.data }, { on := 1, ground := Ground.data }, { on := 3, ground := Ground.chain }, { on := 0, ground := Ground.phase }, { on := 1, ground := Ground.phase }, { on := 2, ground := Ground.textOnly Departure.lateStores }, { on := 3, ground := Ground.textOnly Departure.lateStoresUnsure }, { on := 4, ground := Ground.phase }, { on := 5, ground := Ground.phase }], guard := none }) rfl (by kernel_rfl) 33 (.tmp 8) (.tmp 73) rfl A #[.slice vai N.ids.length vci, .slice v.ac N.costs.length v.cc, .slice val N.links.length vcl] rfl rfl 33 _ HA.out (by kernel_rfl) rfl (by simp [Value.oneCell']) ?_
                    intro wa hRa hoa hsa hba
                    replace hb := hb.trans (hba.mono hglA)
                    replace Hv := Lib.hid (Hv.out.away HA.out hoa hsa (HNA.out wa hb).costs)
                    replace Hu := Lib.hid (Hu.out.away HA.out hoa hsa (HNA.out wa hb).costs)
                    replace HA := Lib.hid hRa
                    replace HBb := Lib.hid (rowIs_same HBb.out (hoa _ (Ne.symm hAB)))
                    replace R0 := Lib.hid (rowIs_same R0.out (hoa _ (by omega)))
                    replace RB := Lib.hid (rowIs_same RB.out (hoa _ (by omega)))
                    refine ⟨⟨range_of_row R0.out rfl, range_of_row RB.out rfl⟩, ?_⟩
                    clear hRa hoa hsa hba RD
                    (try simp only [Act.put, List.setIfInBounds_toArray, List.set_cons_zero, List.set_cons_succ])
                    refine wpAnyH_ready (rs := [7]) (by kernel_rfl) (by simp) ?_
                    refine ar_row18 (i := 7) (o := { dst := none, op := Op.store 33 (Operand.tmp 9) (Operand.tmp 75), type := 0, pos := "law.go:272", after := #[{ on := 5, ground := Ground.data }, { on := 3, ground := Ground.data }, { on := 6, ground := Ground.chain }, { on := 0, ground := Ground.phase }, { on := 1, ground := Ground.phase }, { on := 2, ground := Ground.phase }, { on := 3, ground := Ground.phase }, { on := 4, ground := Ground.phase }, { on := 5, ground := Ground.phase }, { on := 6, ground := Ground.phase }], guard := none } ) rfl (by kernel_rfl) 33 (.tmp 9) (.tmp 75) rfl Bb #[.slice uai N.ids.length uci, .slice v.ac N.costs.length v.cc, .slice ual done.length ucl] rfl rfl 33 _ HBb.out (by kernel_rfl) rfl (by simp [Value.oneCell']) ?_
                    intro wb hRb hob hsb hbb
                    replace hb := hb.trans (hbb.mono hglBb)
                    replace Hv := Lib.hid (Hv.out.away HBb.out hob hsb (HNA.out wb hb).costs)
                    replace Hu := Lib.hid (Hu.out.away HBb.out hob hsb (HNA.out wb hb).costs)
                    replace HBb := Lib.hid hRb
                    replace HA := Lib.hid (rowIs_same HA.out (hob _ hAB))
                    replace R0 := Lib.hid (rowIs_same R0.out (hob _ (by omega)))
                    replace RB := Lib.hid (rowIs_same RB.out (hob _ (by omega)))
                    refine ⟨⟨range_of_row R0.out rfl, range_of_row RB.out rfl⟩, ?_⟩
                    clear hRb hob hsb hbb
                    (try simp only [Act.put, List.setIfInBounds_toArray, List.set_cons_zero, List.set_cons_succ])
                    refine wpAnyH_done (by kernel_rfl) ?_ _
                    go_wp2_with fail
                    go_meet
                    exact ⟨A, Bb, vai, vci, val, vcl, uai, uci, ual, ucl, rfl, rfl, HA.out, HBb.out, Hv.out, Hu.out, R0.out, hb⟩
                case more28 =>
                  refine ar_alloc18 (i := 4) (o := { dst := some 8, op := Op.alloc 33, type := 0, pos := "law.go:272", after := #[], guard := none }) rfl (by kernel_rfl) 33 rfl #[.slice none 0 0, .slice none 0 0, .slice none 0 0] (by kernel_rfl) ?h30 AllReadyH.nil
                  case h30 =>
                    have hbk : Below v27.heap.size v27 (v27.alloc (.cells #[.slice none 0 0, .slice none 0 0, .slice none 0 0] 33)) := (Below.refl _ _).alloc (Nat.le_refl _) _
                    have hne : Bb ≠ v27.heap.size := by have := HBb.out.lt; omega
                    have R0 := Lib.hid (R0.out.kept hbk)
                    have RB := Lib.hid (RB.out.kept hbk)
                    have HBb := Lib.hid (HBb.out.kept hbk)
                    have Hv := Lib.hid (Hv.out.kept hbk)
                    have HA := Lib.hid (rowIs_new v27 33 #[.slice none 0 0, .slice none 0 0, .slice none 0 0])
                    have hglA : wr.heap.size ≤ v27.heap.size := hb.size
                    replace hb := hb.trans (hbk.mono hb.size)
                    have RD : (fun w' => w'.rangeAt w.heap.size 0 [.slice v.ai N.ids.length v.ci, .slice v.ac N.costs.length v.cc, .slice v.al N.links.length v.cl] ∧ w'.rangeAt B1 0 [.slice v.ai N.ids.length v.ci, .slice v.ac N.costs.length v.cc, .slice la done.length lc]) (v27.alloc (.cells #[.slice none 0 0, .slice none 0 0, .slice none 0 0] 33)) := ⟨range_of_row R0.out rfl, range_of_row RB.out rfl⟩
                    refine ⟨RD, ?_⟩
                    clear hbk
                    generalize (v27.alloc (.cells #[.slice none 0 0, .slice none 0 0, .slice none 0 0] 33)) = v30 at *
                    generalize v27.heap.size = A at *
                    (try simp only [Act.put, List.setIfInBounds_toArray, List.set_cons_zero, List.set_cons_succ])
                    refine wpAnyH_ready (rs := [3]) (by kernel_rfl) (by simp) ?_
                    refine ar_call18 (i := 3) (o := { dst := some 75, op := Op.call { callee := Callee.value (Operand.func 10), args := #[Operand.tmp 74], argTypes := #[26] }, type := 33, pos := "law.go:272", after := #[{ on := 2, ground := Ground.data }, { on := 1, ground := Ground.chain }], guard := none }) rfl (by kernel_rfl) (xs := [.tmp 74]) (vs := [.agg #[.slice v.ai N.ids.length v.ci, .slice v.ac N.costs.length v.cc, .slice la done.length lc]]) rfl rfl Try.func10 (by kernel_rfl) (by kernel_rfl) ?h31 AllReadyH.nil
                    case h31 =>
                      refine (HOB.out v30 hb).mono ?_
                      rintro e v31 ⟨uai, uci, ual, ucl, rfl, hres, hbk⟩
                      have R0 := Lib.hid (R0.out.kept hbk)
                      have RB := Lib.hid (RB.out.kept hbk)
                      have HBb := Lib.hid (HBb.out.kept hbk)
                      have Hv := Lib.hid (Hv.out.kept hbk)
                      have HA := Lib.hid (HA.out.kept hbk)
                      have Hu := Lib.hid hres
                      replace hb := hb.trans (hbk.mono hb.size)
                      have RD : (fun w' => w'.rangeAt w.heap.size 0 [.slice v.ai N.ids.length v.ci, .slice v.ac N.costs.length v.cc, .slice v.al N.links.length v.cl] ∧ w'.rangeAt B1 0 [.slice v.ai N.ids.length v.ci, .slice v.ac N.costs.length v.cc, .slice la done.length lc]) v31 := ⟨range_of_row R0.out rfl, range_of_row RB.out rfl⟩
                      refine ⟨_, rfl, RD, ?_⟩
                      clear hres hbk
                      (try simp only [Act.put, List.setIfInBounds_toArray, List.set_cons_zero, List.set_cons_succ])
                      have hAB : A ≠ Bb := (Ne.symm hne)
                      refine wpAnyH_ready (rs := [6]) (by kernel_rfl) (by simp) ?_
                      refine ar_row18 (i := 6) (o := { dst := none, op := Op.store 33 (Operand.tmp 8) (Operand.tmp 73), type := 0, pos := "law.go:272", after := #[{ on := 4, ground := Ground.data }, { on := 1, ground := Ground.data }, { on := 3, ground := Ground.chain }, { on := 0, ground := Ground.phase }, { on := 1, ground := Ground.phase }, { on := 2, ground := Ground.textOnly Departure.lateStores }, { on := 3, ground := Ground.textOnly Departure.lateStoresUnsure }, { on := 4, ground := Ground.phase }, { on := 5, ground := Ground.phase }], guard := none }) rfl (by kernel_rfl) 33 (.tmp 8) (.tmp 73) rfl A #[.slice vai N.ids.length vci, .slice v.ac N.costs.length v.cc, .slice val N.links.length vcl] rfl rfl 33 _ HA.out (by kernel_rfl) rfl (by simp [Value.oneCell']) ?_
                      intro wa hRa hoa hsa hba
                      replace hb := hb.trans (hba.mono hglA)
                      replace Hv := Lib.hid (Hv.out.away HA.out hoa hsa (HNA.out wa hb).costs)
                      replace Hu := Lib.hid (Hu.out.away HA.out hoa hsa (HNA.out wa hb).costs)
                      replace HA := Lib.hid hRa
                      replace HBb := Lib.hid (rowIs_same HBb.out (hoa _ (Ne.symm hAB)))
                      replace R0 := Lib.hid (rowIs_same R0.out (hoa _ (by omega)))
                      replace RB := Lib.hid (rowIs_same RB.out (hoa _ (by omega)))
                      refine ⟨⟨range_of_row R0.out rfl, range_of_row RB.out rfl⟩, ?_⟩
                      clear hRa hoa hsa hba RD
                      (try simp only [Act.put, List.setIfInBounds_toArray, List.set_cons_zero, List.set_cons_succ])
                      refine wpAnyH_ready (rs := [7]) (by kernel_rfl) (by simp) ?_
                      refine ar_row18 (i := 7) (o := { dst := none, op := Op.store 33 (Operand.tmp 9) (Operand.tmp 75), type := 0, pos := "law.go:272", after := #[{ on := 5, ground := Ground.data }, { on := 3, ground := Ground.data }, { on := 6, ground := Ground.chain }, { on := 0, ground := Ground.phase }, { on := 1, ground := Ground.phase }, { on := 2, ground := Ground.phase }, { on := 3, ground := Ground.phase }, { on := 4, ground := Ground.phase }, { on := 5, ground := Ground.phase }, { on := 6, ground := Ground.phase }], guard := none } ) rfl (by kernel_rfl) 33 (.tmp 9) (.tmp 75) rfl Bb #[.slice uai N.ids.length uci, .slice v.ac N.costs.length v.cc, .slice ual done.length ucl] rfl rfl 33 _ HBb.out (by kernel_rfl) rfl (by simp [Value.oneCell']) ?_
                      intro wb hRb hob hsb hbb
                      replace hb := hb.trans (hbb.mono hglBb)
                      replace Hv := Lib.hid (Hv.out.away HBb.out hob hsb (HNA.out wb hb).costs)
                      replace Hu := Lib.hid (Hu.out.away HBb.out hob hsb (HNA.out wb hb).costs)
                      replace HBb := Lib.hid hRb
                      replace HA := Lib.hid (rowIs_same HA.out (hob _ hAB))
                      replace R0 := Lib.hid (rowIs_same R0.out (hob _ (by omega)))
                      replace RB := Lib.hid (rowIs_same RB.out (hob _ (by omega)))
                      refine ⟨⟨range_of_row R0.out rfl, range_of_row RB.out rfl⟩, ?_⟩
                      clear hRb hob hsb hbb
                      (try simp only [Act.put, List.setIfInBounds_toArray, List.set_cons_zero, List.set_cons_succ])
                      refine wpAnyH_done (by kernel_rfl) ?_ _
                      go_wp2_with fail
                      go_meet
                      exact ⟨A, Bb, vai, vci, val, vcl, uai, uci, ual, ucl, rfl, rfl, HA.out, HBb.out, Hv.out, Hu.out, R0.out, hb⟩
              case more27 =>
                refine ar_alloc18 (i := 4) (o := { dst := some 8, op := Op.alloc 33, type := 0, pos := "law.go:272", after := #[], guard := none }) rfl (by kernel_rfl) 33 rfl #[.slice none 0 0, .slice none 0 0, .slice none 0 0] (by kernel_rfl) ?h32 AllReadyH.nil
                case h32 =>
                  have hbk : Below v26.heap.size v26 (v26.alloc (.cells #[.slice none 0 0, .slice none 0 0, .slice none 0 0] 33)) := (Below.refl _ _).alloc (Nat.le_refl _) _
                  have hne : Bb ≠ v26.heap.size := by have := HBb.out.lt; omega
                  have R0 := Lib.hid (R0.out.kept hbk)
                  have RB := Lib.hid (RB.out.kept hbk)
                  have HBb := Lib.hid (HBb.out.kept hbk)
                  have HA := Lib.hid (rowIs_new v26 33 #[.slice none 0 0, .slice none 0 0, .slice none 0 0])
                  have hglA : wr.heap.size ≤ v26.heap.size := hb.size
                  replace hb := hb.trans (hbk.mono hb.size)
                  have RD : (fun w' => w'.rangeAt w.heap.size 0 [.slice v.ai N.ids.length v.ci, .slice v.ac N.costs.length v.cc, .slice v.al N.links.length v.cl] ∧ w'.rangeAt B1 0 [.slice v.ai N.ids.length v.ci, .slice v.ac N.costs.length v.cc, .slice la done.length lc]) (v26.alloc (.cells #[.slice none 0 0, .slice none 0 0, .slice none 0 0] 33)) := ⟨range_of_row R0.out rfl, range_of_row RB.out rfl⟩
                  refine ⟨RD, ?_⟩
                  clear hbk
                  generalize (v26.alloc (.cells #[.slice none 0 0, .slice none 0 0, .slice none 0 0] 33)) = v32 at *
                  generalize v26.heap.size = A at *
                  (try simp only [Act.put, List.setIfInBounds_toArray, List.set_cons_zero, List.set_cons_succ])
                  refine wpAnyH_ready (rs := [1]) (by kernel_rfl) (by simp) ?_
                  refine ar_call18 (i := 1) (o := { dst := some 73, op := Op.call { callee := Callee.value (Operand.func 10), args := #[Operand.tmp 72], argTypes := #[26] }, type := 33, pos := "law.go:272", after := #[{ on := 0, ground := Ground.data }], guard := none }) rfl (by kernel_rfl) (xs := [.tmp 72]) (vs := [.agg #[.slice v.ai N.ids.length v.ci, .slice v.ac N.costs.length v.cc, .slice v.al N.links.length v.cl]]) rfl rfl Try.func10 (by kernel_rfl) (by kernel_rfl) ?h33 AllReadyH.nil
                  case h33 =>
                    refine (HOA.out v32 hb).mono ?_
                    rintro e v33 ⟨vai, vci, val, vcl, rfl, hres, hbk⟩
                    have R0 := Lib.hid (R0.out.kept hbk)
                    have RB := Lib.hid (RB.out.kept hbk)
                    have HBb := Lib.hid (HBb.out.kept hbk)
                    have HA := Lib.hid (HA.out.kept hbk)
                    have Hv := Lib.hid hres
                    replace hb := hb.trans (hbk.mono hb.size)
                    have RD : (fun w' => w'.rangeAt w.heap.size 0 [.slice v.ai N.ids.length v.ci, .slice v.ac N.costs.length v.cc, .slice v.al N.links.length v.cl] ∧ w'.rangeAt B1 0 [.slice v.ai N.ids.length v.ci, .slice v.ac N.costs.length v.cc, .slice la done.length lc]) v33 := ⟨range_of_row R0.out rfl, range_of_row RB.out rfl⟩
                    refine ⟨_, rfl, RD, ?_⟩
                    clear hres hbk
                    (try simp only [Act.put, List.setIfInBounds_toArray, List.set_cons_zero, List.set_cons_succ])
                    refine wpAnyH_ready (rs := [3]) (by kernel_rfl) (by simp) ?_
                    refine ar_call18 (i := 3) (o := { dst := some 75, op := Op.call { callee := Callee.value (Operand.func 10), args := #[Operand.tmp 74], argTypes := #[26] }, type := 33, pos := "law.go:272", after := #[{ on := 2, ground := Ground.data }, { on := 1, ground := Ground.chain }], guard := none }) rfl (by kernel_rfl) (xs := [.tmp 74]) (vs := [.agg #[.slice v.ai N.ids.length v.ci, .slice v.ac N.costs.length v.cc, .slice la done.length lc]]) rfl rfl Try.func10 (by kernel_rfl) (by kernel_rfl) ?h34 AllReadyH.nil
                    case h34 =>
                      refine (HOB.out v33 hb).mono ?_
                      rintro e v34 ⟨uai, uci, ual, ucl, rfl, hres, hbk⟩
                      have R0 := Lib.hid (R0.out.kept hbk)
                      have RB := Lib.hid (RB.out.kept hbk)
                      have HBb := Lib.hid (HBb.out.kept hbk)
                      have HA := Lib.hid (HA.out.kept hbk)
                      have Hv := Lib.hid (Hv.out.kept hbk)
                      have Hu := Lib.hid hres
                      replace hb := hb.trans (hbk.mono hb.size)
                      have RD : (fun w' => w'.rangeAt w.heap.size 0 [.slice v.ai N.ids.length v.ci, .slice v.ac N.costs.length v.cc, .slice v.al N.links.length v.cl] ∧ w'.rangeAt B1 0 [.slice v.ai N.ids.length v.ci, .slice v.ac N.costs.length v.cc, .slice la done.length lc]) v34 := ⟨range_of_row R0.out rfl, range_of_row RB.out rfl⟩
                      refine ⟨_, rfl, RD, ?_⟩
                      clear hres hbk
                      (try simp only [Act.put, List.setIfInBounds_toArray, List.set_cons_zero, List.set_cons_succ])
                      have hAB : A ≠ Bb := (Ne.symm hne)
                      refine wpAnyH_ready (rs := [6]) (by kernel_rfl) (by simp) ?_
                      refine ar_row18 (i := 6) (o := { dst := none, op := Op.store 33 (Operand.tmp 8) (Operand.tmp 73), type := 0, pos := "law.go:272", after := #[{ on := 4, ground := Ground.data }, { on := 1, ground := Ground.data }, { on := 3, ground := Ground.chain }, { on := 0, ground := Ground.phase }, { on := 1, ground := Ground.phase }, { on := 2, ground := Ground.textOnly Departure.lateStores }, { on := 3, ground := Ground.textOnly Departure.lateStoresUnsure }, { on := 4, ground := Ground.phase }, { on := 5, ground := Ground.phase }], guard := none }) rfl (by kernel_rfl) 33 (.tmp 8) (.tmp 73) rfl A #[.slice vai N.ids.length vci, .slice v.ac N.costs.length v.cc, .slice val N.links.length vcl] rfl rfl 33 _ HA.out (by kernel_rfl) rfl (by simp [Value.oneCell']) ?_
                      intro wa hRa hoa hsa hba
                      replace hb := hb.trans (hba.mono hglA)
                      replace Hv := Lib.hid (Hv.out.away HA.out hoa hsa (HNA.out wa hb).costs)
                      replace Hu := Lib.hid (Hu.out.away HA.out hoa hsa (HNA.out wa hb).costs)
                      replace HA := Lib.hid hRa
                      replace HBb := Lib.hid (rowIs_same HBb.out (hoa _ (Ne.symm hAB)))
                      replace R0 := Lib.hid (rowIs_same R0.out (hoa _ (by omega)))
                      replace RB := Lib.hid (rowIs_same RB.out (hoa _ (by omega)))
                      refine ⟨⟨range_of_row R0.out rfl, range_of_row RB.out rfl⟩, ?_⟩
                      clear hRa hoa hsa hba RD
                      (try simp only [Act.put, List.setIfInBounds_toArray, List.set_cons_zero, List.set_cons_succ])
                      refine wpAnyH_ready (rs := [7]) (by kernel_rfl) (by simp) ?_
                      refine ar_row18 (i := 7) (o := { dst := none, op := Op.store 33 (Operand.tmp 9) (Operand.tmp 75), type := 0, pos := "law.go:272", after := #[{ on := 5, ground := Ground.data }, { on := 3, ground := Ground.data }, { on := 6, ground := Ground.chain }, { on := 0, ground := Ground.phase }, { on := 1, ground := Ground.phase }, { on := 2, ground := Ground.phase }, { on := 3, ground := Ground.phase }, { on := 4, ground := Ground.phase }, { on := 5, ground := Ground.phase }, { on := 6, ground := Ground.phase }], guard := none } ) rfl (by kernel_rfl) 33 (.tmp 9) (.tmp 75) rfl Bb #[.slice uai N.ids.length uci, .slice v.ac N.costs.length v.cc, .slice ual done.length ucl] rfl rfl 33 _ HBb.out (by kernel_rfl) rfl (by simp [Value.oneCell']) ?_
                      intro wb hRb hob hsb hbb
                      replace hb := hb.trans (hbb.mono hglBb)
                      replace Hv := Lib.hid (Hv.out.away HBb.out hob hsb (HNA.out wb hb).costs)
                      replace Hu := Lib.hid (Hu.out.away HBb.out hob hsb (HNA.out wb hb).costs)
                      replace HBb := Lib.hid hRb
                      replace HA := Lib.hid (rowIs_same HA.out (hob _ hAB))
                      replace R0 := Lib.hid (rowIs_same R0.out (hob _ (by omega)))
                      replace RB := Lib.hid (rowIs_same RB.out (hob _ (by omega)))
                      refine ⟨⟨range_of_row R0.out rfl, range_of_row RB.out rfl⟩, ?_⟩
                      clear hRb hob hsb hbb
                      (try simp only [Act.put, List.setIfInBounds_toArray, List.set_cons_zero, List.set_cons_succ])
                      refine wpAnyH_done (by kernel_rfl) ?_ _
                      go_wp2_with fail
                      go_meet
                      exact ⟨A, Bb, vai, vci, val, vcl, uai, uci, ual, ucl, rfl, rfl, HA.out, HBb.out, Hv.out, Hu.out, R0.out, hb⟩
      case rest =>
        as_aux_lemma =>
        obtain ⟨A, Bb, vai, vci, val, vcl, uai, uci, ual, ucl, rfl, rfl, hA, hB, hNa, hNb, hR0, hbc⟩ := hcut
        replace HA := Lib.hid hA
        replace HBb := Lib.hid hB
        replace Hv := Lib.hid hNa
        replace Hu := Lib.hid hNb
        replace R0 := Lib.hid hR0
        replace hbr := hbr.trans (hbc.mono hbr.size)
        clear hA hB hNa hNb hR0 hbc HOA HOB RB
        rename World => w8
        have HS2 := Lib.hid (HAL.out.sol HS.out)
        have HFW : Hid (∀ b p, forwB ⟨N.ids, N.costs, done⟩ D q b p = forwB N D q b p) := fun b p => HAL.out.forw HOK.out D q b p
        have HPA : Hid (∀ W, Below w8.heap.size w8 W → Calls Try.prog 13 #[.agg #[.slice vai N.ids.length vci, .slice v.ac N.costs.length v.cc, .slice val N.links.length vcl]] W fun e w' => (∃ g, e = .returned (.slice (some ⟨g, 0, none⟩) N.ids.length N.ids.length) ∧ RowIs w' g 3 (intsA q) ∧ W.heap.size ≤ g) ∧ Below W.heap.size W w') := fun W hb => ports_yes ⟨vai, vci, v.ac, v.cc, val, vcl⟩ N W (Hv.out.kept hb) (by omega) HOK.out R HS.out.roots D HS.out.dist q HS.out.ports
        have HPB : Hid (∀ W, Below w8.heap.size w8 W → Calls Try.prog 13 #[.agg #[.slice uai N.ids.length uci, .slice v.ac N.costs.length v.cc, .slice ual done.length ucl]] W fun e w' => (∃ g, e = .returned (.slice (some ⟨g, 0, none⟩) N.ids.length N.ids.length) ∧ RowIs w' g 3 (intsA q) ∧ W.heap.size ≤ g) ∧ Below W.heap.size W w') := fun W hb => ports_yes ⟨uai, uci, v.ac, v.cc, ual, ucl⟩ ⟨N.ids, N.costs, done⟩ W (Hu.out.kept hb) hd1000 HS2.out.ok R HS2.out.roots D HS2.out.dist q HS2.out.ports
        go_upto_region 13 with fail
        refine wp_region_mix 4 (by kernel_rfl) (by kernel_rfl) (by kernel_rfl) ?_
        refine mix_exact (.agg #[.slice vai N.ids.length vci, .slice v.ac N.costs.length v.cc, .slice val N.links.length vcl]) rfl (exact_load_row rfl rfl (by simp) HA.out Try.underlying33 rfl (by kernel_rfl)) ?_
        refine mix_special (ResAt w8.heap.size N.ids.length q) 77 rfl rfl (stable_res _ _ _) (owes_call (xs := [76]) (vs := [.agg #[.slice vai N.ids.length vci, .slice v.ac N.costs.length v.cc, .slice val N.links.length vcl]]) rfl (by simp) rfl Try.func13 (by kernel_rfl) (by kernel_rfl) (fun w' hb => (HPA.out w' hb).mono (by
          rintro e w'' ⟨⟨g, rfl, h1, h2⟩, hb'⟩
          exact ⟨_, rfl, hb', g, rfl, h1, Nat.le_trans hb.size h2⟩))) ?_
        refine mix_exact (.agg #[.slice uai N.ids.length uci, .slice v.ac N.costs.length v.cc, .slice ual done.length ucl]) rfl (exact_load_row rfl rfl (by simp) HBb.out Try.underlying33 rfl (by kernel_rfl)) ?_
        refine mix_special (ResAt w8.heap.size N.ids.length q) 79 rfl rfl (stable_res _ _ _) (owes_call (xs := [78]) (vs := [.agg #[.slice uai N.ids.length uci, .slice v.ac N.costs.length v.cc, .slice ual done.length ucl]]) rfl (by simp) rfl Try.func13 (by kernel_rfl) (by kernel_rfl) (fun w' hb => (HPB.out w' hb).mono (by
          rintro e w'' ⟨⟨g, rfl, h1, h2⟩, hb'⟩
          exact ⟨_, rfl, hb', g, rfl, h1, Nat.le_trans hb.size h2⟩))) ?_
        refine mix_nil ?_
        rintro ⟨dq, osq⟩
        have hb9 := below_regrown w8 dq osq
        rintro u77 ⟨g1, rfl, hg1, _⟩ u79 ⟨g2, rfl, hg2, _⟩
        replace HG1 := Lib.hid hg1
        replace HG2 := Lib.hid hg2
        replace HA := Lib.hid (HA.out.kept hb9)
        replace HBb := Lib.hid (HBb.out.kept hb9)
        replace Hv := Lib.hid (Hv.out.kept hb9)
        replace Hu := Lib.hid (Hu.out.kept hb9)
        replace R0 := Lib.hid (R0.out.kept hb9)
        replace hbr := hbr.trans (hb9.mono hbr.size)
        clear hg1 hg2 HPA HPB hb9
        refine (show wpList _ _ _ _ _ _ from ?_)
        simp only [List.drop, Act.put, List.setIfInBounds_toArray, List.set]
        generalize grow (redrawn w8 dq) osq = w9 at *
        have HQL : Hid (q.length = N.ids.length) := HS.out.ports.len
        have HLEN := Lib.hid HOK.out.len
        have hpp : Hid True := trivial
        go_wp2_with fail
        go_loopw [12, 13] (fun s12 _ wr => ∃ i : Nat, i ≤ N.ids.length ∧ s12 = .int .i64 i ∧ Hid (RowIs wr w.heap.size 26 #[.slice v.ai N.ids.length v.ci, .slice v.ac N.costs.length v.cc, .slice v.al N.links.length v.cl]) ∧ Hid (RowIs wr g1 3 (intsA q)) ∧ Hid (RowIs wr g2 3 (intsA q)) ∧ Hid (RowIs wr A 33 #[.slice vai N.ids.length vci, .slice v.ac N.costs.length v.cc, .slice val N.links.length vcl]) ∧ Hid (RowIs wr Bb 33 #[.slice uai N.ids.length uci, .slice v.ac N.costs.length v.cc, .slice ual done.length ucl]) ∧ Hid (NetAt wr ⟨vai, vci, v.ac, v.cc, val, vcl⟩ N) ∧ Hid (NetAt wr ⟨uai, uci, v.ac, v.cc, ual, ucl⟩ ⟨N.ids, N.costs, done⟩) ∧ Below w.heap.size w wr) (fun s12 _ _ => N.ids.length - (intOf s12).toNat)
        case atStart => exact ⟨0, Nat.zero_le _, rfl, R0, HG1, HG2, HA, HBb, Hv, Hu, hbr⟩
        case round =>
          clear R0 HG1 HG2 HA HBb Hv Hu hbr
          rename World => wp
          obtain ⟨i, hi', rfl, R0, HG1, HG2, HA, HBb, Hv, Hu, hbr⟩ := hrel
          have c0 : wp.cell? ⟨w.heap.size, 0, none⟩ = some (.slice v.ai N.ids.length v.ci) := R0.out.cell 0
          by_cases hi : i < N.ids.length
          · have f1 : wp.cell? ⟨g1, i, none⟩ = some (.int .i64 (q.getD i 0)) := by rw [HG1.out.cell, intsA_get (by rw [HQL.out]; exact hi)]
            have f2 : wp.cell? ⟨g2, i, none⟩ = some (.int .i64 (q.getD i 0)) := by rw [HG2.out.cell, intsA_get (by rw [HQL.out]; exact hi)]
            have hx0 : (0 : Int) ≤ (i : Int) := by omega
            have hx1 : (i : Int) < (N.ids.length : Int) := by omega
            generalize q.getD i 0 = qi at *
            have HCS : Hid (∀ W, Below w.heap.size w W → ∃ cb coff ca cci, v.ac = some ⟨cb, coff, none⟩ ∧ W.cell? ⟨cb, coff + i, none⟩ = some (.slice ca (N.cs i).length cci)) := fun W hb => by
              obtain ⟨cb, coff, ca, cci, eac, hcc, -⟩ := (HN.out.kept hb).cs (show i < N.costs.length by have := HLEN.out; omega)
              exact ⟨cb, coff, ca, cci, eac, hcc⟩
            have HHA : Hid (∀ p : Nat, p < (N.cs i).length → N.has i p = true) := fun p hp => LN.has_iff.2 ⟨by omega, by have := HLEN.out; omega, by omega, by rw [Int.toNat_natCast]; omega⟩
            have hz32 : (N.cs i).length ≤ 32 := by
              have h3 := HOK.out.cost (N.cs i) (LN.cs_mem (by have := HLEN.out; omega))
              unfold okCosts at h3
              simp only [Bool.and_eq_true, decide_eq_true_eq] at h3
              exact h3.1
            generalize (N.cs i).length = z at *
            go_upto_region 17 with fail
            go_quiet (fail)
            have hbq : Below wp.heap.size wp (wp.drewN nq) := below_drewN (Below.refl _ _) _
            replace R0 := Lib.hid (R0.out.kept hbq)
            replace HG1 := Lib.hid (HG1.out.kept hbq)
            replace HG2 := Lib.hid (HG2.out.kept hbq)
            replace HA := Lib.hid (HA.out.kept hbq)
            replace HBb := Lib.hid (HBb.out.kept hbq)
            replace Hv := Lib.hid (Hv.out.kept hbq)
            replace Hu := Lib.hid (Hu.out.kept hbq)
            replace hbr := hbr.trans (hbq.mono hbr.size)
            clear hbq f1 f2 c0
            generalize wp.drewN nq = wm at *
            go_wp2_with fail
            go_loopw [13] (fun s13 wr => ∃ p : Nat, p ≤ z ∧ s13 = .int .i64 p ∧ Hid (RowIs wr w.heap.size 26 #[.slice v.ai N.ids.length v.ci, .slice v.ac N.costs.length v.cc, .slice v.al N.links.length v.cl]) ∧ Hid (RowIs wr g1 3 (intsA q)) ∧ Hid (RowIs wr g2 3 (intsA q)) ∧ Hid (RowIs wr A 33 #[.slice vai N.ids.length vci, .slice v.ac N.costs.length v.cc, .slice val N.links.length vcl]) ∧ Hid (RowIs wr Bb 33 #[.slice uai N.ids.length uci, .slice v.ac N.costs.length v.cc, .slice ual done.length ucl]) ∧ Hid (NetAt wr ⟨vai, vci, v.ac, v.cc, val, vcl⟩ N) ∧ Hid (NetAt wr ⟨uai, uci, v.ac, v.cc, ual, ucl⟩ ⟨N.ids, N.costs, done⟩) ∧ Below w.heap.size w wr) (fun s13 _ => z - (intOf s13).toNat)
            case atStart => exact ⟨0, Nat.zero_le _, rfl, R0, HG1, HG2, HA, HBb, Hv, Hu, hbr⟩
            case round =>
              clear R0 HG1 HG2 HA HBb Hv Hu hbr
              rename World => wq
              obtain ⟨p, hp, rfl, R0, HG1, HG2, HA, HBb, Hv, Hu, hbr⟩ := hrel
              obtain ⟨cb, coff, ca, cci, eac, hcc⟩ := HCS.out _ hbr
              have c1 : wq.cell? ⟨w.heap.size, 1, none⟩ = some (.slice (some ⟨cb, coff, none⟩) N.costs.length v.cc) := by rw [← eac]; exact R0.out.cell 1
              have hx3 : (i : Int) < (N.costs.length : Int) := by have := HLEN.out; omega
              clear eac
              by_cases hpl : p < z
              · as_aux_lemma =>
                have hh := HHA.out p hpl
                have hh2 : LN.has ⟨N.ids, N.costs, done⟩ i p = true := hh
                have C1 : Hid (∀ (k : Regrown), Calls Try.prog 15 #[.agg #[.slice vai N.ids.length vci, .slice v.ac N.costs.length v.cc, .slice val N.links.length vcl], .int .i64 i, .int .i64 p] (grow (redrawn wq k.d) k.os) fun e w' => e = .returned (.bool (forwB N D q i p)) ∧ Below (grow (redrawn wq k.d) k.os).heap.size (grow (redrawn wq k.d) k.os) w') := fun k => forw_yes ⟨vai, vci, v.ac, v.cc, val, vcl⟩ N i p _ (Hv.out.kept (below_regrown wq k.d k.os)) (by omega) HOK.out R HS.out.roots D HS.out.dist q HS.out.ports hh
                have C2 : Hid (∀ (k : Regrown), Calls Try.prog 15 #[.agg #[.slice uai N.ids.length uci, .slice v.ac N.costs.length v.cc, .slice ual done.length ucl], .int .i64 i, .int .i64 p] (grow (redrawn wq k.d) k.os) fun e w' => e = .returned (.bool (forwB N D q i p)) ∧ Below (grow (redrawn wq k.d) k.os).heap.size (grow (redrawn wq k.d) k.os) w') := fun k => by
                  have h := forw_yes ⟨uai, uci, v.ac, v.cc, ual, ucl⟩ ⟨N.ids, N.costs, done⟩ i p (grow (redrawn wq k.d) k.os) (Hu.out.kept (below_regrown wq k.d k.os)) hd1000 HS2.out.ok R HS2.out.roots D HS2.out.dist q HS2.out.ports hh2
                  rw [HFW.out] at h
                  exact h
                generalize forwB N D q i p = bo at *
                clear hh hh2
                go_upto_region 22 with fail
                clear c1 hcc
                cases bo
                all_goals
                  refine wp_region_mix 9 (by kernel_rfl) (by kernel_rfl) (by kernel_rfl) ?_
                  refine mix_exact (.agg #[.slice vai N.ids.length vci, .slice v.ac N.costs.length v.cc, .slice val N.links.length vcl]) rfl (exact_load_row rfl rfl (by simp) HA.out Try.underlying33 rfl (by kernel_rfl)) ?_
                  (refine mix_step (by kernel_rfl) (by kernel_rfl) (fun K hK => ?_); go_simp; (try (simp only [↓IntWalk.iteOmega]; go_simp)); (first | (refine hK _ ?_; clear hK K) | (apply Exists.intro; refine ⟨fun _ => ?_, hK _ ?_⟩; (first | fail); clear hK K)))
                  (refine mix_step (by kernel_rfl) (by kernel_rfl) (fun K hK => ?_); go_simp; (try (simp only [↓IntWalk.iteOmega]; go_simp)); (first | (refine hK _ ?_; clear hK K) | (apply Exists.intro; refine ⟨fun _ => ?_, hK _ ?_⟩; (first | fail); clear hK K)))
                  (refine mix_step (by kernel_rfl) (by kernel_rfl) (fun K hK => ?_); go_simp; (try (simp only [↓IntWalk.iteOmega]; go_simp)); (first | (refine hK _ ?_; clear hK K) | (apply Exists.intro; refine ⟨fun _ => ?_, hK _ ?_⟩; (first | exact C1.out _); clear hK K)))
                  refine mix_exact (.agg #[.slice uai N.ids.length uci, .slice v.ac N.costs.length v.cc, .slice ual done.length ucl]) rfl (exact_load_row rfl rfl (by simp) HBb.out Try.underlying33 rfl (by kernel_rfl)) ?_
                  (refine mix_step (by kernel_rfl) (by kernel_rfl) (fun K hK => ?_); go_simp; (try (simp only [↓IntWalk.iteOmega]; go_simp)); (first | (refine hK _ ?_; clear hK K) | (apply Exists.intro; refine ⟨fun _ => ?_, hK _ ?_⟩; (first | fail); clear hK K)))
                  (refine mix_step (by kernel_rfl) (by kernel_rfl) (fun K hK => ?_); go_simp; (try (simp only [↓IntWalk.iteOmega]; go_simp)); (first | (refine hK _ ?_; clear hK K) | (apply Exists.intro; refine ⟨fun _ => ?_, hK _ ?_⟩; (first | fail); clear hK K)))
                  (refine mix_step (by kernel_rfl) (by kernel_rfl) (fun K hK => ?_); go_simp; (try (simp only [↓IntWalk.iteOmega]; go_simp)); (first | (refine hK _ ?_; clear hK K) | (apply Exists.intro; refine ⟨fun _ => ?_, hK _ ?_⟩; (first | exact C2.out _); clear hK K)))
                  (refine mix_step (by kernel_rfl) (by kernel_rfl) (fun K hK => ?_); go_simp; (try (simp only [↓IntWalk.iteOmega]; go_simp)); (first | (refine hK _ ?_; clear hK K) | (apply Exists.intro; refine ⟨fun _ => ?_, hK _ ?_⟩; (first | fail); clear hK K)))
                  refine mix_nil ?_
                  rintro ⟨dq, osq⟩
                  have hb5 := below_regrown wq dq osq
                  refine (show wpList _ _ _ _ _ _ from ?_)
                  simp only [List.drop, Act.put, List.setIfInBounds_toArray, List.set]
                  replace R0 := Lib.hid (R0.out.kept hb5)
                  replace HG1 := Lib.hid (HG1.out.kept hb5)
                  replace HG2 := Lib.hid (HG2.out.kept hb5)
                  replace HA := Lib.hid (HA.out.kept hb5)
                  replace HBb := Lib.hid (HBb.out.kept hb5)
                  replace Hv := Lib.hid (Hv.out.kept hb5)
                  replace Hu := Lib.hid (Hu.out.kept hb5)
                  replace hbr := hbr.trans (hb5.mono hbr.size)
                  clear hb5 C1 C2
                  generalize grow (redrawn wq dq) osq = w5 at *
                  go_wp2_with fail
                  exact ⟨⟨p + 1, by omega, by go_num, R0, HG1, HG2, HA, HBb, Hv, Hu, hbr⟩, by simp [intOf]; omega⟩
              · obtain rfl : p = z := by omega
                go_wp2_with fail
                exact ⟨⟨i + 1, by omega, by go_num, R0, HG1, HG2, HA, HBb, Hv, Hu, hbr⟩, by simp [intOf]; omega⟩
          · obtain rfl : i = N.ids.length := by omega
            have HRT := Lib.hid (right18 ⟨uai, uci, v.ac, v.cc, ual, ucl⟩ ⟨N.ids, N.costs, done⟩ wp Hu.out hd1000)
            rw [right_iff.2 HS2.out.ok] at HRT
            go_wp2_with ((with_reducible refine at_load 33 (.tmp 9) ?_); refine wpList_load_own rfl 33 (.tmp 9) rfl Bb rfl _ _ _ HBb.out Try.underlying33 rfl (by kernel_rfl) ?_)
            refine HRT.out.mono ?_
            rintro e wz ⟨rfl, hbz⟩
            go_wp2_with fail
            go_ret
            exact ⟨rfl, hbr.trans (hbz.mono hbr.size)⟩
end Go.Proofs.Ytfgbegnngpdnbaa
