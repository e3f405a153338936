/- causeyref18.Distances. By an AI agent. -/
import Derived.Test.YtcmokhpnooldgaaLq2
import Derived.Test.YtcmokhpnooldgaaGrowCall
namespace Go.Proofs.Ytcmokhpnooldgaa
open Go.RowKit Go.WideShapes Go.Sort Grow

/-- an answer: these numbers in memory of its own -/
def ResQ (base n : Nat) (zs : List Int) : Fact := fun w u => ∃ g, u = .slice (some ⟨g, 0, none⟩) n n ∧ RowIs w g 3 (intsA zs) ∧ base ≤ g
theorem stable_resQ (base n : Nat) (zs : List Int) : Stable Bel (ResQ base n zs) := fun _ _ _ hb ⟨g, h, hr, hB⟩ => ⟨g, h, hr.kept hb, hB⟩
namespace Grow
/-- a pointer to a cell that holds the value -/
def CellPtr (v : Value) : Fact := fun w u => ∃ g k, u = .pointer (some ⟨g, k, none⟩) ∧ w.cell? ⟨g, k, none⟩ = some v
theorem stable_cellPtr (v : Value) : Stable Bel (CellPtr v) := fun _ _ _ hb ⟨g, k, h, hc⟩ => ⟨g, k, h, by rw [hb.cell (p := ⟨g, k, none⟩) (block_lt_of_cell hc)]; exact hc⟩
section
variable {P : Program} {ops : Array Oper} {w0 : World} {a : Act} {S : List (Tmp × Fact)} {o : Oper}
/-- the place of a number in an answer -/
theorem owes_index_res {st : TypeId} {x y : Tmp} {base n k : Nat} {zs : List Int} (ho : o.op = .indexAddr st (.tmp x) (.tmp y)) (hx : (x, ResQ base n zs) ∈ S) (hy : a.eval (.tmp y) = .int .i64 k) (hyS : y ∉ S.map Prod.fst) (hk : k < zs.length)
    (hrun : ∀ g w, (Instr.indexAt st (.slice (some ⟨g, 0, none⟩) n n) (.int .i64 k)).run P w = .ok (.pointer (some ⟨g, k, none⟩)) w) : Owes Bel P ops w0 a S o (CellPtr (.int .i64 (zs.getD k 0))) := by
  intro ρ w _ h1 h2
  have hm : x ∈ o.looksAt ops := by simp [Oper.looksAt, ho, Op.operands]
  have hm2 : y ∈ o.looksAt ops := by simp [Oper.looksAt, ho, Op.operands]
  obtain ⟨g, e, hr, _⟩ := h1 _ hx hm
  have e2 := (h2 y hm2 hyS).trans hy
  unfold gives execOp
  simp only [ho, e, e2, Sem.run_bind, hrun, Result.andThen_ok, Sem.run_pure]
  exact ⟨Below.refl _ _, g, k, rfl, by rw [hr.cell, intsA_get hk]⟩
/-- what a pointer to a cell leads to -/
theorem exact_load_ptr {ty : TypeId} {x : Tmp} {v : Value} {d : TypeDesc} (ho : o.op = .load ty (.tmp x)) (hx : (x, CellPtr v) ∈ S) (hu : P.underlying ty = some d) (hd : d.isRow = false) : Owes Bel P ops w0 a S o (fun _ u => u = v) := by
  intro ρ w _ h1 _
  have hm : x ∈ o.looksAt ops := by simp [Oper.looksAt, ho, Op.operands]
  obtain ⟨g, k, e, hc⟩ := h1 _ hx hm
  have hagg : (isAgg ty).run P w = .ok false w := by
    unfold isAgg
    rw [Sem.run_bind, run_underlying hu w]
    cases d <;> simp [TypeDesc.isRow] at hd ⊢
  unfold gives execOp
  have hl : (loadVar ty ⟨g, k, none⟩).run P w = .ok v w := by
    simp [loadVar, Sem.run_bind, hagg, run_load, hc]
  simp only [ho, e, Instr.loadAt, Instr.sureAddr, Sem.run_bind, Sem.run_pure, Result.andThen_ok, hl]
  exact ⟨Below.refl _ _, trivial⟩
end
end Grow

set_option maxRecDepth 20000 in
set_option maxHeartbeats 8000000 in
theorem refDists18 (v : NV) (N : LN) (w : World) (h : NetAt w v N) (hl : N.links.length ≤ 1000) (hok : N.Ok) (R : List Nat) (hR : IsRoots N R) (D : List Int) (hD : IsDist N R D) :
    Calls Try.prog 19 #[.agg #[.slice v.ai N.ids.length v.ci, .slice v.ac N.costs.length v.cc, .slice v.al N.links.length v.cl]] w fun e w' => (∃ ao cap, e = .returned (.slice ao N.ids.length cap) ∧ IntsAt w' ao D) ∧ Below w.heap.size w w' := by
  have HOK := Lib.hid hok
  have HR := Lib.hid hR
  have HD := Lib.hid hD
  have hn16 := hok.n16
  have HRL : Hid (R.length = N.ids.length) := hR.len
  have HDL : Hid (D.length = N.ids.length) := hD.len
  clear hok hR hD
  obtain ⟨ti, tz, hti, htz, hz1, hz2, hz3⟩ := info_int18
  have HTI := Lib.hid hti
  have HTZ := Lib.hid htz
  clear hti htz
  have HN := Lib.hid h
  clear h
  go_enter Try.func19, Try.ntmps19
  go_upto_region 1 with fail
  generalize hW : w.alloc _ = w1
  have hbW : Below w.heap.size w w1 := by rw [← hW]; exact (Below.refl _ _).alloc (Nat.le_refl _) _
  have R0 : Hid (RowIs w1 w.heap.size 26 #[.slice v.ai N.ids.length v.ci, .slice v.ac N.costs.length v.cc, .slice v.al N.links.length v.cl]) := by subst hW; exact rowIs_new w _ _
  clear hW
  have HCR := Lib.hid (refRoots18 v N w1 (HN.out.kept hbW) hl HOK.out R HR.out)
  go_wp2_with ((with_reducible refine at_load 26 (.tmp 1) ?_); refine wpList_load_own rfl 26 (.tmp 1) rfl w.heap.size rfl _ _ _ R0.out Try.underlying26 rfl (by kernel_rfl) ?_)
  refine HCR.out.mono ?_
  rintro e w2 ⟨⟨ar, rcap, rfl, hir⟩, hbk⟩
  have HIR := Lib.hid hir
  have HK : Hid (∀ W, Below w2.heap.size w2 W → RowIs W w.heap.size 26 #[.slice v.ai N.ids.length v.ci, .slice v.ac N.costs.length v.cc, .slice v.al N.links.length v.cl] ∧ NetAt W v N ∧ IntsAt W ar (natI R)) := fun W hb => ⟨(R0.out.kept hbk).kept hb, (HN.out.kept (hbW.trans (hbk.mono hbW.size))).kept hb, HIR.out.after hb⟩
  have HEND : Hid (∀ W, Below w2.heap.size w2 W → Below w.heap.size w W) := fun W hb => (hbW.trans (hbk.mono hbW.size)).trans (hb.mono (Nat.le_trans hbW.size hbk.size))
  have hbr : Below w2.heap.size w2 w2 := Below.refl _ _
  have HF0 : Hid (RowsFrom w2 w2.heap.size 3 1 encI (.slice none 0 0) (D.take 0)) := rowsFrom_nil
  clear R0 hbW HN hbk HCR hir HIR
  go_wp2_with fail
  go_loopw [4, 5] (fun s4 s5 wr => ∃ i : Nat, i ≤ N.ids.length ∧ s5 = .int .i64 i ∧ Hid (RowsFrom wr w2.heap.size 3 1 encI s4 (D.take i)) ∧ Below w2.heap.size w2 wr) (fun _ s5 _ => N.ids.length - (intOf s5).toNat)
  case atStart => exact ⟨0, Nat.zero_le _, rfl, HF0, hbr⟩
  case round =>
    clear HF0 hbr
    rename World => wr
    obtain ⟨i, hi', rfl, HF, hbr⟩ := hrel
    by_cases hi : i < N.ids.length
    · as_aux_lemma =>
      obtain ⟨hr0, hn0, hi0⟩ := HK.out wr hbr
      have R0' := Lib.hid hr0
      have HN' := Lib.hid hn0
      have hri := HR.out.lt i hi
      obtain ⟨rb, roff, er, hrc⟩ := ints_cell hi0 (show i < (natI R).length by rw [natI_len, HRL.out]; exact hi)
      rw [natI_get (by rw [HRL.out]; exact hi)] at hrc
      have HEL : Hid ((D.take i).length = i) := by show _ = _; rw [List.length_take, HDL.out]; omega
      have hdr := dist_root HOK.out HR.out HD.out hi
      have HNX : Hid (D.take (i + 1) = D.take i ++ [D.getD i 0]) := by
        show _ = _
        have := HDL.out
        rw [List.take_add_one, List.getElem?_eq_getElem (by omega), List.getD, List.getElem?_eq_getElem (by omega)]
        rfl
      have HEN : Hid ((distE N (R.getD i 0)).length = N.ids.length) := distE_len HOK.out _
      obtain ⟨la, lc, e3, hO⟩ := HF.out
      rw [HEL.out] at e3 hO
      subst e3
      have HO := Lib.hid hO
      have HCD : Hid (∀ W, Below wr.heap.size wr W → Calls Try.prog 37 #[.agg #[.slice v.ai N.ids.length v.ci, .slice v.ac N.costs.length v.cc, .slice v.al N.links.length v.cl], .int .i64 (R.getD i 0 : Nat)] W fun e w' => (∃ g, e = .returned (.slice (some ⟨g, 0, none⟩) N.ids.length N.ids.length) ∧ RowIs w' g 3 (intsA (distE N (R.getD i 0))) ∧ W.heap.size ≤ g) ∧ Below W.heap.size W w') := fun W hb => refDist18 v N W (HN'.out.kept hb) hl HOK.out (R.getD i 0) hri
      have hx0 : (0 : Int) ≤ (i : Int) := by omega
      have hx1 : (i : Int) < (N.ids.length : Int) := by omega
      have hgw : w2.heap.size ≤ wr.heap.size := hbr.size
      subst er
      have f0 := cell_regrown hrc
      clear hr0 hn0 hi0 hO HF hri hrc HN'
      have HDR := Lib.hid hdr
      clear hdr
      generalize R.getD i 0 = ri at *
      have hrun : ∀ g w, (Instr.indexAt 35 (.slice (some ⟨g, 0, none⟩) N.ids.length N.ids.length) (.int .i64 i)).run Try.prog w = .ok (.pointer (some ⟨g, i, none⟩)) w := fun g w => by go_simp
      have hil : i < (distE N ri).length := by rw [HEN.out]; exact hi
      go_upto_region 6 with fail
      refine wp_region_mix 11 (by kernel_rfl) (by kernel_rfl) (by kernel_rfl) ?_
      (refine mix_step (by kernel_rfl) (by kernel_rfl) (fun K hK => ?_); go_simp; (try (simp only [↓IntWalk.iteOmega]; go_simp)); (first | (refine hK _ ?_; clear hK K) | (apply Exists.intro; refine ⟨fun _ => ?_, hK _ ?_⟩; (first | fail); clear hK K)))
      refine mix_exact (.agg #[.slice v.ai N.ids.length v.ci, .slice v.ac N.costs.length v.cc, .slice v.al N.links.length v.cl]) rfl (exact_load_row rfl rfl (by simp) R0'.out Try.underlying26 rfl (by kernel_rfl)) ?_
      (refine mix_step (by kernel_rfl) (by kernel_rfl) (fun K hK => ?_); go_simp; (try (simp only [↓IntWalk.iteOmega]; go_simp)); (first | (refine hK _ ?_; clear hK K) | (apply Exists.intro; refine ⟨fun _ => ?_, hK _ ?_⟩; (first | fail); clear hK K)))
      (refine mix_step (by kernel_rfl) (by kernel_rfl) (fun K hK => ?_); go_simp; (try (simp only [↓IntWalk.iteOmega]; go_simp)); (first | (refine hK _ ?_; clear hK K) | (apply Exists.intro; refine ⟨fun _ => ?_, hK _ ?_⟩; (first | fail); clear hK K)))
      (refine mix_step (by kernel_rfl) (by kernel_rfl) (fun K hK => ?_); go_simp; (try (simp only [↓IntWalk.iteOmega]; go_simp)); (first | (refine hK _ ?_; clear hK K) | (apply Exists.intro; refine ⟨fun _ => ?_, hK _ ?_⟩; (first | fail); clear hK K)))
      (refine mix_step (by kernel_rfl) (by kernel_rfl) (fun K hK => ?_); go_simp; (try (simp only [↓IntWalk.iteOmega]; go_simp)); (first | (refine hK _ ?_; clear hK K) | (apply Exists.intro; refine ⟨fun _ => ?_, hK _ ?_⟩; (first | fail); clear hK K)))
      refine mix_special (ResQ wr.heap.size N.ids.length (distE N ri)) 20 rfl rfl (stable_resQ _ _ _) (owes_call (xs := [15, 19]) (vs := [.agg #[.slice v.ai N.ids.length v.ci, .slice v.ac N.costs.length v.cc, .slice v.al N.links.length v.cl], .int .i64 ri]) rfl (by simp) rfl Try.func37 (by kernel_rfl) (by kernel_rfl) (fun w' hb => (HCD.out w' hb).mono (by
        rintro e w'' ⟨⟨g, rfl, h1, h2⟩, hb'⟩
        exact ⟨_, rfl, hb', g, rfl, h1, Nat.le_trans hb.size h2⟩))) ?_
      (refine mix_step (by kernel_rfl) (by kernel_rfl) (fun K hK => ?_); go_simp; (try (simp only [↓IntWalk.iteOmega]; go_simp)); (first | (refine hK _ ?_; clear hK K) | (apply Exists.intro; refine ⟨fun _ => ?_, hK _ ?_⟩; (first | fail); clear hK K)))
      refine mix_special (CellPtr (.int .i64 ((distE N ri).getD i 0))) 22 rfl rfl (stable_cellPtr _) (owes_index_res (base := wr.heap.size) rfl (by simp) rfl (by simp) hil hrun) ?_
      refine mix_exact (.int .i64 ((distE N ri).getD i 0)) rfl (exact_load_ptr rfl (by simp) Try.underlying3 rfl) ?_
      refine mix_special (RowAt wr.heap.size 3 1 #[.int .i64 ((distE N ri).getD i 0)]) 24 rfl rfl (stable_row _ _ _ _) (owes_buildSlice (cells := #[.int .i64 ((distE N ri).getD i 0)]) rfl (by simp) Try.underlying35 (sz := 1) (z := .int .i64 0) (by kernel_rfl) (by decide) (by decide) (by kernel_rfl)) ?_
      refine mix_nil ?_
      rintro ⟨dq, osq⟩
      have hb6 := below_regrown wr dq osq
      rintro u20 - u22 - u24 ⟨b24, rfl, hB24, hR24⟩
      have R24 := Lib.hid hR24
      replace HO := Lib.hid (ownsLater18 HO.out hb6)
      replace hbr := hbr.trans (hb6.mono hgw)
      have hs6 : w2.heap.size ≤ (grow (redrawn wr dq) osq).heap.size := Nat.le_trans hgw hb6.size
      rw [HDR.out] at *
      clear hR24 hB24 hb6 hgw HCD f0 R0' hrun hil
      generalize grow (redrawn wr dq) osq = w6 at *
      generalize D.getD i 0 = di at *
      refine (show wpList _ _ _ _ _ _ from ?_)
      simp only [List.drop, Act.put, List.setIfInBounds_toArray, List.set]
      go_wp2_with (at_builtin; refine wpList_append_own _ rfl (.tmp 14) (.tmp 24) 35 rfl (w2.heap.size) 3 ti tz 1 8 Try.underlying35 HTI.out HTZ.out hz1 hz2 hz3 (by decide) _ i _ rfl HO.out ⟨b24, 0, none⟩ 1 1 [.int .i64 di] rfl ?c0 ?c1 ?c2 ?c3 ?c4 ?c5 ?_)
      (try case c0 => rfl)
      (try case c1 =>
        intro j u hj
        first
          | exact hj
          | (rw [addr_add, R24.out.cell j, ← Array.getElem?_toList]; exact hj)
          | (rw [R24.out.cell j, ← Array.getElem?_toList]; exact hj))
      (try case c2 => first | rfl | (intro u hu; simp at hu; rw [hu]; rfl))
      (try case c3 => simp [maxLen]; omega)
      (try case c4 => omega)
      (try case c5 => exact hs6)
      intro v' w7 ho7 hg7 _
      have hF7 : RowsFrom w7 w2.heap.size 3 1 encI v' (D.take (i + 1)) := by
        rw [HNX.out]
        refine rowsFrom_app ?_
        rw [HEL.out]
        exact ho7
      have hgl : Below w2.heap.size w6 w7 := (Below.refl _ w6).grown hg7 hs6 (fun k e1 => (HO.out.lt k e1).1)
      replace hbr := hbr.trans hgl
      have HF7 := Lib.hid hF7
      clear ho7 hg7 hgl HO hF7 R24
      go_wp2_with fail
      exact ⟨⟨i + 1, by omega, by go_num, HF7, hbr⟩, by simp [intOf]; omega⟩
    · obtain rfl : i = N.ids.length := by omega
      have hbe := HEND.out wr hbr
      obtain ⟨ao, cap, e3, hra⟩ := HF.out.at (fun z : Int => (rfl : (encI z).length = 1))
      rw [List.length_take, HDL.out, Nat.min_self] at e3
      rw [show D.take N.ids.length = D by rw [← HDL.out, List.take_length]] at hra
      have HRA := Lib.hid (encI_at hra)
      subst e3
      clear hra
      go_wp2_with fail
      go_ret
      exact ⟨⟨ao, cap, rfl, HRA.out⟩, hbe⟩
end Go.Proofs.Ytcmokhpnooldgaa
