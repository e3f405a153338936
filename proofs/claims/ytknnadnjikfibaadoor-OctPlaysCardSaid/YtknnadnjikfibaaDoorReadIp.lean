/- oct.ReadIp. By an AI agent. -/
import Derived.Test.YtknnadnjikfibaaDoorReadNum
import Derived.Sort.CutIn
namespace Go.Proofs.YtknnadnjikfibaaDoor
open Go.RowKit Go.Shelf Go.Sort
attribute [local go_sem] Oper.semAt_some

theorem infoIp : (Tryd.prog.info? 28).map (·.size) = some 4 := by kernel_rfl
theorem zerosIp : bytesV 4 [] = #[.int .u8 0, .int .u8 0, .int .u8 0, .int .u8 0] := rfl

/-- an address is told, or that there is none -/
def IpAns (s : ByteArray) (e : Ending) : Prop := (∃ vals, Oct.Reads 46 Oct.numP 4 s vals ∧ e = .returned (.tuple #[.agg (bytesV 4 vals), .int .i64 0])) ∨ ((∀ vals, ¬ Oct.Reads 46 Oct.numP 4 s vals) ∧ e = .returned (.tuple #[.agg (bytesV 4 []), .int .i64 3]))

set_option maxRecDepth 100000 in
set_option maxHeartbeats 8000000 in
theorem readIp_in (s : ByteArray) (hsz : s.size ≤ 100000) (w : World) : CallsIn Fence.wide 8 Tryd.prog 8 #[.string s] w fun e w' => IpAns s e ∧ Below w.heap.size w w' := by
  refine callsIn_of_wp_marks Tryd.func8 rfl trivial ?_ rfl
  simp only [Tryd.ntmps8, List.size_toArray, List.length_cons, List.length_nil, Nat.reduceAdd, Nat.reduceSub, Array.replicate_succ, Array.replicate_zero, List.push_toArray, List.append_toArray, List.nil_append, List.cons_append]
  gi_wp2_with (refine ⟨trivial, ?_⟩; gi_at_call 23; refine (callsIn_wide.2 (splitSeq_one _ _ _)).mono ?_; rintro e w' ⟨rfl, rfl⟩)
  have hz : w.heap.size + 1 + 1 + 1 + 1 = w.heap.size + 4 := by omega
  have hW : ∃ W0, (((((((w.alloc (.cells #[.int .u8 0, .int .u8 0, .int .u8 0, .int .u8 0] 28)).alloc (.cells #[.int .i64 0] 25)).alloc (.cells #[.int .u8 0, .int .u8 0, .int .u8 0, .int .u8 0] 28)).alloc (.cells #[.int .i64 0] 3)).alloc (.cells #[.string s] 9)).alloc (.cells #[.string ⟨#[46]⟩] 9)).alloc (.cells #[.int .i64 0] 3)) = W0 := ⟨_, rfl⟩
  obtain ⟨W0, hW⟩ := hW
  have hR0 : RdAt W0 w.heap.size 28 25 (bytesV 4 []) 0 (bytesV 4 []) 0 := by
    rw [zerosIp, ← hW]
    refine ⟨?_, ?_, ?_, ?_⟩
    · exact ((((((rowIs_new w _ _).alloc _).alloc _).alloc _).alloc _).alloc _).alloc _
    · have := (((((Boxed.new (w.alloc (.cells #[.int .u8 0, .int .u8 0, .int .u8 0, .int .u8 0] 28)) 25 (.int .i64 0)).alloc (.cells #[.int .u8 0, .int .u8 0, .int .u8 0, .int .u8 0] 28)).alloc (.cells #[.int .i64 0] 3)).alloc (.cells #[.string s] 9)).alloc (.cells #[.string ⟨#[46]⟩] 9)).alloc (.cells #[.int .i64 0] 3)
      simpa only [World.size_alloc, Nat.add_assoc, Nat.reduceAdd] using this
    · have := ((((rowIs_new ((w.alloc (.cells #[.int .u8 0, .int .u8 0, .int .u8 0, .int .u8 0] 28)).alloc (.cells #[.int .i64 0] 25)) 28 #[.int .u8 0, .int .u8 0, .int .u8 0, .int .u8 0]).alloc (.cells #[.int .i64 0] 3)).alloc (.cells #[.string s] 9)).alloc (.cells #[.string ⟨#[46]⟩] 9)).alloc (.cells #[.int .i64 0] 3)
      simpa only [World.size_alloc, Nat.add_assoc, Nat.reduceAdd] using this
    · show Boxed _ _ _ (.int .i64 0)
      have := (((Boxed.new (((w.alloc (.cells #[.int .u8 0, .int .u8 0, .int .u8 0, .int .u8 0] 28)).alloc (.cells #[.int .i64 0] 25)).alloc (.cells #[.int .u8 0, .int .u8 0, .int .u8 0, .int .u8 0] 28)) 3 (.int .i64 0)).alloc (.cells #[.string s] 9)).alloc (.cells #[.string ⟨#[46]⟩] 9)).alloc (.cells #[.int .i64 0] 3)
      simpa only [World.size_alloc, Nat.add_assoc, Nat.reduceAdd] using this
  have hB0 : Boxed W0 (w.heap.size + 4) 9 (.string s) := by
    rw [← hW]
    have := ((Boxed.new ((((w.alloc (.cells #[.int .u8 0, .int .u8 0, .int .u8 0, .int .u8 0] 28)).alloc (.cells #[.int .i64 0] 25)).alloc (.cells #[.int .u8 0, .int .u8 0, .int .u8 0, .int .u8 0] 28)).alloc (.cells #[.int .i64 0] 3)) 9 (.string s)).alloc (.cells #[.string ⟨#[46]⟩] 9)).alloc (.cells #[.int .i64 0] 3)
    simpa only [World.size_alloc, Nat.add_assoc, Nat.reduceAdd] using this
  have hB1 : Boxed W0 (w.heap.size + 4 + 1) 9 (.string ⟨#[46]⟩) := by
    rw [← hW]
    have := (Boxed.new (((((w.alloc (.cells #[.int .u8 0, .int .u8 0, .int .u8 0, .int .u8 0] 28)).alloc (.cells #[.int .i64 0] 25)).alloc (.cells #[.int .u8 0, .int .u8 0, .int .u8 0, .int .u8 0] 28)).alloc (.cells #[.int .i64 0] 3)).alloc (.cells #[.string s] 9)) 9 (.string ⟨#[46]⟩)).alloc (.cells #[.int .i64 0] 3)
    simpa only [World.size_alloc, Nat.add_assoc, Nat.reduceAdd] using this
  have hB2 : Boxed W0 (w.heap.size + 4 + 2) 3 (.int .i64 0) := by
    rw [← hW]
    have := Boxed.new ((((((w.alloc (.cells #[.int .u8 0, .int .u8 0, .int .u8 0, .int .u8 0] 28)).alloc (.cells #[.int .i64 0] 25)).alloc (.cells #[.int .u8 0, .int .u8 0, .int .u8 0, .int .u8 0] 28)).alloc (.cells #[.int .i64 0] 3)).alloc (.cells #[.string s] 9)).alloc (.cells #[.string ⟨#[46]⟩] 9)) 3 (.int .i64 0)
    simpa only [World.size_alloc, Nat.add_assoc, Nat.reduceAdd] using this
  have hbel : Below w.heap.size w W0 := by
    rw [← hW]
    exact (((((((Below.refl _ _).alloc (Nat.le_refl _) _).alloc (by simp) _).alloc (by simp; omega) _).alloc (by simp; omega) _).alloc (by simp; omega) _).alloc (by simp; omega) _).alloc (by simp; omega) _
  have hsz0 : W0.heap.size = w.heap.size + 7 := by rw [← hW]; simp
  rw [hW]
  clear hW
  rw [hz, show w.heap.size + 1 + 1 + 1 = w.heap.size + 3 by omega, show w.heap.size + 1 + 1 = w.heap.size + 2 by omega]
  clear hz
  have hHw : w.heap.size ≤ w.heap.size := Nat.le_refl _
  generalize hH : w.heap.size = H at *
  refine wpIn_rangeFunc_ownZ (F := Fence.wide) rfl (by decide) (gf := 35) (lb := #[.pointer (some ⟨H + 4 + 1, 0, none⟩), .pointer (some ⟨H + 4, 0, none⟩), .pointer (some ⟨H + 4 + 2, 0, none⟩)]) rfl trivial (enters_of Tryd.func35 (by kernel_rfl) rfl)
    (split_stops 7 (by decide) (H + 4) 46 s hsz W0 hB0 hB1 hB2) (by omega) (fun h k => h.trans k) (fun W l o hl => Three.put (N := H + 7) (by omega) W l o (by omega)) (fun _ => rfl)
    (fun pre W => ∃ vals, Oct.reads Oct.numP pre vals ∧ vals.length ≤ 4 ∧ RdAt W H 28 25 (bytesV 4 []) 0 (bytesV 4 vals) vals.length ∧ Below H w W ∧ H + 7 ≤ W.heap.size)
    (fun c pre W => c = .ret ∧ (∀ vals, Oct.reads Oct.numP pre vals → 4 < vals.length) ∧ RowIs W H 28 (bytesV 4 []) ∧ Boxed W (H + 1) 25 (.int .i64 3) ∧ Below H w W)
    ?hI ?hIx ?hIZ ?hIxZ ⟨[], Oct.reads_nil _, Nat.zero_le _, hR0, hbel, by omega⟩
    (fun x => { tmps := #[.string s, undef, .pointer (some ⟨H, 0, none⟩), .pointer (some ⟨H + 1, 0, none⟩), .pointer (some ⟨H + 2, 0, none⟩), .pointer (some ⟨H + 3, 0, none⟩), .string x, undef, undef, .string s, .func (.func 35) #[] #[.pointer (some ⟨H + 5, 0, none⟩), .pointer (some ⟨H + 4, 0, none⟩), .pointer (some ⟨H + 6, 0, none⟩)], .string x, undef, undef, undef, undef, undef, undef, undef, undef, undef, undef, undef, undef, undef, undef, undef, undef, undef, undef, undef, undef, undef], defers := [] }) ?assign ?body ?done ?stop
  case hI =>
    rintro pre A B row ⟨vals, h1, h2, h3, h4, h5⟩ hg hr
    exact ⟨vals, h1, h2, h3.turned hg (fun r e => by have := (hr r e).1; omega), below_turned h4 (by omega) hg (fun r e => by have := (hr r e).1; omega), Nat.le_trans h5 hg.size⟩
  case hIx =>
    rintro c pre A B row ⟨h1, h2, h3, h4, h5⟩ hg hr
    exact ⟨h1, h2, h3.turned hg (fun r e => by have := (hr r e).1; omega), RowIs.turned h4 hg (fun r e => by have := (hr r e).1; omega), below_turned h5 (by omega) hg (fun r e => by have := (hr r e).1; omega)⟩
  case hIZ =>
    rintro pre A B row ⟨vals, h1, h2, h3, h4, h5⟩ hg hr
    exact ⟨vals, h1, h2, h3.turned hg (fun r e => .inl (hr r e)), below_turned h4 (by omega) hg (fun r e => by have := hr r e; omega), Nat.le_trans h5 hg.size⟩
  case hIxZ =>
    rintro c pre A B row ⟨h1, h2, h3, h4, h5⟩ hg hr
    exact ⟨h1, h2, h3.turned hg (fun r e => by have := hr r e; omega), RowIs.turned h4 hg (fun r e => by have := hr r e; omega), below_turned h5 (by omega) hg (fun r e => by have := hr r e; omega)⟩
  case assign =>
    intro l x W K hK
    gi_wp2
    exact hK
  case body =>
    rintro l pre x W ⟨vals, hv, h6, hR, hBo, hW7⟩
    have HNU := Lib.hid (readNumber_any x W)
    gi_wp2_with fail
    refine ⟨trivial, (CallsIn.inRound l (callsIn_wide.2 HNU.out)).mono ?_⟩
    rintro e W3 ⟨⟨v, bb, rfl, hans⟩, b3⟩
    have hR3 := hR.below b3
    have hB := hBo.trans (b3.mono (by omega))
    have hk3 : ∀ B, KeepsFrom B W W3 := fun _ => keepsFrom_below b3
    have h73 : Three (H + 4) W W3 := Three.below (N := W.heap.size) (by omega) b3
    have hW73 := Nat.le_trans hW7 b3.size
    clear hR hBo HNU
    have hZ := hR3.res
    have hE := hR3.err
    have hA := hR3.arr
    have hC := hR3.cnt
    have cC := hC.cell
    have fC := hC.frozen
    by_cases hk : vals.length = 4
    · have d1 : ((vals.length : Int) == 4) = true := by rw [hk]; rfl
      clear hans
      gi_wp2_with ((with_reducible refine ri_at_store 28 (.tmp 2) (.tmp 23) ?_); refine wpListIn_store_rowR rfl 28 (.tmp 2) (.tmp 23) rfl H _ rfl rfl 28 _ hZ infoIp rfl (by kernel_rfl) H (Nat.le_refl _) ?_; intro w2 r2 o2 s2 b2; have e2 : Boxed w2 (H + 1) 25 (.int .i64 0) := (o2 _ (by omega)).trans hE; have ce := e2.cell; have fe := e2.frozen)
      exact ⟨(hk3 _).trans ((keepsFrom_block (g := H) (by omega) s2 o2).trans ((KeepsOthers.setCell _ _ _).from _)), rfl, fun vals' h => by have h1 := Oct.reads_len h; have h2 := Oct.reads_len hv; simp at h1; omega, r2.setOther (by omega) _ _, e2.set _, (hB.trans b2).setCell (p := ⟨H + 1, 0, none⟩) (by show H ≤ H + 1; omega) _⟩
    have d1 : ((vals.length : Int) == 4) = false := by rw [beq_eq_false_iff_ne]; omega
    rcases hans with ⟨rfl, n, rfl, hval⟩ | ⟨rfl, hbad⟩
    · have cA : W3.cell? ⟨H + 2, vals.length, none⟩ = some (.int .u8 0) := by rw [hA.cell]; exact bytesV_at 4 vals (by omega)
      have fA := hA.free vals.length
      have hk6 : vals.length < 4 := by omega
      clear hE hZ
      gi_wp2_with fail
      have e2 : (((vals ++ [n]).length : Nat) : Int) = (vals.length : Int) + 1 := by simp
      have hA2 := hA.setOne vals.length (.int .u8 (n : Int))
      rw [bytesV_put] at hA2
      have hC2 : Boxed (W3.setCell ⟨H + 2, vals.length, none⟩ (.int .u8 (n : Int))) (H + 3) 3 (.int .i64 (vals.length : Int)) := RowIs.setOther hC (by omega) _ _
      exact ⟨(hk3 _).trans (((KeepsOthers.setCell _ _ _).trans (KeepsOthers.setCell _ _ _)).from _), (h73.trans (Three.setCell (by omega) _ _ _)).trans (Three.setCell (by omega) _ _ _), vals ++ [n], Oct.reads_snoc hv hval, by simp; omega, ⟨(hR3.res.setOther (by omega) _ _).setOther (by omega) _ _, RowIs.setOther (RowIs.setOther hR3.err (by omega) _ _) (by omega) _ _, hA2.setOther (by omega) _ _, by rw [e2]; exact hC2.set _⟩, (hB.setCell (p := ⟨H + 2, vals.length, none⟩) (by show H ≤ H + 2; omega) _).setCell (p := ⟨H + 3, 0, none⟩) (by show H ≤ H + 3; omega) _, by simpa using hW73⟩
    · gi_wp2_with ((with_reducible refine ri_at_store 28 (.tmp 2) (.tmp 23) ?_); refine wpListIn_store_rowR rfl 28 (.tmp 2) (.tmp 23) rfl H _ rfl rfl 28 _ hZ infoIp rfl (by kernel_rfl) H (Nat.le_refl _) ?_; intro w2 r2 o2 s2 b2; have e2 : Boxed w2 (H + 1) 25 (.int .i64 0) := (o2 _ (by omega)).trans hE; have ce := e2.cell; have fe := e2.frozen)
      exact ⟨(hk3 _).trans ((keepsFrom_block (g := H) (by omega) s2 o2).trans ((KeepsOthers.setCell _ _ _).from _)), rfl, fun vals' h => absurd h (Oct.reads_bad hbad), r2.setOther (by omega) _ _, e2.set _, (hB.trans b2).setCell (p := ⟨H + 1, 0, none⟩) (by show H ≤ H + 1; omega) _⟩
  case done =>
    rintro D xs W hD rfl ⟨vals, hv, h6, hR, hB, hW7⟩ hK
    have hZ := hR.res
    have hE := hR.err
    have hA := hR.arr
    have cC := hR.cnt.cell
    by_cases hk : vals.length = 4
    · have d1 : ((vals.length : Int) == 4) = true := by rw [hk]; rfl
      gi_wp2_with (first | ((with_reducible refine ri_at_load 28 (.tmp 4) ?_); refine wpListIn_load_rowR rfl 28 (.tmp 4) rfl (H + 2) rfl 28 _ _ hA Tryd.underlying28 rfl infoIp ?_) | ((with_reducible refine ri_at_store 28 (.tmp 2) (.tmp 32) ?_); refine wpListIn_store_rowR rfl 28 (.tmp 2) (.tmp 32) rfl H _ rfl rfl 28 _ hZ infoIp rfl (by kernel_rfl) H (Nat.le_refl _) ?_; intro w2 r2 o2 s2 b2; have e2 : Boxed w2 (H + 1) 25 (.int .i64 0) := (o2 _ (by omega)).trans hE; have ce := e2.cell; have fe := e2.frozen))
      have hK3 : (w2.setCell ⟨H + 1, 0, none⟩ (.int .i64 0)).heap[D]? = some (.deferred (some [])) := (KeepsOthers.setCell w2 ⟨H + 1, 0, none⟩ (.int .i64 0)).same D _ ((o2 D (by omega)).trans hK) rfl
      refine ⟨by simp, .inl ⟨_, _, rfl, run_takeDeferred hK3, ?_⟩⟩
      refine ⟨_, results_rows rfl _ _ H (H + 1) 28 25 (bytesV 4 vals) (.int .i64 0) _ rfl ((r2.setOther (by omega) _ _).hidden hK3) Tryd.underlying28 rfl infoIp rfl (RowIs.hidden (e2.set _) hK3) Tryd.underlying25 (by kernel_rfl), .inl ⟨vals, ⟨hk, hv⟩, rfl⟩, ?_⟩
      rw [hH]
      exact ((hB.trans b2).setCell (p := ⟨H + 1, 0, none⟩) (by show H ≤ H + 1; omega) _).trans (belowK_b (w := W0) (by omega) _ D _ _ (by omega) hK3 rfl rfl)
    · have d1 : ((vals.length : Int) == 4) = false := by rw [beq_eq_false_iff_ne]; omega
      have hno : ∀ vals', ¬ Oct.Reads 46 Oct.numP 4 s vals' := fun vals' h => by
        have h1 := Oct.reads_len h.2
        have h2 := Oct.reads_len hv
        have h3 := h.1
        omega
      gi_wp2_with ((with_reducible refine ri_at_store 28 (.tmp 2) (.tmp 31) ?_); refine wpListIn_store_rowR rfl 28 (.tmp 2) (.tmp 31) rfl H _ rfl rfl 28 _ hZ infoIp rfl (by kernel_rfl) H (Nat.le_refl _) ?_; intro w2 r2 o2 s2 b2; have e2 : Boxed w2 (H + 1) 25 (.int .i64 0) := (o2 _ (by omega)).trans hE; have ce := e2.cell; have fe := e2.frozen)
      have hK3 : (w2.setCell ⟨H + 1, 0, none⟩ (.int .i64 3)).heap[D]? = some (.deferred (some [])) := (KeepsOthers.setCell w2 ⟨H + 1, 0, none⟩ (.int .i64 3)).same D _ ((o2 D (by omega)).trans hK) rfl
      refine ⟨by simp, .inl ⟨_, _, rfl, run_takeDeferred hK3, ?_⟩⟩
      refine ⟨_, results_rows rfl _ _ H (H + 1) 28 25 (bytesV 4 []) (.int .i64 3) _ rfl ((r2.setOther (by omega) _ _).hidden hK3) Tryd.underlying28 rfl infoIp rfl (RowIs.hidden (e2.set _) hK3) Tryd.underlying25 (by kernel_rfl), .inr ⟨hno, rfl⟩, ?_⟩
      rw [hH]
      exact ((hB.trans b2).setCell (p := ⟨H + 1, 0, none⟩) (by show H ≤ H + 1; omega) _).trans (belowK_b (w := W0) (by omega) _ D _ _ (by omega) hK3 rfl rfl)
  case stop =>
    rintro D c pre W hD hpre ⟨rfl, hno, hZ, hE, hB⟩ hK
    gi_wp2
    refine ⟨by simp, .inl ⟨_, _, rfl, run_takeDeferred hK, ?_⟩⟩
    refine ⟨_, results_rows rfl _ _ H (H + 1) 28 25 (bytesV 4 []) (.int .i64 3) _ rfl (hZ.hidden hK) Tryd.underlying28 rfl infoIp rfl (RowIs.hidden hE hK) Tryd.underlying25 (by kernel_rfl), .inr ⟨fun vals h => ?_, rfl⟩, ?_⟩
    · obtain ⟨vs, h1, h2⟩ := Oct.reads_pre h.2 hpre
      have := hno vs h1
      have := h.1
      omega
    · rw [hH]
      exact hB.trans (belowK_b (w := W0) (by omega) _ D _ _ (by omega) hK rfl rfl)

theorem readIp_any (s : ByteArray) (hsz : s.size ≤ 100000) (w : World) : Calls Tryd.prog 8 #[.string s] w fun e w' => IpAns s e ∧ Below w.heap.size w w' := callsIn_wide.1 (readIp_in s hsz w)
end Go.Proofs.YtknnadnjikfibaaDoor
