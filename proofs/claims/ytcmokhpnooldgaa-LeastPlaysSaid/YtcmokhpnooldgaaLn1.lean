/- Of: a net, as the program has it. By an AI agent. -/
import Derived.Test.YtcmokhpnooldgaaLn0
import Derived.Test.YtcmokhpnooldgaaGrowApp
import Derived.Laws.AppendOwn
import Derived.Laws.AppendOwnNone
namespace Go.Proofs.Ytcmokhpnooldgaa
open Go.RowKit Go.WideShapes Go.Sort Grow

theorem ownsLater18 {w w' : World} {base : Nat} {e : TypeId} {size : Nat} {v : Value} {n : Nat} {xs : List Value} (h : w.ownsRow base e size v n xs) (hb : Below w.heap.size w w') : w'.ownsRow base e size v n xs := by
  refine ⟨h.1, ?_⟩
  rcases h.2 with h2 | ⟨g', cap', cur, a1, a2, a3, a4⟩
  · exact .inl h2
  · exact .inr ⟨g', cap', cur, a1, a2, (hb.block _ (Array.getElem?_eq_some_iff.1 a3).1).trans a3, a4⟩
theorem owns_same {w w' : World} {base : Nat} {e : TypeId} {size : Nat} {v : Value} {n : Nat} {xs : List Value} (h : w.ownsRow base e size v n xs) (ho : ∀ m, base ≤ m → w'.heap[m]? = w.heap[m]?) : w'.ownsRow base e size v n xs := by
  refine ⟨h.1, ?_⟩
  rcases h.2 with h2 | ⟨g', cap', cur, a1, a2, a3, a4⟩
  · exact .inl h2
  · exact .inr ⟨g', cap', cur, a1, a2, (ho _ a2).trans a3, a4⟩
/-- these have been appended, in memory of one's own -/
def RowsFrom {α : Type} (w : World) (base : Nat) (e : TypeId) (k : Nat) (enc : α → List Value) (v : Value) (vs : List α) : Prop := ∃ la lc, v = .slice la vs.length lc ∧ w.ownsRow base e k (.slice la vs.length lc) vs.length (vs.flatMap enc)
section
variable {α : Type} {w w' : World} {base : Nat} {e : TypeId} {k : Nat} {enc : α → List Value} {v : Value} {vs : List α}
theorem rowsFrom_nil : RowsFrom w base e k enc (.slice none 0 0) [] := ⟨none, 0, rfl, World.ownsRow_nil _ _ _ _⟩
theorem RowsFrom.later (h : RowsFrom w base e k enc v vs) (hb : Below w.heap.size w w') : RowsFrom w' base e k enc v vs := by
  obtain ⟨la, lc, e, h⟩ := h
  exact ⟨la, lc, e, ownsLater18 h hb⟩
theorem RowsFrom.same (h : RowsFrom w base e k enc v vs) (ho : ∀ m, base ≤ m → w'.heap[m]? = w.heap[m]?) : RowsFrom w' base e k enc v vs := by
  obtain ⟨la, lc, e, h⟩ := h
  exact ⟨la, lc, e, owns_same h ho⟩
theorem RowsFrom.kept (h : RowsFrom w base e k enc v vs) {e' : TypeId} {k' : Nat} {v' : Value} {n' : Nat} {xs' : List Value} (h' : w.ownsRow base e' k' v' n' xs') (hne : e ≠ e') (hg : w.grownBy w' v'.ownBlock) : RowsFrom w' base e k enc v vs := by
  obtain ⟨la, lc, e1, h⟩ := h
  refine ⟨la, lc, e1, h.1, ?_⟩
  rcases h.2 with h2 | ⟨g1, cap1, cur, a1, a2, a3, a4⟩
  · exact .inl h2
  · refine .inr ⟨g1, cap1, cur, a1, a2, ?_, a4⟩
    rw [hg.block g1 (Array.getElem?_eq_some_iff.1 a3).1 (fun e2 => ?_), a3]
    rcases h'.2 with ⟨rfl, _⟩ | ⟨g2, cap2, cur2, rfl, b2, b3, b4⟩
    · cases e2
    · simp only [Value.ownBlock, Option.some.injEq] at e2
      subst e2
      rw [a3] at b3
      simp only [Option.some.injEq, Obj.cells.injEq] at b3
      exact hne b3.2.1
theorem rowsFrom_app {x : α} (h : w.ownsRow base e k v (vs.length + 1) (vs.flatMap enc ++ enc x)) : RowsFrom w base e k enc v (vs ++ [x]) := by
  obtain ⟨la, lc, rfl⟩ : ∃ la lc, v = .slice la (vs.length + 1) lc := by
    rcases h.2 with ⟨_, e0⟩ | ⟨g', c', _, e', _⟩
    · omega
    · exact ⟨_, _, e'⟩
  refine ⟨la, lc, by simp, ?_⟩
  rw [List.flatMap_append, List.length_append]
  simpa using h
theorem flat_get18 {enc : α → List Value} {k : Nat} (hk : ∀ a, (enc a).length = k) : ∀ (ds : List α) (i j : Nat) (hi : i < ds.length), j < k → (ds.flatMap enc)[i * k + j]? = (enc ds[i])[j]?
  | [], i, j, hi, _ => absurd hi (Nat.not_lt_zero _)
  | d :: ds, 0, j, _, hj => by
    rw [List.flatMap_cons, Nat.zero_mul, Nat.zero_add, List.getElem?_append_left (by rw [hk]; exact hj)]
    rfl
  | d :: ds, i + 1, j, hi, hj => by
    have e : (i + 1) * k + j = (enc d).length + (i * k + j) := by rw [hk, Nat.succ_mul]; omega
    rw [List.flatMap_cons, e, List.getElem?_append_right (by omega), Nat.add_sub_cancel_left, flat_get18 hk ds i j (by simpa using hi) hj]
    rfl
theorem RowsFrom.at (hk : ∀ a, (enc a).length = k) (h : RowsFrom w base e k enc v vs) : ∃ ao cap, v = .slice ao vs.length cap ∧ RowsAt w ao enc k vs := by
  obtain ⟨la, lc, rfl, h⟩ := h
  refine ⟨la, lc, rfl, ?_⟩
  rcases h.2 with ⟨_, e0⟩ | ⟨g, c', cur, e1, hB', hgr, hle, hm, hcs, ht⟩
  · exact .inl (List.eq_nil_of_length_eq_zero e0)
  · simp only [Value.slice.injEq] at e1
    refine .inr ⟨g, 0, e1.1, (Array.getElem?_eq_some_iff.1 hgr).1, fun i hi j v hj => ?_⟩
    have hj25 : j < k := by
      have := (List.getElem?_eq_some_iff.1 hj).1
      rwa [hk] at this
    have hR : RowIs w g e cur := hgr
    rw [Nat.zero_add, hR.cell]
    have h1 := flat_get18 (enc := enc) hk vs i j hi hj25
    have hlt : i * k + j < vs.length * k := by
      have := Nat.mul_le_mul_right k (show i + 1 ≤ vs.length from hi)
      rw [Nat.succ_mul] at this
      omega
    rw [hj, ← ht, List.getElem?_take_of_lt hlt, Array.getElem?_toList] at h1
    exact h1
theorem RowsFrom.at2 (hk : ∀ a, (enc a).length = k) {ao : Option Addr} {n cap : Nat} (h : RowsFrom w base e k enc (.slice ao n cap) vs) : RowsAt w ao enc k vs := by
  obtain ⟨ao', cap', e', h'⟩ := h.at hk
  simp only [Value.slice.injEq] at e'
  rw [e'.1]
  exact h'
end

theorem wpList_load_mid18 {P : Program} {ops : Array Oper} {rest : List Oper} {op : Oper} {a : Act} {w : World} {Q : Exit → Act → World → Prop} (hgd : Region.wanted op (yielded ops a.tmps) = true) (ty : TypeId) (x : Operand) (ho : op.op = .load ty x)
    (b o : Nat) (hx : a.eval x = .pointer (some ⟨b, o, none⟩)) (cs : List Value) (d : TypeDesc) (hc : w.rangeAt b o cs)
    (hu : P.underlying ty = some d) (hd : d.isRow = true) (hi : (P.info? ty).map (·.size) = some cs.length)
    (h : wpList P ops Q rest (a.put op.dst (.agg cs.toArray)) w) : wpList P ops Q (op :: rest) a w :=
  BigFrame.wpList_want hgd fun _ hK => wp_load_mid ty x ho b o hx cs d hc hu hd hi (hK _ _ h)

theorem NetAt.idr {w : World} {v : NV} {N : LN} (h : NetAt w v N) {i : Nat} (hi : i < N.ids.length) : ∃ b off, v.ai = some ⟨b, off, none⟩ ∧ b < w.heap.size ∧ w.rangeAt b (off + i * 8) (Id8.vals (N.id i)) := by
  rcases h.ids with h0 | ⟨b, off, e, h1, h2⟩
  · rw [h0] at hi; cases hi
  · refine ⟨b, off, e, h1, fun j x hj => h2 i hi j x ?_⟩
    unfold LN.id at hj
    rwa [List.getD, List.getElem?_eq_getElem hi] at hj
theorem NetAt.lkr {w : World} {v : NV} {N : LN} (h : NetAt w v N) {i : Nat} (hi : i < N.links.length) : ∃ b off, v.al = some ⟨b, off, none⟩ ∧ b < w.heap.size ∧ w.rangeAt b (off + i * 4) (Lk.vals (N.lk i)) := by
  rcases h.links with h0 | ⟨b, off, e, h1, h2⟩
  · rw [h0] at hi; cases hi
  · refine ⟨b, off, e, h1, fun j x hj => h2 i hi j x ?_⟩
    unfold LN.lk at hj
    rwa [List.getD, List.getElem?_eq_getElem hi] at hj
theorem info_bid : ∃ i z, Try.prog.info? 61 = some i ∧ i.zero = some z ∧ i.size = 8 ∧ i.bytes = 8 ∧ z.cells.size = 8 := by
  have h : (Try.prog.info? 61).map (fun i => (i.zero.map (·.cells.size), i.size, i.bytes)) = some (some 8, 8, 8) := by kernel_rfl
  obtain ⟨i, hi, h⟩ := Option.map_eq_some_iff.1 h
  simp only [Prod.mk.injEq] at h
  obtain ⟨z, hz, h18⟩ := Option.map_eq_some_iff.1 h.1
  exact ⟨i, z, hi, hz, h.2.1, h.2.2, h18⟩
theorem info_ends : ∃ i z, Try.prog.info? 64 = some i ∧ i.zero = some z ∧ i.size = 4 ∧ i.bytes = 32 ∧ z.cells.size = 4 := by
  have h : (Try.prog.info? 64).map (fun i => (i.zero.map (·.cells.size), i.size, i.bytes)) = some (some 4, 4, 32) := by kernel_rfl
  obtain ⟨i, hi, h⟩ := Option.map_eq_some_iff.1 h
  simp only [Prod.mk.injEq] at h
  obtain ⟨z, hz, h18⟩ := Option.map_eq_some_iff.1 h.1
  exact ⟨i, z, hi, hz, h.2.1, h.2.2, h18⟩
theorem LN.ids_take {N : LN} {i : Nat} (h : i < N.ids.length) : N.ids.take (i + 1) = N.ids.take i ++ [N.id i] := by rw [List.take_succ_eq_append_getElem h]; unfold LN.id; rw [List.getD, List.getElem?_eq_getElem h]; rfl
theorem LN.lks_take {N : LN} {i : Nat} (h : i < N.links.length) : N.links.take (i + 1) = N.links.take i ++ [N.lk i] := by rw [List.take_succ_eq_append_getElem h]; unfold LN.lk; rw [List.getD, List.getElem?_eq_getElem h]; rfl

/-- Of has taken i identifiers, j links -/
structure OfAt (v : NV) (N : LN) (w wr : World) (i j : Nat) : Prop where
  box : RowIs wr w.heap.size 26 #[.slice v.ai N.ids.length v.ci, .slice v.ac N.costs.length v.cc, .slice v.al N.links.length v.cl]
  res : RowIs wr (w.heap.size + 1) 32 #[.slice none 0 0, .slice none 0 0, .slice none 0 0]
  out : ∃ v1 v2, RowIs wr (w.heap.size + 2) 32 #[v1, .slice v.ac N.costs.length v.cc, v2] ∧ RowsFrom wr (w.heap.size + 3) 61 8 Id8.vals v1 (N.ids.take i) ∧ RowsFrom wr (w.heap.size + 3) 64 4 Lk.vals v2 (N.links.take j)
  bel : Below w.heap.size w wr

set_option maxRecDepth 20000 in
set_option maxHeartbeats 4000000 in
theorem of18 (v : NV) (N : LN) (w : World) (h : NetAt w v N) (h1 : N.ids.length ≤ 1000) (h2 : N.links.length ≤ 1000) :
    Calls Try.prog 11 #[.agg #[.slice v.ai N.ids.length v.ci, .slice v.ac N.costs.length v.cc, .slice v.al N.links.length v.cl]] w
      fun e w' => ∃ v' : NV, e = .returned (.agg #[.slice v'.ai N.ids.length v'.ci, .slice v'.ac N.costs.length v'.cc, .slice v'.al N.links.length v'.cl]) ∧ NetAt w' v' N ∧ Below w.heap.size w w' := by
  have HN := Lib.hid h
  obtain ⟨ti, tz, hti, htz, hz1, hz2, hz3⟩ := info_bid
  obtain ⟨li, lz, hli, hlz, hy1, hy2, hy3⟩ := info_ends
  have HTI := Lib.hid hti
  have HTZ := Lib.hid htz
  have HLI := Lib.hid hli
  have HLZ := Lib.hid hlz
  clear h hti htz hli hlz
  go_enter Try.func11, Try.ntmps11
  go_upto_region 1 with fail
  generalize hW : (w.alloc _).alloc _ = w1
  have hbW : Below w.heap.size w w1 := by rw [← hW]; exact ((Below.refl _ _).alloc (Nat.le_refl _) _).alloc (by simp) _
  have R0 : Hid (RowIs w1 w.heap.size 26 #[.slice v.ai N.ids.length v.ci, .slice v.ac N.costs.length v.cc, .slice v.al N.links.length v.cl]) := by subst hW; exact (rowIs_new w _ _).alloc _
  have R1 : Hid (RowIs w1 (w.heap.size + 1) 32 #[.slice none 0 0, .slice none 0 0, .slice none 0 0]) := by subst hW; exact rowIs_new1 w _ _ _
  have hs1 : w1.heap.size = w.heap.size + 2 := by rw [← hW]; simp
  clear hW
  have c1 : w1.cell? ⟨w.heap.size, 1, none⟩ = some (.slice v.ac N.costs.length v.cc) := R0.out.cell 1
  go_upto_region 2 with fail
  have R2 := Lib.hid (rowIs_new w1 32 #[.slice none 0 0, .slice v.ac N.costs.length v.cc, .slice none 0 0])
  have hst : OfAt v N w (w1.alloc (.cells #[.slice none 0 0, .slice v.ac N.costs.length v.cc, .slice none 0 0] 32)) 0 0 := by
    have hR2 := R2.out
    rw [hs1] at hR2
    exact ⟨R0.out.alloc _, R1.out.alloc _, ⟨_, _, hR2, rowsFrom_nil, rowsFrom_nil⟩, hbW.alloc (by omega) _⟩
  have HST := Lib.hid hst
  clear hst R0 R1 R2 c1 hbW hs1
  generalize w1.alloc _ = w2 at *
  go_wp2_with fail
  go_loopw [4] (fun s4 wr => ∃ i : Nat, i ≤ N.ids.length ∧ s4 = .int .i64 i ∧ Hid (OfAt v N w wr i 0)) (fun s4 _ => N.ids.length - (intOf s4).toNat)
  case atStart => exact ⟨0, Nat.zero_le _, rfl, HST⟩
  case round =>
    clear HST w1 w2
    rename World => wr
    obtain ⟨i, hi, rfl, HX⟩ := hrel
    have c0 : wr.cell? ⟨w.heap.size, 0, none⟩ = some (.slice v.ai N.ids.length v.ci) := HX.out.box.cell 0
    by_cases hlt : i < N.ids.length
    · obtain ⟨b, off, eai, hbl, hrg⟩ := (HN.out.kept HX.out.bel).idr hlt
      have HRG := Lib.hid hrg
      have HTK := Lib.hid (LN.ids_take hlt)
      obtain ⟨v1, v2, hR2, hF1, hF2⟩ := HX.out.out
      obtain ⟨la, lc, rfl, hO⟩ := hF1
      have HEL : Hid ((N.ids.take i).length = i) := by show _ = _; simp; omega
      rw [HEL.out] at hR2 hO
      have HR2 := Lib.hid hR2
      have HO := Lib.hid hO
      have HF2 := Lib.hid hF2
      have HB := Lib.hid HX.out.box
      have HR1 := Lib.hid HX.out.res
      have hbr := HX.out.bel
      have hswr : w.heap.size + 3 ≤ wr.heap.size := HR2.out.lt
      generalize N.id i = x at *
      rw [eai] at c0
      clear eai
      have q0 := cell_regrown c0
      have q2 := cell_regrown (show wr.cell? ⟨w.heap.size + 2, 0, none⟩ = some (.slice la i lc) from HR2.out.cell 0)
      have hx0 : (0 : Int) ≤ (i : Int) := by omega
      have hx1 : (i : Int) < (N.ids.length : Int) := by omega
      clear hrg hR2 hO hF2 HX
      go_upto_region 4 with fail
      clear c0
      refine wp_region_mix 8 (by kernel_rfl) (by kernel_rfl) (by kernel_rfl) ?_
      (refine mix_step (by kernel_rfl) (by kernel_rfl) (fun K hK => ?_); go_simp; (try (simp only [↓IntWalk.iteOmega]; go_simp)); (first | (refine hK _ ?_; clear hK K) | (apply Exists.intro; refine ⟨fun _ => ?_, hK _ ?_⟩; (first | fail); clear hK K)))
      (refine mix_step (by kernel_rfl) (by kernel_rfl) (fun K hK => ?_); go_simp; (try (simp only [↓IntWalk.iteOmega]; go_simp)); (first | (refine hK _ ?_; clear hK K) | (apply Exists.intro; refine ⟨fun _ => ?_, hK _ ?_⟩; (first | fail); clear hK K)))
      (refine mix_step (by kernel_rfl) (by kernel_rfl) (fun K hK => ?_); go_simp; (try (simp only [↓IntWalk.iteOmega]; go_simp)); (first | (refine hK _ ?_; clear hK K) | (apply Exists.intro; refine ⟨fun _ => ?_, hK _ ?_⟩; (first | fail); clear hK K)))
      (refine mix_step (by kernel_rfl) (by kernel_rfl) (fun K hK => ?_); go_simp; (try (simp only [↓IntWalk.iteOmega]; go_simp)); (first | (refine hK _ ?_; clear hK K) | (apply Exists.intro; refine ⟨fun _ => ?_, hK _ ?_⟩; (first | fail); clear hK K)))
      (refine mix_step (by kernel_rfl) (by kernel_rfl) (fun K hK => ?_); go_simp; (try (simp only [↓IntWalk.iteOmega]; go_simp)); (first | (refine hK _ ?_; clear hK K) | (apply Exists.intro; refine ⟨fun _ => ?_, hK _ ?_⟩; (first | fail); clear hK K)))
      (refine mix_step (by kernel_rfl) (by kernel_rfl) (fun K hK => ?_); go_simp; (try (simp only [↓IntWalk.iteOmega]; go_simp)); (first | (refine hK _ ?_; clear hK K) | (apply Exists.intro; refine ⟨fun _ => ?_, hK _ ?_⟩; (first | fail); clear hK K)))
      refine mix_exact (.agg #[.int .u8 ((x.f 0).toNat : Int), .int .u8 ((x.f 1).toNat : Int), .int .u8 ((x.f 2).toNat : Int), .int .u8 ((x.f 3).toNat : Int), .int .u8 ((x.f 4).toNat : Int), .int .u8 ((x.f 5).toNat : Int), .int .u8 ((x.f 6).toNat : Int), .int .u8 ((x.f 7).toNat : Int)]) rfl (exact_load_range (sub := Id8.vals x) rfl rfl (by simp) HRG.out hbl Try.underlying44 rfl (by kernel_rfl)) ?_
      refine mix_special _ 24 rfl rfl (stable_row _ _ _ _) (owes_buildSlice (cells := #[.int .u8 ((x.f 0).toNat : Int), .int .u8 ((x.f 1).toNat : Int), .int .u8 ((x.f 2).toNat : Int), .int .u8 ((x.f 3).toNat : Int), .int .u8 ((x.f 4).toNat : Int), .int .u8 ((x.f 5).toNat : Int), .int .u8 ((x.f 6).toNat : Int), .int .u8 ((x.f 7).toNat : Int)]) rfl (by simp) Try.underlying29 (sz := 8) (z := .agg #[.int .u8 0, .int .u8 0, .int .u8 0, .int .u8 0, .int .u8 0, .int .u8 0, .int .u8 0, .int .u8 0]) (by kernel_rfl) (by decide) (by decide) (by kernel_rfl)) ?_
      refine mix_nil ?_
      rintro ⟨dq, osq⟩
      have hb6 := below_regrown wr dq osq
      rintro u24 ⟨b24, rfl, hB24, hR24⟩
      have R24 := Lib.hid hR24
      have HO := Lib.hid (ownsLater18 HO.out hb6)
      have HF2 := Lib.hid (HF2.out.later hb6)
      have HB := Lib.hid (HB.out.kept hb6)
      have HR1 := Lib.hid (HR1.out.kept hb6)
      have HR2 := Lib.hid (HR2.out.kept hb6)
      have hbr := hbr.trans (hb6.mono hbr.size)
      have hs6 : w.heap.size + 3 ≤ (grow (redrawn wr dq) osq).heap.size := Nat.le_trans hswr hb6.size
      clear hR24 q0 q2 hB24 hb6 hswr hbl
      generalize grow (redrawn wr dq) osq = w6 at *
      refine (show wpList _ _ _ _ _ _ from ?_)
      simp only [List.drop, Act.put, List.setIfInBounds_toArray, List.set]
      go_wp2_with (at_builtin; refine wpList_append_own _ rfl (.tmp 18) (.tmp 24) 29 rfl (w.heap.size + 3) 61 ti tz 8 8 Try.underlying29 HTI.out HTZ.out hz1 hz2 hz3 (by decide) _ i _ rfl HO.out ⟨b24, 0, none⟩ 1 1 (Id8.vals x) rfl ?c0 ?c1 ?c2 ?c3 ?c4 ?c5 ?_)
      case c0 => rfl
      case c1 =>
        intro j u hj
        first
          | exact hj
          | (rw [addr_add, R24.out.cell j, ← Array.getElem?_toList]; exact hj)
          | (rw [R24.out.cell j, ← Array.getElem?_toList]; exact hj)
      case c2 => intro u hu; simp [Id8.vals] at hu; rcases hu with rfl | rfl | rfl | rfl | rfl | rfl | rfl | rfl <;> rfl
      case c3 => simp [maxLen]; omega
      case c4 => omega
      (try case c5 => exact hs6)
      intro v' w7 ho7 hg7 _
      have ho7 : RowsFrom w7 (w.heap.size + 3) 61 8 Id8.vals v' (N.ids.take (i + 1)) := by
        rw [HTK.out]
        refine rowsFrom_app ?_
        rw [HEL.out]
        exact ho7
      have HO7 := Lib.hid ho7
      have hF27 := HF2.out.kept HO.out (by decide) hg7
      have HF27 := Lib.hid hF27
      have hbAP : Below (w.heap.size + 3) w6 w7 := (Below.refl _ w6).grown hg7 hs6 (fun k e1 => (HO.out.lt k e1).1)
      have HB := Lib.hid (HB.out.below hbAP (by omega))
      have HR1 := Lib.hid (HR1.out.below hbAP (by omega))
      have HR2 := Lib.hid (HR2.out.below hbAP (by omega))
      have hbr := hbr.trans (hbAP.mono (by omega))
      obtain ⟨la7, lc7, he7, -⟩ := ho7
      rw [show (N.ids.take (i + 1)).length = i + 1 by simp; omega] at he7
      subst he7
      clear hg7 hbAP HO hF27 HF2
      go_wp2_with ((with_reducible refine at_store 29 (.tmp 26) (.tmp 25) ?_); refine wpList_store_cell rfl 29 (.tmp 26) (.tmp 25) rfl (w.heap.size + 2) 0 _ rfl rfl 32 _ HR2.out (show 0 < 3 from by decide) (by kernel_rfl) rfl w.heap.size (by omega) ?_)
      intro w8 hR8 ho8 hs8 hb8
      have HST8 : Hid (OfAt v N w w8 (i + 1) 0) := ⟨rowIs_same HB.out (ho8 _ (by omega)), rowIs_same HR1.out (ho8 _ (by omega)), ⟨_, _, hR8, HO7.out.same (fun m hm => ho8 m (by omega)), HF27.out.same (fun m hm => ho8 m (by omega))⟩, hbr.trans hb8⟩
      clear hR8 ho8 hs8 hb8 HR2 HR1 HB HO7 HF27
      go_wp2_with fail
      exact ⟨⟨i + 1, by omega, by go_num, HST8⟩, by simp [intOf]; omega⟩
    · obtain rfl : i = N.ids.length := by omega
      go_wp2_with fail
      clear c0
      go_loopw [5, 6] (fun s5 _ wr => ∃ j : Nat, j ≤ N.links.length ∧ s5 = .int .i64 j ∧ Hid (OfAt v N w wr N.ids.length j)) (fun s5 _ _ => N.links.length - (intOf s5).toNat)
      case atStart => exact ⟨0, Nat.zero_le _, rfl, HX⟩
      case round =>
        clear HX hlt hi
        rename World => wr
        obtain ⟨j, hj, rfl, HX⟩ := hrel
        have c2 : wr.cell? ⟨w.heap.size, 2, none⟩ = some (.slice v.al N.links.length v.cl) := HX.out.box.cell 2
        by_cases hlt : j < N.links.length
        · obtain ⟨b, off, eal, hbl, hrg⟩ := (HN.out.kept HX.out.bel).lkr hlt
          have HRG := Lib.hid hrg
          have HTK := Lib.hid (LN.lks_take hlt)
          have HEL : Hid ((N.links.take j).length = j) := by show _ = _; simp; omega
          have hswr : w.heap.size + 3 ≤ wr.heap.size := by
            obtain ⟨_, _, h, _⟩ := HX.out.out
            exact h.lt
          generalize N.lk j = x at *
          rw [eal] at c2
          clear eal
          clear hrg
          have R6 := Lib.hid (rowIs_new wr 37 #[.int .i64 0, .int .i64 0, .int .i64 0, .int .i64 0])
          go_wp2_with (first
            | ((with_reducible refine at_load 37 (.tmp 37) ?_); refine wpList_load_mid18 rfl 37 (.tmp 37) rfl b (off + j * 4) rfl (Lk.vals x) _ HRG.out Try.underlying37 rfl (by kernel_rfl) ?_)
            | ((with_reducible refine at_store 37 (.tmp 6) (.tmp 38) ?_); refine wpList_store_own rfl 37 (.tmp 6) (.tmp 38) rfl wr.heap.size _ rfl rfl _ _ R6.out (by kernel_rfl) rfl (by simp [Lk.vals, Value.oneCell']) (w.heap.size + 3) hswr ?_))
          intro w4 hR4 ho4 hs4 hb4
          have hb4' : Below (w.heap.size + 3) wr w4 := ((Below.refl _ _).alloc hswr _).trans hb4
          have HR4 : Hid (RowIs w4 wr.heap.size 37 #[.int .i64 x.a, .int .i64 x.p, .int .i64 x.b, .int .i64 x.q]) := hR4
          have hbw4 : Below wr.heap.size wr w4 := ⟨hb4'.os, hb4'.tape, hb4'.output, hb4'.size, fun k hk => (ho4 k (by omega)).trans (((Below.refl wr.heap.size wr).alloc (Nat.le_refl _) _).block k hk)⟩
          obtain ⟨v1, v2, hR2, hF1, hF2⟩ := HX.out.out
          obtain ⟨la, lc, rfl, hO⟩ := hF2
          rw [HEL.out] at hR2 hO
          have HR2 := Lib.hid (hR2.below hb4' (by omega))
          have HO := Lib.hid (ownsLater18 hO hbw4)
          have HF1 := Lib.hid (hF1.later hbw4)
          have HB := Lib.hid (HX.out.box.below hb4' (by omega))
          have HR1 := Lib.hid (HX.out.res.below hb4' (by omega))
          have hbr := HX.out.bel.trans (hb4'.mono (by omega))
          have hswr4 : w.heap.size + 3 ≤ w4.heap.size := HR2.out.lt
          have k0 : w4.cell? ⟨wr.heap.size, 0, none⟩ = some (.int .i64 x.a) := HR4.out.cell 0
          have k1 : w4.cell? ⟨wr.heap.size, 1, none⟩ = some (.int .i64 x.p) := HR4.out.cell 1
          have k2 : w4.cell? ⟨wr.heap.size, 2, none⟩ = some (.int .i64 x.b) := HR4.out.cell 2
          have k3 : w4.cell? ⟨wr.heap.size, 3, none⟩ = some (.int .i64 x.q) := HR4.out.cell 3
          have k4 : w4.cell? ⟨w.heap.size + 2, 2, none⟩ = some (.slice la j lc) := HR2.out.cell 2
          clear hR4 ho4 hs4 hb4 hb4' hbw4 hR2 hO hF1 HX hswr c2 R6
          go_wp2_with (at_builtin; refine wpList_append_own _ rfl (.tmp 40) (.tmp 52) 30 rfl (w.heap.size + 3) 64 li lz 4 32 Try.underlying30 HLI.out HLZ.out hy1 hy2 hy3 (by decide) _ j _ rfl (HO.out.alloc _) ⟨w4.heap.size, 0, none⟩ 1 1 (Lk.vals x) rfl ?d0 ?d1 ?d2 ?d3 ?d4 ?d5 ?_)
          case d0 => rfl
          case d1 =>
            intro j' u hj'
            rw [addr_add, (rowIs_new w4 _ _).cell j', ← Array.getElem?_toList]
            exact hj'
          case d2 => intro u hu; simp [Lk.vals] at hu; rcases hu with rfl | rfl | rfl | rfl <;> rfl
          case d3 => simp [maxLen]; omega
          case d4 => omega
          (try case d5 => simp; omega)
          intro v' w7 ho7 hg7 _
          have ho7 : RowsFrom w7 (w.heap.size + 3) 64 4 Lk.vals v' (N.links.take (j + 1)) := by
            rw [HTK.out]
            refine rowsFrom_app ?_
            rw [HEL.out]
            exact ho7
          have HO7 := Lib.hid ho7
          have HF17 := Lib.hid ((HF1.out.later ((Below.refl w4.heap.size w4).alloc (Nat.le_refl _) _)).kept (HO.out.alloc _) (by decide) hg7)
          have hbAP : Below (w.heap.size + 3) w4 w7 := ((Below.refl _ w4).alloc hswr4 _).grown hg7 (by simp; omega) (fun k e1 => (HO.out.lt k e1).1)
          have HB := Lib.hid (HB.out.below hbAP (by omega))
          have HR1 := Lib.hid (HR1.out.below hbAP (by omega))
          have HR2 := Lib.hid (HR2.out.below hbAP (by omega))
          have hbr := hbr.trans (hbAP.mono (by omega))
          obtain ⟨la7, lc7, he7, -⟩ := ho7
          rw [show (N.links.take (j + 1)).length = j + 1 by simp; omega] at he7
          subst he7
          clear hg7 hbAP HO HF1 k0 k1 k2 k3 k4 HR4
          go_wp2_with ((with_reducible refine at_store 30 (.tmp 54) (.tmp 53) ?_); refine wpList_store_cell rfl 30 (.tmp 54) (.tmp 53) rfl (w.heap.size + 2) 2 _ rfl rfl 32 _ HR2.out (show 2 < 3 from by decide) (by kernel_rfl) rfl w.heap.size (by omega) ?_)
          intro w8 hR8 ho8 hs8 hb8
          have HST8 : Hid (OfAt v N w w8 N.ids.length (j + 1)) := ⟨rowIs_same HB.out (ho8 _ (by omega)), rowIs_same HR1.out (ho8 _ (by omega)), ⟨_, _, hR8, HF17.out.same (fun m hm => ho8 m (by omega)), HO7.out.same (fun m hm => ho8 m (by omega))⟩, hbr.trans hb8⟩
          clear hR8 ho8 hs8 hb8 HR2 HR1 HB HO7 HF17
          go_wp2_with fail
          exact ⟨⟨j + 1, by omega, by go_num, HST8⟩, by simp [intOf]; omega⟩
        · obtain rfl : j = N.links.length := by omega
          obtain ⟨v1, v2, hR2, hF1, hF2⟩ := HX.out.out
          rw [List.take_length] at hF1 hF2
          obtain ⟨ai, ci, rfl, -⟩ := hF1.at (fun x : Id8 => (rfl : (Id8.vals x).length = 8))
          obtain ⟨al, cl, rfl, -⟩ := hF2.at (fun x : Lk => (rfl : (Lk.vals x).length = 4))
          have HF1 := Lib.hid hF1
          have HF2 := Lib.hid hF2
          have HR2 := Lib.hid hR2
          have HR1 := Lib.hid HX.out.res
          have hbr := HX.out.bel
          clear hR2 hF1 hF2 HX
          go_wp2_with (first
            | ((with_reducible refine at_load 32 (.tmp 3) ?_); refine wpList_load_own rfl 32 (.tmp 3) rfl (w.heap.size + 2) rfl _ _ _ HR2.out Try.underlying32 rfl (by kernel_rfl) ?_)
            | ((with_reducible refine at_store 32 (.tmp 2) (.tmp 55) ?_); refine wpList_store_own rfl 32 (.tmp 2) (.tmp 55) rfl (w.heap.size + 1) _ rfl rfl _ _ HR1.out (by kernel_rfl) rfl (by simp [Value.oneCell']) w.heap.size (by omega) ?_))
          intro we hRe hoe hse hbe
          have HRE := Lib.hid hRe
          have hbf := hbr.trans hbe
          have HNE : Hid (NetAt we ⟨ai, ci, v.ac, v.cc, al, cl⟩ N) := ⟨(HF1.out.same (fun m hm => hoe m (by omega))).at2 (fun x : Id8 => (rfl : (Id8.vals x).length = 8)), (HN.out.kept hbf).costs, (HF2.out.same (fun m hm => hoe m (by omega))).at2 (fun x : Lk => (rfl : (Lk.vals x).length = 4))⟩
          clear hRe hoe hse hbe HF1 HF2 HR1 HR2
          go_wp2_with fail
          refine bodyPost_ret (results_row Try.results11 _ _ (w.heap.size + 1) _ _ _ rfl HRE.out Try.underlying32 rfl (by kernel_rfl)) rfl ?_
          exact ⟨⟨ai, ci, v.ac, v.cc, al, cl⟩, rfl, HNE.out, hbf⟩
end Go.Proofs.Ytcmokhpnooldgaa
