/- conf.line: a port's line. By an AI agent. -/
import Derived.Test.YthfckdnennfnoaaGreatDoorConf9
import Derived.Test.YthfckdnennfnoaaGreatDoorBuildOne
namespace Go.Proofs.YthfckdnennfnoaaGreatDoor
open Go.RowKit Go.Sort Grow

theorem leaves_same {P : Program} {fn : Func} {tmps tmps' : Array Value} {R : Ending → World → Prop} (h : ∀ w, (results fn tmps).run P w = (results fn tmps').run P w) : ∀ (ds : List Deferred) (u : FrameMode) (w : World), Leaves P fn tmps R ds u w → Leaves P fn tmps' R ds u w
  | [], .run, _, k => k
  | [], .returning, w, ⟨v, k1, k2⟩ => ⟨v, (h w).symm.trans k1, k2⟩
  | [], .panicking _, _, k => k
  | d :: ds, u, w, ⟨hrun, fv, cap, f, args, htar, hinv, hcall⟩ => ⟨hrun, fv, cap, f, args, htar, hinv, hcall.mono fun e u' w' he => by
    cases e with
    | returned v => exact leaves_same h ds _ _ he
    | panicked ch => exact leaves_same h ds _ _ he
    | outgrown => exact he⟩
theorem line_q {d : Tmp} {v : Value} {R : Ending → World → Prop} {u : FrameMode} {a : Act} {w : World} (hd : d ≠ 6) (h : Leaves Tryz.prog Tryz.f16 (a.put (some d) v).tmps R (a.put (some d) v).defers u w) : Leaves Tryz.prog Tryz.f16 a.tmps R a.defers u w := by
  refine leaves_same (fun w => ?_) _ _ _ h
  have e : (a.put (some d) v).tmps[6]? = a.tmps[6]? := by simp [Act.put, Array.getElem?_setIfInBounds_ne hd]
  simp [results, Tryz.results16, e]
namespace Cf
/-- the ports that there are, each with its tags in memory -/
def Ports (w : World) (base : Nat) (pv : Value) (ps : List (Pt × Value)) : Prop :=
  w.ownsRow base 72 39 pv ps.length (ps.flatMap fun q => (pcells q.1 q.2).toList) ∧ ∀ q ∈ ps, OutInts w base q.2 (ints q.1.tags) ∧ q.1.psk.length = 32
theorem Ports.stored {w w' : World} {base X : Nat} {pv : Value} {ps : List (Pt × Value)} (h : Ports w base pv ps) (hO : ∀ j, j ≠ X → w'.heap[j]? = w.heap[j]?) (hb : X < base) : Ports w' base pv ps :=
  ⟨owns_stored h.1 hO hb, fun q hq => ⟨owns_stored (h.2 q hq).1 hO hb, (h.2 q hq).2⟩⟩
theorem Ports.later {w w' : World} {base : Nat} {pv : Value} {ps : List (Pt × Value)} (h : Ports w base pv ps) (hb : Below w.heap.size w w') : Ports w' base pv ps :=
  ⟨owns_later h.1 hb, fun q hq => ⟨owns_later (h.2 q hq).1 hb, (h.2 q hq).2⟩⟩
theorem owns_block {w : World} {base : Nat} {e : TypeId} {size n : Nat} {v : Value} {xs : List Value} (h : w.ownsRow base e size v n xs) {k : Nat} (hk : v.ownBlock = some k) : base ≤ k ∧ k < w.heap.size ∧ ∃ cs, w.heap[k]? = some (.cells cs e (0, 0)) := by
  rcases h.2 with ⟨rfl, _⟩ | ⟨g, cap, cur, rfl, hb, hc, _⟩
  · simp [Value.ownBlock] at hk
  · obtain rfl : g = k := by simpa [Value.ownBlock] using hk
    exact ⟨hb, (Array.getElem?_eq_some_iff.1 hc).1, _, hc⟩
theorem owns_grown {w w' : World} {base : Nat} {e e' : TypeId} {size n : Nat} {v : Value} {xs : List Value} {row : Option Nat} (h : w.ownsRow base e size v n xs) (hg : w.grownBy w' row) (hne : e ≠ e') (hr : ∀ r, row = some r → ∃ cs, w.heap[r]? = some (.cells cs e' (0, 0))) : w'.ownsRow base e size v n xs := by
  refine ⟨h.1, ?_⟩
  rcases h.2 with h | ⟨g, cap, cur, hv, hb, hc, h⟩
  · exact .inl h
  · refine .inr ⟨g, cap, cur, hv, hb, (hg.block g (Array.getElem?_eq_some_iff.1 hc).1 (fun e2 => ?_)).trans hc, h⟩
    obtain ⟨cs, hcs⟩ := hr g e2.symm
    rw [hc] at hcs
    simp at hcs
    exact hne hcs.2
theorem port_appended {C base : Nat} {w w5 w7 : World} {pv v' : Value} {ps : List (Pt × Value)} {p : Pt} {tv : Value} {Z : Array Value} (hps : Ports w base pv ps) (hO5 : Only [C] w w5) (hCb : C < base) (hbase : base ≤ w.heap.size) (hT : OutInts w5 base tv (ints p.tags)) (hpl : p.psk.length = 32) (hs5' : w.heap.size < w5.heap.size)
    (hown : w7.ownsRow base 72 39 v' (ps.length + 1) (ps.flatMap (fun q => (pcells q.1 q.2).toList) ++ (pcells p tv).toList)) (hg : (w5.alloc (.cells Z 72)).grownBy w7 pv.ownBlock) :
    Ports w7 base v' (ps ++ [(p, tv)]) ∧ (∀ j, j < base → w7.heap[j]? = w5.heap[j]?) ∧ w7.heap[w.heap.size]? = w5.heap[w.heap.size]? ∧ w5.heap.size ≤ w7.heap.size ∧ Below base w5 w7 := by
  have hrow : ∀ r, pv.ownBlock = some r → base ≤ r ∧ r < w.heap.size ∧ ∃ cs, w5.heap[r]? = some (.cells cs 72 (0, 0)) := fun r hr => by
    obtain ⟨h1, h2, cs, h3⟩ := owns_block hps.1 hr
    exact ⟨h1, h2, cs, (hO5.2 r h2 (by simp; omega)).trans h3⟩
  have hsz := hg.size
  rw [World.size_alloc] at hsz
  have hs5 := hO5.1
  have key : ∀ j, j < w5.heap.size → pv.ownBlock ≠ some j → w7.heap[j]? = w5.heap[j]? := fun j hj hn =>
    (hg.block j (by rw [World.size_alloc]; omega) (fun e => hn e.symm)).trans (Below.heap_alloc _ _ _ hj)
  have hrow6 : ∀ r, pv.ownBlock = some r → ∃ cs, (w5.alloc (.cells Z 72)).heap[r]? = some (.cells cs 72 (0, 0)) := fun r hr => by
    obtain ⟨_, h2, cs, h3⟩ := hrow r hr
    exact ⟨cs, (Below.heap_alloc _ _ _ (by omega)).trans h3⟩
  refine ⟨⟨?_, fun q hq => ?_⟩, fun j hj => key j (by omega) (fun e => by have := (hrow j e).1; omega), ?_, by omega, ⟨hg.os, hg.tape, hg.output, by omega, fun j hj => key j (by omega) (fun e => by have := (hrow j e).1; omega)⟩⟩
  · rw [List.length_append, List.flatMap_append, List.flatMap_singleton]
    exact hown
  · rcases List.mem_append.1 hq with hq | hq
    · obtain ⟨h1, h2⟩ := hps.2 q hq
      exact ⟨owns_grown (World.ownsRow.alloc (owns_only h1 hO5 (by simpa using hCb)) _) hg (by decide) hrow6, h2⟩
    · obtain rfl := List.mem_singleton.1 hq
      exact ⟨owns_grown (World.ownsRow.alloc hT _) hg (by decide) hrow6, hpl⟩
  · exact key _ hs5' (fun e => by have := (hrow _ e).2.1; omega)
theorem owns_typed {w w' : World} {base X : Nat} {e t : TypeId} {size n : Nat} {v : Value} {xs : List Value} {cs : Array Value} (h : w.ownsRow base e size v n xs) (hX : RowIs w X t cs) (hne : e ≠ t) (hO : ∀ j, j ≠ X → w'.heap[j]? = w.heap[j]?) : w'.ownsRow base e size v n xs := by
  refine ⟨h.1, ?_⟩
  rcases h.2 with h | ⟨g, cap, cur, hv, hb, hc, h⟩
  · exact .inl h
  · refine .inr ⟨g, cap, cur, hv, hb, (hO g (fun e2 => ?_)).trans hc, h⟩
    subst e2
    rw [show w.heap[g]? = _ from hX] at hc
    simp at hc
    exact hne hc.2.symm
theorem Ports.other {w w' : World} {base X : Nat} {pv : Value} {ps : List (Pt × Value)} {cs : Array Value} (h : Ports w base pv ps) (hX : RowIs w X 4 cs) (hO : ∀ j, j ≠ X → w'.heap[j]? = w.heap[j]?) : Ports w' base pv ps :=
  ⟨owns_typed h.1 hX (by decide) hO, fun q hq => ⟨owns_typed (h.2 q hq).1 hX (by decide) hO, (h.2 q hq).2⟩⟩
theorem owns_one {w : World} {base : Nat} {e : TypeId} {size n : Nat} {v : Value} {xs : List Value} (h : w.ownsRow base e size v n xs) : v.oneCell' = true := by
  rcases h.2 with ⟨rfl, _⟩ | ⟨g, cap, cur, rfl, _⟩ <;> rfl
theorem pcells_one {w : World} {base : Nat} {p : Pt} {tv : Value} {zs : List Int} (h : OutInts w base tv zs) : ∀ u ∈ (pcells p tv).toList, u.oneCell' = true := by
  have := owns_one h
  intro u hu
  unfold pcells at hu
  simp only [List.mem_cons] at hu
  rcases hu with rfl | rfl | rfl | rfl | rfl | rfl | rfl | hu
  · rfl
  · exact this
  · rfl
  · rfl
  · rfl
  · rfl
  · rfl
  · obtain ⟨b, _, rfl⟩ := List.mem_map.1 hu
    rfl
theorem info_port : ∃ i z, Tryz.prog.info? 72 = some i ∧ i.zero = some z ∧ i.size = 39 ∧ i.bytes = 104 ∧ z.cells.size = 39 := by
  have h : (Tryz.prog.info? 72).map (fun i => (i.zero.map (·.cells.size), i.size, i.bytes)) = some (some 39, 39, 104) := by kernel_rfl
  obtain ⟨i, hi, h⟩ := Option.map_eq_some_iff.1 h
  simp only [Prod.mk.injEq] at h
  obtain ⟨z, hz, h18⟩ := Option.map_eq_some_iff.1 h.1
  exact ⟨i, z, hi, hz, h.2.1, h.2.2, h18⟩
theorem turned_only {C base : Nat} {w w' : World} (h : Only [C] w w') (hb : base ≤ w.heap.size) : Turned C base w w' := ⟨h.1, fun j h1 h2 => h.2 j (by omega) (by simpa using h2)⟩
theorem parts_small (c : UInt8) (l : List UInt8) : ∀ p ∈ Oct.parts c l, p.length ≤ l.length := by
  induction l with
  | nil => intro p hp; simp [Oct.parts] at hp; simp [hp]
  | cons a l ih =>
    intro p hp
    unfold Oct.parts at hp
    by_cases h : a = c
    · rw [if_pos h] at hp
      rcases List.mem_cons.1 hp with rfl | hp
      · simp
      · have := ih p hp; simp; omega
    · rw [if_neg h] at hp
      cases hq : Oct.parts c l with
      | nil => rw [hq] at hp; simp at hp; simp [hp]
      | cons q qs =>
        rw [hq] at hp ih
        rcases List.mem_cons.1 hp with rfl | hp
        · have := ih q (by simp); simp; omega
        · have := ih p (by simp [hp]); simp; omega
theorem pieces_small (t : ByteArray) (ht : t.size < 1000000) (hts : t.size ≤ 100000) : ∀ k x, (Oct.pieces 32 t).getD k ⟨#[]⟩ = x → x.size ≤ 100000 := by
  rintro k x rfl
  rcases Nat.lt_or_ge k (Oct.pieces 32 t).length with h | h
  · rw [List.getD_eq_getElem?_getD, List.getElem?_eq_getElem h, Option.getD_some]
    have hm : (Oct.pieces 32 t)[k] ∈ Oct.pieces 32 t := List.getElem_mem h
    unfold Oct.pieces at hm
    obtain ⟨l, hl, he⟩ := List.mem_map.1 hm
    have := parts_small 32 _ l hl
    unfold Oct.pieces
    rw [← he]
    show l.toArray.size ≤ _
    have e : t.data.toList.length = t.size := by simp
    rw [List.size_toArray]
    omega
  · rw [List.getD_eq_getElem?_getD, List.getElem?_eq_none h]
    exact Nat.zero_le _
end Cf
set_option maxRecDepth 20000 in
set_option maxHeartbeats 4000000 in
theorem line_port (B C base : Nat) (s : ByteArray) (hs : s.size < 9000) (id : List UInt8) (hid : id.length = 8) (a0 b0 c0 d0 pv : Value) (ps : List (Cf.Pt × Value)) (w : World) (hX : RowIs w C 33 (byteVals id ++ [a0, b0, c0, d0, pv]).toArray) (hps : Cf.Ports w base pv ps) (hBC : B ≤ C) (hCb : C < base) (hbase : base ≤ w.heap.size) (hlen : ps.length < 9000) :
    Calls Tryz.prog 16 #[.string s, .bool false, .pointer (some ⟨C, 0, none⟩)] w fun e w' => e = .returned (.bool (Cf.linePt s).isSome) ∧ (∀ p, Cf.linePt s = some p → ∃ pv' tv, RowIs w' C 33 (byteVals id ++ [a0, b0, c0, d0, pv']).toArray ∧ Cf.Ports w' base pv' (ps ++ [(p, tv)])) ∧ Cf.Turned C base w w' ∧ Below B w w' := by
  have hmf : ∀ (fn : Fn) (first cap : Array Value) (w : World), (Instr.makeFunc fn first cap).run Tryz.prog w = .ok (.func fn first cap) w := fun _ _ _ _ => rfl
  have hCw := hX.lt
  cases hcut : Cf.cut s with
  | none =>
    have HCT := Lib.hid (cut_any s (by omega))
    have HCN := Lib.hid hcut
    clear hcut
    go_enter_defers Tryz.func16, Tryz.ntmps16
    go_wp2_with fail
    have HK1 : Hid (RowIs (w.alloc (.cells #[.bool false] 4)) w.heap.size 4 #[.bool false]) := rowIs_new w _ _
    have HB1 : Hid (Below w.heap.size w (w.alloc (.cells #[.bool false] 4))) := (Below.refl _ _).alloc (Nat.le_refl _) _
    generalize w.alloc (.cells #[.bool false] 4) = w1 at *
    refine (HCT.out _).mono ?_
    rintro e w' ⟨he, rfl⟩
    unfold Cf.CutAns at he
    rw [HCN.out] at he
    obtain rfl := he
    go_wp2_with fail
    refine (must_not _).mono ?_
    rintro e w' ⟨rfl, rfl⟩
    go_wp2_with fail
    refine leaves_cons (f := 35) (args := #[.pointer (some ⟨w.heap.size, 0, none⟩)]) (by simp) (by simp [go_sem]) ?_
    refine (line_catch w.heap.size _ _ HK1.out).mono ?_
    rintro e u' w9 ⟨rfl, rfl, hk9, ho9, hb8⟩
    have hc9 : w9.cell? ⟨w.heap.size, 0, none⟩ = some (.bool false) := hk9.cell 0
    have hO9 : Cf.Turned C base w w9 := (Cf.turned_only (((Only.refl [C] w).below HB1.out).fresh ho9 (by simp)) hbase)
    have hb9 : Below B w w9 := ((HB1.out.mono (by omega)).trans (hb8.mono (by omega)))
    simp [Leaves, settle, results, Tryz.results16, go_sem, hc9]
    rw [(Cf.linePt_no HCN.out)]
    exact ⟨rfl, fun b h => (by cases h), hO9, hb9⟩
  | some t =>
    have HCT := Lib.hid (cut_any s (by omega))
    have HCN := Lib.hid hcut
    have HTZ : Hid (t.size < 1000000) := by have := Cf.cut_size hcut; show _ < _; omega
    have HTS0 : Hid (t.size ≤ 100000) := by have := Cf.cut_size hcut; show _ ≤ _; omega
    have HPL : Hid ((Oct.pieces 32 t).length < 10000) := by have := Cf.cut_size hcut; have := Cf.pieces_len 32 t; show _ < _; omega
    clear hcut
    go_enter_defers Tryz.func16, Tryz.ntmps16
    go_wp2_with fail
    have HK1 : Hid (RowIs (w.alloc (.cells #[.bool false] 4)) w.heap.size 4 #[.bool false]) := rowIs_new w _ _
    have HX1 := Lib.hid (hX.alloc (.cells #[.bool false] 4))
    have HB1 : Hid (Below w.heap.size w (w.alloc (.cells #[.bool false] 4))) := (Below.refl _ _).alloc (Nat.le_refl _) _
    have hs1 : (w.alloc (.cells #[.bool false] 4)).heap.size = w.heap.size + 1 := by simp
    generalize w.alloc (.cells #[.bool false] 4) = w1 at *
    refine (HCT.out _).mono ?_
    rintro e w' ⟨he, rfl⟩
    unfold Cf.CutAns at he
    rw [HCN.out] at he
    obtain rfl := he
    -- the line has its end
    go_wp2_with fail
    refine (must_ok _).mono ?_
    rintro e w' ⟨rfl, rfl⟩
    go_wp2_with fail
    refine (split_any t 32 _ HTZ.out).mono ?_
    rintro e w2 ⟨rfl, rfl⟩
    have HS2 : Hid (RowIs (w1.alloc (.cells (Strs.all (Oct.pieces 32 t)).toArray 9)) (w.heap.size + 1) 9 (Strs.all (Oct.pieces 32 t)).toArray) := by
      show RowIs _ _ _ _
      rw [← hs1]
      exact rowIs_new w1 _ _
    have HK2 := Lib.hid (HK1.out.alloc (.cells (Strs.all (Oct.pieces 32 t)).toArray 9))
    have HX2 := Lib.hid (HX1.out.alloc (.cells (Strs.all (Oct.pieces 32 t)).toArray 9))
    have HB2 := Lib.hid (HB1.out.alloc (show w.heap.size ≤ w1.heap.size by omega) (.cells (Strs.all (Oct.pieces 32 t)).toArray 9))
    have hs2 : (w1.alloc (.cells (Strs.all (Oct.pieces 32 t)).toArray 9)).heap.size = w.heap.size + 2 := by simp [hs1]
    generalize w1.alloc (.cells (Strs.all (Oct.pieces 32 t)).toArray 9) = w2 at *
    rw [hs1]
    clear HK1 HX1 HB1 hs1
    go_upto_region 5 with fail
    have HP3 : Hid (Cf.PAt (w2.alloc (.cells #[.slice (some ⟨w.heap.size + 1, 0, none⟩) (Oct.pieces 32 t).length (Oct.pieces 32 t).length] 104)) (w.heap.size + 2) (w.heap.size + 1) (Oct.pieces 32 t) 0) := by
      refine ⟨by omega, Nat.zero_le _, HPL.out, HS2.out.alloc _, 0, fun _ => rfl, ?_⟩
      rw [← hs2]
      exact rowIs_new w2 _ _
    have HX3 := Lib.hid (HX2.out.alloc (.cells #[.slice (some ⟨w.heap.size + 1, 0, none⟩) (Oct.pieces 32 t).length (Oct.pieces 32 t).length] 104))
    have HK3 := Lib.hid (HK2.out.alloc (.cells #[.slice (some ⟨w.heap.size + 1, 0, none⟩) (Oct.pieces 32 t).length (Oct.pieces 32 t).length] 104))
    have HB3 := Lib.hid (HB2.out.alloc (show w.heap.size ≤ w2.heap.size by omega) (.cells #[.slice (some ⟨w.heap.size + 1, 0, none⟩) (Oct.pieces 32 t).length (Oct.pieces 32 t).length] 104))
    have HO3 : Hid (Only [C] w (w2.alloc (.cells #[.slice (some ⟨w.heap.size + 1, 0, none⟩) (Oct.pieces 32 t).length (Oct.pieces 32 t).length] 104))) := (Only.refl _ _).below HB3.out
    generalize w2.alloc (.cells #[.slice (some ⟨w.heap.size + 1, 0, none⟩) (Oct.pieces 32 t).length (Oct.pieces 32 t).length] 104) = w3 at *
    clear HX2 HK2 HB2 HS2 hs2
    go_upto_region 7 with fail
    have HTS := HTS0
    cases hpt : Cf.portOf (Cf.lists (Oct.pieces 32 t)) with
    | none =>
      have HPT := Lib.hid ((Cf.linePt_of HCN.out).trans hpt)
      refine wp_region_any (by kernel_rfl) ?_
      try (change wpAny _ _ _ _ _ _ _ (World.drew _))
      have HP4 := Lib.hid (show Cf.PAt w3.drew _ _ _ 0 from HP3.out.kept ⟨rfl, rfl, rfl, Nat.le_refl _, fun _ _ => rfl⟩)
      have HK4 := Lib.hid (show RowIs w3.drew _ _ _ from HK3.out)
      have HX4 := Lib.hid (show RowIs w3.drew _ _ _ from HX3.out)
      have HO4 := Lib.hid (show Only [C] w w3.drew from HO3.out)
      have HB4 := Lib.hid (show RowKit.Below w.heap.size w w3.drew from HB3.out.trans ⟨rfl, rfl, rfl, Nat.le_refl _, fun _ _ => rfl⟩)
      generalize w3.drew = w4 at *
      have c12 : w4.cell? ⟨C, 12, none⟩ = some pv := by rw [HX4.out.cell 12]; simp [byteVals_length, hid]
      clear HP3 HK3 HX3 HO3 HB3
      refine wpAny_take (i := 0) (v := .pointer (some ⟨C, 0, none⟩)) rfl (by kernel_rfl) (by kernel_rfl) (by kernel_rfl) (fun _ _ _ h => line_q (by decide) h) (Or.inl ⟨by rfl, ?_⟩) ?_
      · (intro w; go_simp)
      refine wpAny_take (i := 1) (v := .pointer (some ⟨C, 0, none⟩)) rfl (by kernel_rfl) (by kernel_rfl) (by kernel_rfl) (fun _ _ _ h => line_q (by decide) h) (Or.inl ⟨by rfl, ?_⟩) ?_
      · (intro w; go_simp)
      refine wpAny_take (i := 2) (v := .pointer (some ⟨C, 0, none⟩)) rfl (by kernel_rfl) (by kernel_rfl) (by kernel_rfl) (fun _ _ _ h => line_q (by decide) h) (Or.inl ⟨by rfl, ?_⟩) ?_
      · (intro w; go_simp)
      refine wpAny_take (i := 3) (v := .pointer (some ⟨C, 12, none⟩)) rfl (by kernel_rfl) (by kernel_rfl) (by kernel_rfl) (fun _ _ _ h => line_q (by decide) h) (Or.inl ⟨by rfl, ?_⟩) ?_
      · (intro w; go_simp)
      refine wpAny_ready (rs := [4, 5]) (by kernel_rfl) (by simp) ?_
      refine AllReady.cons (by first | (simp only [List.getElem?_toArray, List.getElem?_cons_succ, List.getElem?_cons_zero]; done) | (simp only [List.getElem?_toArray, List.getElem?_cons_succ, List.getElem?_cons_zero]; rfl)) (fun K hK => ?_) ?_
      case refine_1 =>
        go_simp
        refine hK _ _ ?_
        clear hK K
        refine wpAny_ready (rs := [5]) (by kernel_rfl) (by simp) ?_
        refine AllReady.cons (by first | (simp only [List.getElem?_toArray, List.getElem?_cons_succ, List.getElem?_cons_zero]; done) | (simp only [List.getElem?_toArray, List.getElem?_cons_succ, List.getElem?_cons_zero]; rfl)) (fun K hK => ?_) AllReady.nil
        go_simp
        refine (port_any B (w.heap.size + 2) (w.heap.size + 1) (Oct.pieces 32 t) w4 HP4.out (by omega) (Cf.pieces_small t HTZ.out HTS.out)).mono ?_
        rintro e w5 ⟨hans, hO, hb⟩
        unfold Cf.PortAns at hans
        rw [hpt] at hans
        obtain rfl := hans
        have HK5 := Lib.hid (HK4.out.only hO (by simp))
        have HO5 := Lib.hid (HO4.out.fresh hO (by simp))
        have HB5 := Lib.hid ((HB4.out.mono (show B ≤ w.heap.size by omega)).trans hb)
        clear hO hb
        refine leaves_cons (f := 35) (args := #[.pointer (some ⟨w.heap.size, 0, none⟩)]) (by simp) (by simp [go_sem]) ?_
        refine (line_catch w.heap.size _ _ HK5.out).mono ?_
        rintro e u' w9 ⟨rfl, rfl, hk9, ho9, hb8⟩
        have hc9 : w9.cell? ⟨w.heap.size, 0, none⟩ = some (.bool false) := hk9.cell 0
        have hO9 : Cf.Turned C base w w9 := (Cf.turned_only (HO5.out.fresh ho9 (by simp)) hbase)
        have hb9 : Below B w w9 := HB5.out.trans (hb8.mono (by omega))
        simp [Leaves, settle, results, Tryz.results16, go_sem, hc9]
        rw [HPT.out]
        exact ⟨rfl, fun b h => (by cases h), hO9, hb9⟩
      refine AllReady.cons (by first | (simp only [List.getElem?_toArray, List.getElem?_cons_succ, List.getElem?_cons_zero]; done) | (simp only [List.getElem?_toArray, List.getElem?_cons_succ, List.getElem?_cons_zero]; rfl)) (fun K hK => ?_) AllReady.nil
      go_simp
      refine (port_any B (w.heap.size + 2) (w.heap.size + 1) (Oct.pieces 32 t) w4 HP4.out (by omega) (Cf.pieces_small t HTZ.out HTS.out)).mono ?_
      rintro e w5 ⟨hans, hO, hb⟩
      unfold Cf.PortAns at hans
      rw [hpt] at hans
      obtain rfl := hans
      have HK5 := Lib.hid (HK4.out.only hO (by simp))
      have HO5 := Lib.hid (HO4.out.fresh hO (by simp))
      have HB5 := Lib.hid ((HB4.out.mono (show B ≤ w.heap.size by omega)).trans hb)
      clear hO hb
      refine leaves_cons (f := 35) (args := #[.pointer (some ⟨w.heap.size, 0, none⟩)]) (by simp) (by simp [go_sem]) ?_
      refine (line_catch w.heap.size _ _ HK5.out).mono ?_
      rintro e u' w9 ⟨rfl, rfl, hk9, ho9, hb8⟩
      have hc9 : w9.cell? ⟨w.heap.size, 0, none⟩ = some (.bool false) := hk9.cell 0
      have hO9 : Cf.Turned C base w w9 := (Cf.turned_only (HO5.out.fresh ho9 (by simp)) hbase)
      have hb9 : Below B w w9 := HB5.out.trans (hb8.mono (by omega))
      simp [Leaves, settle, results, Tryz.results16, go_sem, hc9]
      rw [HPT.out]
      exact ⟨rfl, fun b h => (by cases h), hO9, hb9⟩
    | some p =>
      have HPT := Lib.hid ((Cf.linePt_of HCN.out).trans hpt)
      obtain ⟨ti, tz, hti, htz, hz1, hz2, hz3⟩ := Cf.info_port
      refine wp_region_any (by kernel_rfl) ?_
      try (change wpAny _ _ _ _ _ _ _ (World.drew _))
      have HP4 := Lib.hid (show Cf.PAt w3.drew _ _ _ 0 from HP3.out.kept ⟨rfl, rfl, rfl, Nat.le_refl _, fun _ _ => rfl⟩)
      have HK4 := Lib.hid (show RowIs w3.drew _ _ _ from HK3.out)
      have HX4 := Lib.hid (show RowIs w3.drew _ _ _ from HX3.out)
      have HO4 := Lib.hid (show Only [C] w w3.drew from HO3.out)
      have HB4 := Lib.hid (show RowKit.Below w.heap.size w w3.drew from HB3.out.trans ⟨rfl, rfl, rfl, Nat.le_refl _, fun _ _ => rfl⟩)
      generalize w3.drew = w4 at *
      have c12 : w4.cell? ⟨C, 12, none⟩ = some pv := by rw [HX4.out.cell 12]; simp [byteVals_length, hid]
      clear HP3 HK3 HX3 HO3 HB3
      refine wpAny_take (i := 0) (v := .pointer (some ⟨C, 0, none⟩)) rfl (by kernel_rfl) (by kernel_rfl) (by kernel_rfl) (fun _ _ _ h => line_q (by decide) h) (Or.inl ⟨by rfl, ?_⟩) ?_
      · (intro w; go_simp)
      refine wpAny_take (i := 1) (v := .pointer (some ⟨C, 0, none⟩)) rfl (by kernel_rfl) (by kernel_rfl) (by kernel_rfl) (fun _ _ _ h => line_q (by decide) h) (Or.inl ⟨by rfl, ?_⟩) ?_
      · (intro w; go_simp)
      refine wpAny_take (i := 2) (v := .pointer (some ⟨C, 0, none⟩)) rfl (by kernel_rfl) (by kernel_rfl) (by kernel_rfl) (fun _ _ _ h => line_q (by decide) h) (Or.inl ⟨by rfl, ?_⟩) ?_
      · (intro w; go_simp)
      refine wpAny_take (i := 3) (v := .pointer (some ⟨C, 12, none⟩)) rfl (by kernel_rfl) (by kernel_rfl) (by kernel_rfl) (fun _ _ _ h => line_q (by decide) h) (Or.inl ⟨by rfl, ?_⟩) ?_
      · (intro w; go_simp)
      refine wpAny_ready (rs := [4, 5]) (by kernel_rfl) (by simp) ?_
      refine AllReady.cons (by first | (simp only [List.getElem?_toArray, List.getElem?_cons_succ, List.getElem?_cons_zero]; done) | (simp only [List.getElem?_toArray, List.getElem?_cons_succ, List.getElem?_cons_zero]; rfl)) (fun K hK => ?_) ?_
      case refine_1 =>
        go_simp
        refine hK _ _ ?_
        clear hK K
        try simp only [Act.put, List.getElem_toArray, List.getElem_cons_succ, List.getElem_cons_zero, List.setIfInBounds_toArray, List.set]
        refine wpAny_ready (rs := [5]) (by kernel_rfl) (by simp) ?_
        refine AllReady.cons (by first | (simp only [List.getElem?_toArray, List.getElem?_cons_succ, List.getElem?_cons_zero]; done) | (simp only [List.getElem?_toArray, List.getElem?_cons_succ, List.getElem?_cons_zero]; rfl)) (fun K hK => ?_) AllReady.nil
        go_simp
        refine (port_any B (w.heap.size + 2) (w.heap.size + 1) (Oct.pieces 32 t) w4 HP4.out (by omega) (Cf.pieces_small t HTZ.out HTS.out)).mono ?_
        rintro e w5 ⟨hans, hO, hb⟩
        unfold Cf.PortAns at hans
        rw [hpt] at hans
        obtain ⟨tv, rfl, hot, hpl⟩ := hans
        have HX5 := Lib.hid (HX4.out.only hO (by simp; omega))
        have c12 : w5.cell? ⟨C, 12, none⟩ = some pv := by rw [HX5.out.cell 12]; simp [byteVals_length, hid]
        have HK5 := Lib.hid (HK4.out.only hO (by simp))
        have HO5 := Lib.hid (HO4.out.fresh hO (by simp))
        have hs5 : w.heap.size < w5.heap.size := HK5.out.lt
        have HT5 := Lib.hid (show OutInts w5 base tv (Cf.ints p.tags) from owns_base hot (by have := HB4.out.size; omega))
        have HB5 := Lib.hid ((HB4.out.mono (show B ≤ w.heap.size by omega)).trans hb)
        have HPL5 := Lib.hid hpl
        clear hO hb hot hpl
        refine hK _ _ ?_
        clear hK K
        try simp only [Act.put, List.getElem_toArray, List.getElem_cons_succ, List.getElem_cons_zero, List.setIfInBounds_toArray, List.set]
        refine wpAny_ready (rs := [6]) (by kernel_rfl) (by simp) ?_
        refine AllReady.cons (by first | (simp only [List.getElem?_toArray, List.getElem?_cons_succ, List.getElem?_cons_zero]; done) | (simp only [List.getElem?_toArray, List.getElem?_cons_succ, List.getElem?_cons_zero]; rfl)) (fun K hK => ?_) AllReady.nil
        refine step_build_one rfl 31 72 (.tmp 28) rfl (Cf.pcells p tv) rfl Tryz.underlying31 39 (by kernel_rfl) (by simp [Cf.pcells, byteVals_length, HPL5.out]) (by decide) (by decide) ?_
        have c12 : (w5.alloc (.cells (Cf.pcells p tv) 72)).cell? ⟨C, 12, none⟩ = some pv := by rw [(HX5.out.alloc _).cell 12]; simp [byteVals_length, hid]
        refine hK _ _ ?_
        clear hK K
        try simp only [Act.put, List.getElem_toArray, List.getElem_cons_succ, List.getElem_cons_zero, List.setIfInBounds_toArray, List.set]
        refine wpAny_ready (rs := [7]) (by kernel_rfl) (by simp) ?_
        refine AllReady.cons (by first | (simp only [List.getElem?_toArray, List.getElem?_cons_succ, List.getElem?_cons_zero]; done) | (simp only [List.getElem?_toArray, List.getElem?_cons_succ, List.getElem?_cons_zero]; rfl)) (fun K hK => ?_) AllReady.nil
        refine step_append_own rfl (.tmp 27) (.tmp 29) 31 rfl base 72 ti tz 39 104 Tryz.underlying31 hti htz hz1 hz2 hz3 (by decide) pv ps.length _ rfl (World.ownsRow.alloc (owns_only hps.1 HO5.out (by simpa using hCb)) _) ⟨w5.heap.size, 0, none⟩ 1 1 (Cf.pcells p tv).toList rfl (by simp [Cf.pcells, byteVals_length, HPL5.out]) (fun j u hj => by rw [addr_add, (rowIs_new w5 72 (Cf.pcells p tv)).cell, ← Array.getElem?_toList]; exact hj) (Cf.pcells_one HT5.out) (by unfold maxLen; omega) (by omega) (by rw [World.size_alloc]; omega) ?_
        intro v' w7 hown' hgrow
        obtain ⟨hP7, hlow, hH7, hz7, hb7⟩ := Cf.port_appended hps HO5.out hCb hbase HT5.out HPL5.out hs5 hown' hgrow
        have HP7 := Lib.hid hP7
        have HX7 := Lib.hid (show RowIs w7 C 33 (byteVals id ++ [a0, b0, c0, d0, pv]).toArray from (hlow C hCb).trans HX5.out)
        have HK7 := Lib.hid (show RowIs w7 w.heap.size 4 #[.bool false] from hH7.trans HK5.out)
        have HB7 := Lib.hid (HB5.out.trans (hb7.mono (by omega)))
        have HTu7 : Hid (Cf.Turned C base w w7) := ⟨Nat.le_trans HO5.out.1 hz7, fun j h1 h2 => (hlow j h1).trans (HO5.out.2 j (by omega) (by simpa using h2))⟩
        clear hP7 hlow hH7 hz7 hb7 hown' hgrow
        refine hK _ _ ?_
        clear hK K
        try simp only [Act.put, List.getElem_toArray, List.getElem_cons_succ, List.getElem_cons_zero, List.setIfInBounds_toArray, List.set]
        refine wpAny_take (i := 8) (v := .pointer (some ⟨C, 0, none⟩)) rfl (by kernel_rfl) (by kernel_rfl) (by kernel_rfl) (fun _ _ _ h => line_q (by decide) h) (Or.inl ⟨by rfl, ?_⟩) ?_
        · (intro w; go_simp)
        refine wpAny_take (i := 9) (v := .pointer (some ⟨C, 12, none⟩)) rfl (by kernel_rfl) (by kernel_rfl) (by kernel_rfl) (fun _ _ _ h => line_q (by decide) h) (Or.inl ⟨by rfl, ?_⟩) ?_
        · (intro w; go_simp)
        try simp only [Act.put, List.getElem_toArray, List.getElem_cons_succ, List.getElem_cons_zero, List.setIfInBounds_toArray, List.set]
        refine wpAny_ready (rs := [10]) (by kernel_rfl) (by simp) ?_
        refine AllReady.cons (by first | (simp only [List.getElem?_toArray, List.getElem?_cons_succ, List.getElem?_cons_zero]; done) | (simp only [List.getElem?_toArray, List.getElem?_cons_succ, List.getElem?_cons_zero]; rfl)) (fun K hK => ?_) AllReady.nil
        refine step_store_cell rfl 31 (.tmp 32) (.tmp 30) rfl C 12 v' rfl rfl 33 _ HX7.out (by simp [byteVals_length, hid]) (by kernel_rfl) (Cf.owns_one HP7.out.1) B hBC ?_
        intro w8 hR hO hs hb
        have HX8 : Hid (RowIs w8 C 33 (byteVals id ++ [a0, b0, c0, d0, v']).toArray) := by
          show RowIs _ _ _ _
          have e : (byteVals id ++ [a0, b0, c0, d0, pv]).set 12 v' = byteVals id ++ [a0, b0, c0, d0, v'] := by
            rw [List.set_append_right _ _ (by simp [byteVals_length, hid])]
            simp [byteVals_length, hid]
          rw [← e]
          simpa using hR
        have HP8 := Lib.hid (HP7.out.stored hO hCb)
        have HK8 := Lib.hid (show RowIs w8 w.heap.size 4 #[.bool false] from (hO _ (by omega)).trans HK7.out)
        have HB8 := Lib.hid (HB7.out.trans hb)
        have HTu8 : Hid (Cf.Turned C base w w8) := ⟨by rw [hs]; exact HTu7.out.1, fun j h1 h2 => (hO j h2).trans (HTu7.out.2 j h1 h2)⟩
        clear hR hO hs hb
        refine hK _ _ ?_
        clear hK K
        try simp only [Act.put, List.getElem_toArray, List.getElem_cons_succ, List.getElem_cons_zero, List.setIfInBounds_toArray, List.set]
        refine wpAny_done (by kernel_rfl) ?_ _
        go_wp2_with ((with_reducible refine at_store 4 (.tmp 6) (.const (.bool true)) ?_); refine wpList_store_cell rfl 4 (.tmp 6) (.const (.bool true)) rfl w.heap.size 0 _ rfl rfl 4 _ HK8.out (by simp) (by kernel_rfl) rfl B (by omega) ?_)
        intro w10 hK hO hs hb
        have HK10 : Hid (RowIs w10 w.heap.size 4 #[.bool true]) := hK
        have HX10 := Lib.hid (show RowIs w10 C 33 _ from (hO _ (by omega)).trans HX8.out)
        have HP10 := Lib.hid (Cf.Ports.other HP8.out HK8.out hO)
        have HTu10 : Hid (Cf.Turned C base w w10) := ⟨by rw [hs]; exact HTu8.out.1, fun j h1 h2 => (hO j (by omega)).trans (HTu8.out.2 j h1 h2)⟩
        have HB10 := Lib.hid (HB8.out.trans hb)
        clear hK hO hs hb
        go_wp2_with fail
        refine leaves_cons (f := 35) (args := #[.pointer (some ⟨w.heap.size, 0, none⟩)]) (by simp) (by simp [go_sem]) ?_
        refine (line_idle w.heap.size _).mono ?_
        rintro e u' w9 ⟨rfl, rfl, hb8⟩
        have hk9 := HK10.out.kept hb8
        have hc9 : w9.cell? ⟨w.heap.size, 0, none⟩ = some (.bool true) := hk9.cell 0
        have hO9 : Cf.Turned C base w w9 := ⟨Nat.le_trans HTu10.out.1 hb8.size, fun j h1 h2 => (hb8.block j (by have := HTu10.out.1; omega)).trans (HTu10.out.2 j h1 h2)⟩
        have hb9 : Below B w w9 := HB10.out.trans (hb8.mono (Nat.le_trans (show B ≤ w.heap.size by omega) HTu10.out.1))
        simp [Leaves, settle, results, Tryz.results16, go_sem, hc9]
        rw [HPT.out]
        refine ⟨rfl, fun p' h => ?_, hO9, hb9⟩
        obtain rfl := Option.some.inj h
        exact ⟨v', HX10.out.kept hb8, tv, HP10.out.later hb8⟩
      refine AllReady.cons (by first | (simp only [List.getElem?_toArray, List.getElem?_cons_succ, List.getElem?_cons_zero]; done) | (simp only [List.getElem?_toArray, List.getElem?_cons_succ, List.getElem?_cons_zero]; rfl)) (fun K hK => ?_) AllReady.nil
      go_simp
      refine (port_any B (w.heap.size + 2) (w.heap.size + 1) (Oct.pieces 32 t) w4 HP4.out (by omega) (Cf.pieces_small t HTZ.out HTS.out)).mono ?_
      rintro e w5 ⟨hans, hO, hb⟩
      unfold Cf.PortAns at hans
      rw [hpt] at hans
      obtain ⟨tv, rfl, hot, hpl⟩ := hans
      have HX5 := Lib.hid (HX4.out.only hO (by simp; omega))
      have c12 : w5.cell? ⟨C, 12, none⟩ = some pv := by rw [HX5.out.cell 12]; simp [byteVals_length, hid]
      have HK5 := Lib.hid (HK4.out.only hO (by simp))
      have HO5 := Lib.hid (HO4.out.fresh hO (by simp))
      have hs5 : w.heap.size < w5.heap.size := HK5.out.lt
      have HT5 := Lib.hid (show OutInts w5 base tv (Cf.ints p.tags) from owns_base hot (by have := HB4.out.size; omega))
      have HB5 := Lib.hid ((HB4.out.mono (show B ≤ w.heap.size by omega)).trans hb)
      have HPL5 := Lib.hid hpl
      clear hO hb hot hpl
      refine hK _ _ ?_
      clear hK K
      try simp only [Act.put, List.getElem_toArray, List.getElem_cons_succ, List.getElem_cons_zero, List.setIfInBounds_toArray, List.set]
      refine wpAny_ready (rs := [4, 6]) (by kernel_rfl) (by simp) ?_
      refine AllReady.cons (by first | (simp only [List.getElem?_toArray, List.getElem?_cons_succ, List.getElem?_cons_zero]; done) | (simp only [List.getElem?_toArray, List.getElem?_cons_succ, List.getElem?_cons_zero]; rfl)) (fun K hK => ?_) ?_
      case refine_1 =>
        go_simp
        refine hK _ _ ?_
        clear hK K
        try simp only [Act.put, List.getElem_toArray, List.getElem_cons_succ, List.getElem_cons_zero, List.setIfInBounds_toArray, List.set]
        refine wpAny_ready (rs := [6]) (by kernel_rfl) (by simp) ?_
        refine AllReady.cons (by first | (simp only [List.getElem?_toArray, List.getElem?_cons_succ, List.getElem?_cons_zero]; done) | (simp only [List.getElem?_toArray, List.getElem?_cons_succ, List.getElem?_cons_zero]; rfl)) (fun K hK => ?_) AllReady.nil
        refine step_build_one rfl 31 72 (.tmp 28) rfl (Cf.pcells p tv) rfl Tryz.underlying31 39 (by kernel_rfl) (by simp [Cf.pcells, byteVals_length, HPL5.out]) (by decide) (by decide) ?_
        have c12 : (w5.alloc (.cells (Cf.pcells p tv) 72)).cell? ⟨C, 12, none⟩ = some pv := by rw [(HX5.out.alloc _).cell 12]; simp [byteVals_length, hid]
        refine hK _ _ ?_
        clear hK K
        try simp only [Act.put, List.getElem_toArray, List.getElem_cons_succ, List.getElem_cons_zero, List.setIfInBounds_toArray, List.set]
        refine wpAny_ready (rs := [7]) (by kernel_rfl) (by simp) ?_
        refine AllReady.cons (by first | (simp only [List.getElem?_toArray, List.getElem?_cons_succ, List.getElem?_cons_zero]; done) | (simp only [List.getElem?_toArray, List.getElem?_cons_succ, List.getElem?_cons_zero]; rfl)) (fun K hK => ?_) AllReady.nil
        refine step_append_own rfl (.tmp 27) (.tmp 29) 31 rfl base 72 ti tz 39 104 Tryz.underlying31 hti htz hz1 hz2 hz3 (by decide) pv ps.length _ rfl (World.ownsRow.alloc (owns_only hps.1 HO5.out (by simpa using hCb)) _) ⟨w5.heap.size, 0, none⟩ 1 1 (Cf.pcells p tv).toList rfl (by simp [Cf.pcells, byteVals_length, HPL5.out]) (fun j u hj => by rw [addr_add, (rowIs_new w5 72 (Cf.pcells p tv)).cell, ← Array.getElem?_toList]; exact hj) (Cf.pcells_one HT5.out) (by unfold maxLen; omega) (by omega) (by rw [World.size_alloc]; omega) ?_
        intro v' w7 hown' hgrow
        obtain ⟨hP7, hlow, hH7, hz7, hb7⟩ := Cf.port_appended hps HO5.out hCb hbase HT5.out HPL5.out hs5 hown' hgrow
        have HP7 := Lib.hid hP7
        have HX7 := Lib.hid (show RowIs w7 C 33 (byteVals id ++ [a0, b0, c0, d0, pv]).toArray from (hlow C hCb).trans HX5.out)
        have HK7 := Lib.hid (show RowIs w7 w.heap.size 4 #[.bool false] from hH7.trans HK5.out)
        have HB7 := Lib.hid (HB5.out.trans (hb7.mono (by omega)))
        have HTu7 : Hid (Cf.Turned C base w w7) := ⟨Nat.le_trans HO5.out.1 hz7, fun j h1 h2 => (hlow j h1).trans (HO5.out.2 j (by omega) (by simpa using h2))⟩
        clear hP7 hlow hH7 hz7 hb7 hown' hgrow
        refine hK _ _ ?_
        clear hK K
        try simp only [Act.put, List.getElem_toArray, List.getElem_cons_succ, List.getElem_cons_zero, List.setIfInBounds_toArray, List.set]
        refine wpAny_take (i := 8) (v := .pointer (some ⟨C, 0, none⟩)) rfl (by kernel_rfl) (by kernel_rfl) (by kernel_rfl) (fun _ _ _ h => line_q (by decide) h) (Or.inl ⟨by rfl, ?_⟩) ?_
        · (intro w; go_simp)
        refine wpAny_take (i := 9) (v := .pointer (some ⟨C, 12, none⟩)) rfl (by kernel_rfl) (by kernel_rfl) (by kernel_rfl) (fun _ _ _ h => line_q (by decide) h) (Or.inl ⟨by rfl, ?_⟩) ?_
        · (intro w; go_simp)
        try simp only [Act.put, List.getElem_toArray, List.getElem_cons_succ, List.getElem_cons_zero, List.setIfInBounds_toArray, List.set]
        refine wpAny_ready (rs := [10]) (by kernel_rfl) (by simp) ?_
        refine AllReady.cons (by first | (simp only [List.getElem?_toArray, List.getElem?_cons_succ, List.getElem?_cons_zero]; done) | (simp only [List.getElem?_toArray, List.getElem?_cons_succ, List.getElem?_cons_zero]; rfl)) (fun K hK => ?_) AllReady.nil
        refine step_store_cell rfl 31 (.tmp 32) (.tmp 30) rfl C 12 v' rfl rfl 33 _ HX7.out (by simp [byteVals_length, hid]) (by kernel_rfl) (Cf.owns_one HP7.out.1) B hBC ?_
        intro w8 hR hO hs hb
        have HX8 : Hid (RowIs w8 C 33 (byteVals id ++ [a0, b0, c0, d0, v']).toArray) := by
          show RowIs _ _ _ _
          have e : (byteVals id ++ [a0, b0, c0, d0, pv]).set 12 v' = byteVals id ++ [a0, b0, c0, d0, v'] := by
            rw [List.set_append_right _ _ (by simp [byteVals_length, hid])]
            simp [byteVals_length, hid]
          rw [← e]
          simpa using hR
        have HP8 := Lib.hid (HP7.out.stored hO hCb)
        have HK8 := Lib.hid (show RowIs w8 w.heap.size 4 #[.bool false] from (hO _ (by omega)).trans HK7.out)
        have HB8 := Lib.hid (HB7.out.trans hb)
        have HTu8 : Hid (Cf.Turned C base w w8) := ⟨by rw [hs]; exact HTu7.out.1, fun j h1 h2 => (hO j h2).trans (HTu7.out.2 j h1 h2)⟩
        clear hR hO hs hb
        refine hK _ _ ?_
        clear hK K
        try simp only [Act.put, List.getElem_toArray, List.getElem_cons_succ, List.getElem_cons_zero, List.setIfInBounds_toArray, List.set]
        refine wpAny_done (by kernel_rfl) ?_ _
        go_wp2_with ((with_reducible refine at_store 4 (.tmp 6) (.const (.bool true)) ?_); refine wpList_store_cell rfl 4 (.tmp 6) (.const (.bool true)) rfl w.heap.size 0 _ rfl rfl 4 _ HK8.out (by simp) (by kernel_rfl) rfl B (by omega) ?_)
        intro w10 hK hO hs hb
        have HK10 : Hid (RowIs w10 w.heap.size 4 #[.bool true]) := hK
        have HX10 := Lib.hid (show RowIs w10 C 33 _ from (hO _ (by omega)).trans HX8.out)
        have HP10 := Lib.hid (Cf.Ports.other HP8.out HK8.out hO)
        have HTu10 : Hid (Cf.Turned C base w w10) := ⟨by rw [hs]; exact HTu8.out.1, fun j h1 h2 => (hO j (by omega)).trans (HTu8.out.2 j h1 h2)⟩
        have HB10 := Lib.hid (HB8.out.trans hb)
        clear hK hO hs hb
        go_wp2_with fail
        refine leaves_cons (f := 35) (args := #[.pointer (some ⟨w.heap.size, 0, none⟩)]) (by simp) (by simp [go_sem]) ?_
        refine (line_idle w.heap.size _).mono ?_
        rintro e u' w9 ⟨rfl, rfl, hb8⟩
        have hk9 := HK10.out.kept hb8
        have hc9 : w9.cell? ⟨w.heap.size, 0, none⟩ = some (.bool true) := hk9.cell 0
        have hO9 : Cf.Turned C base w w9 := ⟨Nat.le_trans HTu10.out.1 hb8.size, fun j h1 h2 => (hb8.block j (by have := HTu10.out.1; omega)).trans (HTu10.out.2 j h1 h2)⟩
        have hb9 : Below B w w9 := HB10.out.trans (hb8.mono (Nat.le_trans (show B ≤ w.heap.size by omega) HTu10.out.1))
        simp [Leaves, settle, results, Tryz.results16, go_sem, hc9]
        rw [HPT.out]
        refine ⟨rfl, fun p' h => ?_, hO9, hb9⟩
        obtain rfl := Option.some.inj h
        exact ⟨v', HX10.out.kept hb8, tv, HP10.out.later hb8⟩
      refine AllReady.cons (by first | (simp only [List.getElem?_toArray, List.getElem?_cons_succ, List.getElem?_cons_zero]; done) | (simp only [List.getElem?_toArray, List.getElem?_cons_succ, List.getElem?_cons_zero]; rfl)) (fun K hK => ?_) AllReady.nil
      refine step_build_one rfl 31 72 (.tmp 28) rfl (Cf.pcells p tv) rfl Tryz.underlying31 39 (by kernel_rfl) (by simp [Cf.pcells, byteVals_length, HPL5.out]) (by decide) (by decide) ?_
      have c12 : (w5.alloc (.cells (Cf.pcells p tv) 72)).cell? ⟨C, 12, none⟩ = some pv := by rw [(HX5.out.alloc _).cell 12]; simp [byteVals_length, hid]
      refine hK _ _ ?_
      clear hK K
      try simp only [Act.put, List.getElem_toArray, List.getElem_cons_succ, List.getElem_cons_zero, List.setIfInBounds_toArray, List.set]
      refine wpAny_ready (rs := [4]) (by kernel_rfl) (by simp) ?_
      refine AllReady.cons (by first | (simp only [List.getElem?_toArray, List.getElem?_cons_succ, List.getElem?_cons_zero]; done) | (simp only [List.getElem?_toArray, List.getElem?_cons_succ, List.getElem?_cons_zero]; rfl)) (fun K hK => ?_) AllReady.nil
      go_simp
      refine hK _ _ ?_
      clear hK K
      try simp only [Act.put, List.getElem_toArray, List.getElem_cons_succ, List.getElem_cons_zero, List.setIfInBounds_toArray, List.set]
      refine wpAny_ready (rs := [7]) (by kernel_rfl) (by simp) ?_
      refine AllReady.cons (by first | (simp only [List.getElem?_toArray, List.getElem?_cons_succ, List.getElem?_cons_zero]; done) | (simp only [List.getElem?_toArray, List.getElem?_cons_succ, List.getElem?_cons_zero]; rfl)) (fun K hK => ?_) AllReady.nil
      refine step_append_own rfl (.tmp 27) (.tmp 29) 31 rfl base 72 ti tz 39 104 Tryz.underlying31 hti htz hz1 hz2 hz3 (by decide) pv ps.length _ rfl (World.ownsRow.alloc (owns_only hps.1 HO5.out (by simpa using hCb)) _) ⟨w5.heap.size, 0, none⟩ 1 1 (Cf.pcells p tv).toList rfl (by simp [Cf.pcells, byteVals_length, HPL5.out]) (fun j u hj => by rw [addr_add, (rowIs_new w5 72 (Cf.pcells p tv)).cell, ← Array.getElem?_toList]; exact hj) (Cf.pcells_one HT5.out) (by unfold maxLen; omega) (by omega) (by rw [World.size_alloc]; omega) ?_
      intro v' w7 hown' hgrow
      obtain ⟨hP7, hlow, hH7, hz7, hb7⟩ := Cf.port_appended hps HO5.out hCb hbase HT5.out HPL5.out hs5 hown' hgrow
      have HP7 := Lib.hid hP7
      have HX7 := Lib.hid (show RowIs w7 C 33 (byteVals id ++ [a0, b0, c0, d0, pv]).toArray from (hlow C hCb).trans HX5.out)
      have HK7 := Lib.hid (show RowIs w7 w.heap.size 4 #[.bool false] from hH7.trans HK5.out)
      have HB7 := Lib.hid (HB5.out.trans (hb7.mono (by omega)))
      have HTu7 : Hid (Cf.Turned C base w w7) := ⟨Nat.le_trans HO5.out.1 hz7, fun j h1 h2 => (hlow j h1).trans (HO5.out.2 j (by omega) (by simpa using h2))⟩
      clear hP7 hlow hH7 hz7 hb7 hown' hgrow
      refine hK _ _ ?_
      clear hK K
      try simp only [Act.put, List.getElem_toArray, List.getElem_cons_succ, List.getElem_cons_zero, List.setIfInBounds_toArray, List.set]
      refine wpAny_take (i := 8) (v := .pointer (some ⟨C, 0, none⟩)) rfl (by kernel_rfl) (by kernel_rfl) (by kernel_rfl) (fun _ _ _ h => line_q (by decide) h) (Or.inl ⟨by rfl, ?_⟩) ?_
      · (intro w; go_simp)
      refine wpAny_take (i := 9) (v := .pointer (some ⟨C, 12, none⟩)) rfl (by kernel_rfl) (by kernel_rfl) (by kernel_rfl) (fun _ _ _ h => line_q (by decide) h) (Or.inl ⟨by rfl, ?_⟩) ?_
      · (intro w; go_simp)
      try simp only [Act.put, List.getElem_toArray, List.getElem_cons_succ, List.getElem_cons_zero, List.setIfInBounds_toArray, List.set]
      refine wpAny_ready (rs := [10]) (by kernel_rfl) (by simp) ?_
      refine AllReady.cons (by first | (simp only [List.getElem?_toArray, List.getElem?_cons_succ, List.getElem?_cons_zero]; done) | (simp only [List.getElem?_toArray, List.getElem?_cons_succ, List.getElem?_cons_zero]; rfl)) (fun K hK => ?_) AllReady.nil
      refine step_store_cell rfl 31 (.tmp 32) (.tmp 30) rfl C 12 v' rfl rfl 33 _ HX7.out (by simp [byteVals_length, hid]) (by kernel_rfl) (Cf.owns_one HP7.out.1) B hBC ?_
      intro w8 hR hO hs hb
      have HX8 : Hid (RowIs w8 C 33 (byteVals id ++ [a0, b0, c0, d0, v']).toArray) := by
        show RowIs _ _ _ _
        have e : (byteVals id ++ [a0, b0, c0, d0, pv]).set 12 v' = byteVals id ++ [a0, b0, c0, d0, v'] := by
          rw [List.set_append_right _ _ (by simp [byteVals_length, hid])]
          simp [byteVals_length, hid]
        rw [← e]
        simpa using hR
      have HP8 := Lib.hid (HP7.out.stored hO hCb)
      have HK8 := Lib.hid (show RowIs w8 w.heap.size 4 #[.bool false] from (hO _ (by omega)).trans HK7.out)
      have HB8 := Lib.hid (HB7.out.trans hb)
      have HTu8 : Hid (Cf.Turned C base w w8) := ⟨by rw [hs]; exact HTu7.out.1, fun j h1 h2 => (hO j h2).trans (HTu7.out.2 j h1 h2)⟩
      clear hR hO hs hb
      refine hK _ _ ?_
      clear hK K
      try simp only [Act.put, List.getElem_toArray, List.getElem_cons_succ, List.getElem_cons_zero, List.setIfInBounds_toArray, List.set]
      refine wpAny_done (by kernel_rfl) ?_ _
      go_wp2_with ((with_reducible refine at_store 4 (.tmp 6) (.const (.bool true)) ?_); refine wpList_store_cell rfl 4 (.tmp 6) (.const (.bool true)) rfl w.heap.size 0 _ rfl rfl 4 _ HK8.out (by simp) (by kernel_rfl) rfl B (by omega) ?_)
      intro w10 hK hO hs hb
      have HK10 : Hid (RowIs w10 w.heap.size 4 #[.bool true]) := hK
      have HX10 := Lib.hid (show RowIs w10 C 33 _ from (hO _ (by omega)).trans HX8.out)
      have HP10 := Lib.hid (Cf.Ports.other HP8.out HK8.out hO)
      have HTu10 : Hid (Cf.Turned C base w w10) := ⟨by rw [hs]; exact HTu8.out.1, fun j h1 h2 => (hO j (by omega)).trans (HTu8.out.2 j h1 h2)⟩
      have HB10 := Lib.hid (HB8.out.trans hb)
      clear hK hO hs hb
      go_wp2_with fail
      refine leaves_cons (f := 35) (args := #[.pointer (some ⟨w.heap.size, 0, none⟩)]) (by simp) (by simp [go_sem]) ?_
      refine (line_idle w.heap.size _).mono ?_
      rintro e u' w9 ⟨rfl, rfl, hb8⟩
      have hk9 := HK10.out.kept hb8
      have hc9 : w9.cell? ⟨w.heap.size, 0, none⟩ = some (.bool true) := hk9.cell 0
      have hO9 : Cf.Turned C base w w9 := ⟨Nat.le_trans HTu10.out.1 hb8.size, fun j h1 h2 => (hb8.block j (by have := HTu10.out.1; omega)).trans (HTu10.out.2 j h1 h2)⟩
      have hb9 : Below B w w9 := HB10.out.trans (hb8.mono (Nat.le_trans (show B ≤ w.heap.size by omega) HTu10.out.1))
      simp [Leaves, settle, results, Tryz.results16, go_sem, hc9]
      rw [HPT.out]
      refine ⟨rfl, fun p' h => ?_, hO9, hb9⟩
      obtain rfl := Option.some.inj h
      exact ⟨v', HX10.out.kept hb8, tv, HP10.out.later hb8⟩
end Go.Proofs.YthfckdnennfnoaaGreatDoor
