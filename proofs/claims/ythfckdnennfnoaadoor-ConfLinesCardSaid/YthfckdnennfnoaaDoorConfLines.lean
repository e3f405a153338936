/- The walk of ConfLines. By an AI agent. -/
import Derived.Test.YthfckdnennfnoaaDoorConfH
namespace Go.Proofs.YthfckdnennfnoaaDoor
open Go.RowKit Go.WideShapes Go.Sort Grow
namespace Cf
theorem ends_next {l : List UInt8} {k : Nat} (h : k < l.length) : ends k (l.drop k) = if l[k] = 10 then (k + 1) :: ends (k + 1) (l.drop (k + 1)) else ends (k + 1) (l.drop (k + 1)) := by
  rw [List.drop_eq_getElem_cons h]
  rfl
def iv (E : List Nat) : List Value := E.map fun x : Nat => Value.int .i64 (x : Int)
theorem iv_len (E : List Nat) : (iv E).length = E.length := by unfold iv; rw [List.length_map]
theorem iv_snoc (E : List Nat) (x : Nat) : iv (E ++ [x]) = iv E ++ [.int .i64 (x : Int)] := by unfold iv; rw [List.map_append]; rfl
theorem iv_at {E : List Nat} {k x : Nat} (h : E[k]? = some x) : (iv E)[k]? = some (.int .i64 (x : Int)) := by unfold iv; rw [List.getElem?_map, h]; rfl
end Cf

set_option maxRecDepth 20000 in
set_option maxHeartbeats 2000000 in
theorem confLines_bad (s : ByteArray) (a : Int) (hs : s.size ≤ 3000) {k : Nat} (h : Cf.scan0 (Cf.linesB s) = .inl k) (w : World) : Calls Tryd.prog 3 #[.string s, .int .u8 a] w fun e w' => e = .returned (.bool true) ∧ Below w.heap.size w w' := by
  have d1 : decide (3000 < (s.size : Int)) = false := decide_eq_false (by omega)
  have HP := Lib.hid (fun w => parse_bad (by omega) h w)
  go_enter Tryd.func3, Tryd.ntmps3
  go_wp2_with fail
  refine (awake_any _).mono ?_
  rintro e w1 ⟨rfl, hb1⟩
  go_wp2_with fail
  refine (HP.out w1).mono ?_
  rintro e w2 ⟨rfl, hb2⟩
  have hbW := hb1.trans (hb2.mono hb1.size)
  clear hb1 hb2
  unfold Cf.zconf
  go_wp2_with ((with_reducible refine at_store 29 (.tmp 5) (.tmp 25) ?_); refine wpList_store_own rfl 29 (.tmp 5) (.tmp 25) rfl w2.heap.size #[.int .u8 0, .int .u8 0, .int .u8 0, .int .u8 0, .int .u8 0, .int .u8 0, .int .u8 0, .int .u8 0, .int .i64 0, .int .i64 0, .int .i64 0, .int .i64 0, .slice none 0 0] rfl rfl 29 _ (rowIs_new w2 _ _) Cf.info_conf rfl (by simp [Value.oneCell']) w2.heap.size (Nat.le_refl _) ?_)
  intro w3 _ _ _ hb3
  have hbW := hbW.trans ((((Below.refl _ w2).alloc (Nat.le_refl _) _).trans hb3).mono hbW.size)
  clear hb3
  go_wp2_with fail
  go_ret
  exact ⟨rfl, hbW⟩


set_option maxRecDepth 20000 in
set_option maxHeartbeats 2000000 in
theorem confLines_arg (s : ByteArray) (a : Int) (hs : s.size ≤ 3000) {b : Cf.Br} {ps : List Cf.Pt} (h : Cf.scan0 (Cf.linesB s) = .inr (b, ps)) (hc : Cf.cOk b ps = false) (w : World) : Calls Tryd.prog 3 #[.string s, .int .u8 a] w fun e w' => e = .returned (.bool true) ∧ Below w.heap.size w w' := by
  have d1 : decide (3000 < (s.size : Int)) = false := decide_eq_false (by omega)
  have HP := Lib.hid (fun w => parse_arg (by omega) h hc w)
  go_enter Tryd.func3, Tryd.ntmps3
  go_wp2_with fail
  refine (awake_any _).mono ?_
  rintro e w1 ⟨rfl, hb1⟩
  go_wp2_with fail
  refine (HP.out w1).mono ?_
  rintro e w2 ⟨rfl, hb2⟩
  have hbW := hb1.trans (hb2.mono hb1.size)
  clear hb1 hb2
  unfold Cf.zconf
  go_wp2_with ((with_reducible refine at_store 29 (.tmp 5) (.tmp 25) ?_); refine wpList_store_own rfl 29 (.tmp 5) (.tmp 25) rfl w2.heap.size #[.int .u8 0, .int .u8 0, .int .u8 0, .int .u8 0, .int .u8 0, .int .u8 0, .int .u8 0, .int .u8 0, .int .i64 0, .int .i64 0, .int .i64 0, .int .i64 0, .slice none 0 0] rfl rfl 29 _ (rowIs_new w2 _ _) Cf.info_conf rfl (by simp [Value.oneCell']) w2.heap.size (Nat.le_refl _) ?_)
  intro w3 _ _ _ hb3
  have hbW := hbW.trans ((((Below.refl _ w2).alloc (Nat.le_refl _) _).trans hb3).mono hbW.size)
  clear hb3
  go_wp2_with fail
  go_ret
  exact ⟨rfl, hbW⟩

set_option maxRecDepth 20000 in
set_option maxHeartbeats 4000000 in
theorem confLines_good (s : ByteArray) (a : Nat) (ha : a ≤ 255) (hs : s.size ≤ 3000) {b : Cf.Br} {ps : List Cf.Pt} (h : Cf.scan0 (Cf.linesB s) = .inr (b, ps)) (hc : Cf.cOk b ps = true) (w : World) : Calls Tryd.prog 3 #[.string s, .int .u8 (a : Int)] w fun e w' => e = .returned (.bool true) ∧ Below w.heap.size w w' := by
  have d1 : decide (3000 < (s.size : Int)) = false := decide_eq_false (by omega)
  have hel : (Cf.ends 0 s.data.toList).length = ps.length + 1 := (Cf.read_ends h).1
  have hlz : s.data.toList.length = s.size := by simp
  have hpl : ps.length + 1 ≤ 3000 := by
    have h1 := (Cf.read_ends h).2
    have h2 := Cf.linesB_len s
    simp only at h1
    omega
  have HP := Lib.hid (fun w => parse_len (by omega) h hc w)
  have HQ : Hid (∀ (k e : Nat) (t : ByteArray), (Cf.ends 0 s.data.toList)[k]? = some e → t.data.toList = s.data.toList.take e ++ ([63, 10] ++ s.data.toList.drop e) → e ≤ s.size ∧ Cf.scan0 (Cf.linesB t) = .inl (k + 2)) := fun k e t hk ht => Cf.read_put h hk ht
  clear h hc
  obtain ⟨ti, tz, hi, hz, hz1, hz2, hz3⟩ := info_int
  have HTI := Lib.hid hi
  have HTZ := Lib.hid hz
  clear hi hz
  go_enter Tryd.func3, Tryd.ntmps3
  go_wp2_with fail
  refine (awake_any _).mono ?_
  rintro e w1 ⟨rfl, hb1⟩
  go_wp2_with fail
  refine (HP.out w1).mono ?_
  rintro e w2 ⟨⟨x, ao, cap, rfl⟩, hb2⟩
  have hbW := hb1.trans (hb2.mono hb1.size)
  have hbW0 := hbW.size
  clear hb1 hb2 HP
  go_upto_region 4 with ((with_reducible refine at_store 29 (.tmp 5) (.tmp 25) ?_); refine wpList_store_own rfl 29 (.tmp 5) (.tmp 25) rfl w2.heap.size #[.int .u8 ((x.f 0).toNat : Int), .int .u8 ((x.f 1).toNat : Int), .int .u8 ((x.f 2).toNat : Int), .int .u8 ((x.f 3).toNat : Int), .int .u8 ((x.f 4).toNat : Int), .int .u8 ((x.f 5).toNat : Int), .int .u8 ((x.f 6).toNat : Int), .int .u8 ((x.f 7).toNat : Int), .int .i64 b.maxAge, .int .i64 b.hello, .int .i64 b.delay, .int .i64 b.ageing, .slice ao ps.length cap] rfl rfl 29 _ (rowIs_new w2 _ _) Cf.info_conf rfl (by simp [Value.oneCell']) w2.heap.size (Nat.le_refl _) ?_)
  intro w3 hR _ hs3 hb3
  have hbW := hbW.trans ((((Below.refl _ w2).alloc (Nat.le_refl _) _).trans hb3).mono hbW.size)
  have HR := Lib.hid hR
  clear hb3 hR
  have hsz : w3.heap.size = w2.heap.size + 1 := by simpa using hs3
  clear hs3
  generalize hH : w2.heap.size = H at *
  go_upto_region 8 with fail
  generalize hL : s.data.toList = l at *
  have HL := Lib.hid hL
  have HZ := Lib.hid hsz
  have HWH : Hid (w.heap.size ≤ H) := hbW0
  clear hL hsz
  go_loopw [8, 9] (fun v8 i wr => ∃ (k : Nat) (E : List Nat), k ≤ s.size ∧ i = .int .i64 k ∧ Hid (E ++ Cf.ends k (l.drop k) = Cf.ends 0 l) ∧ E.length ≤ k ∧ Hid (wr.ownsRow (H + 1) 3 1 v8 E.length (Cf.iv E)) ∧ Hid (RowIs wr H 29 #[.int .u8 ((x.f 0).toNat : Int), .int .u8 ((x.f 1).toNat : Int), .int .u8 ((x.f 2).toNat : Int), .int .u8 ((x.f 3).toNat : Int), .int .u8 ((x.f 4).toNat : Int), .int .u8 ((x.f 5).toNat : Int), .int .u8 ((x.f 6).toNat : Int), .int .u8 ((x.f 7).toNat : Int), .int .i64 b.maxAge, .int .i64 b.hello, .int .i64 b.delay, .int .i64 b.ageing, .slice ao ps.length cap]) ∧ Below w.heap.size w wr) (fun _ i _ => s.size - (RowKit.intOf i).toNat)
  case atStart => exact ⟨0, [], Nat.zero_le _, rfl, rfl, Nat.le_refl _, World.ownsRow_nil _ _ _ _, HR.out, hbW⟩
  case round =>
    clear HR hbW
    rename World => wr
    obtain ⟨k, E, hk, rfl, HE, hEk, HO, HR, hbr⟩ := hrel
    by_cases hlt : k < s.size
    · have hltl : k < l.length := by rw [hlz]; exact hlt
      have hix : ∀ w, (Instr.index 9 (.string s) (.int .i64 (k : Int))).run Tryd.prog w = .ok (.int .u8 (s[k].toNat : Int)) w := fun w => by
        have h := run_index_string (P := Tryd.prog) (w := w) 9 s .i64 (k : Int) Tryd.underlying9
        rw [h]
        simp [hlt]
      have hb : s[k] = l[k] := by
        simp only [← HL.out]
        simp [ByteArray.getElem_eq_getElem_data]
      have HN := Lib.hid (Cf.ends_next hltl)
      rw [← hb] at HN
      generalize s[k] = c at *
      clear hb
      by_cases hc : c = 10
      · have hq : ((c.toNat : Int) == 10) = true := by subst hc; rfl
        have HN2 : Hid (Cf.ends k (l.drop k) = (k + 1) :: Cf.ends (k + 1) (l.drop (k + 1))) := by show _ = _; rw [HN.out, if_pos hc]
        clear hc HN
        go_wp2_with (at_builtin; refine wpList_append_own _ rfl (.tmp 40) (.tmp 43) 33 rfl (H + 1) 3 ti tz 1 8 Tryd.underlying33 HTI.out HTZ.out hz1 hz2 hz3 (by decide) _ E.length _ rfl (World.ownsRow.alloc HO.out _) ⟨wr.heap.size, 0, none⟩ 1 1 [.int .i64 ((k : Int) + 1)] rfl rfl (cell_one_new _ _ _) (by simp [Value.oneCell']) ?d2 ?d3 ?d4 ?_)
        case d2 => simp [maxLen]; omega
        case d3 => omega
        case d4 => have := HR.out.lt; simp; omega
        intro v' w' ho hg _
        have HO' : Hid (w'.ownsRow (H + 1) 3 1 v' (E ++ [k + 1]).length (Cf.iv (E ++ [k + 1]))) := by
          show World.ownsRow _ _ _ _ _ _ _
          rw [Cf.iv_snoc, List.length_append, List.length_singleton]
          exact ho
        have hge : ∀ j, u8.ownBlock = some j → H + 1 ≤ j := fun j hj => (Cf.owns_block' HO.out hj).1
        have hwH := HR.out.lt
        have HR' : Hid (RowIs w' H 29 #[.int .u8 ((x.f 0).toNat : Int), .int .u8 ((x.f 1).toNat : Int), .int .u8 ((x.f 2).toNat : Int), .int .u8 ((x.f 3).toNat : Int), .int .u8 ((x.f 4).toNat : Int), .int .u8 ((x.f 5).toNat : Int), .int .u8 ((x.f 6).toNat : Int), .int .u8 ((x.f 7).toNat : Int), .int .i64 b.maxAge, .int .i64 b.hello, .int .i64 b.delay, .int .i64 b.ageing, .slice ao ps.length cap]) := (hg.block H (by simp; omega) (fun e => by have := hge H e.symm; omega)).trans (HR.out.alloc _)
        have hb' : Below w.heap.size w w' := hbr.trans (((Below.refl _ _).alloc hbr.size _).grown hg (by have := hbr.size; simp; omega) (fun j e => by have := hge j e; have := HWH.out; omega))
        have HE' : Hid ((E ++ [k + 1]) ++ Cf.ends (k + 1) (l.drop (k + 1)) = Cf.ends 0 l) := by show _ = _; rw [List.append_assoc, ← HE.out, HN2.out]; rfl
        clear ho hg hge hwH HO HR hbr hix HN2
        go_wp2_with fail
        exact ⟨⟨k + 1, E ++ [k + 1], by omega, by go_num, HE', by rw [List.length_append, List.length_singleton]; omega, HO', HR', hb'⟩, by simp [RowKit.intOf]; omega⟩
      · have hq : ((c.toNat : Int) == 10) = false := beq_eq_false_iff_ne.2 (fun h => hc (UInt8.toNat_inj.1 (by show c.toNat = 10; omega)))
        have HE' : Hid (E ++ Cf.ends (k + 1) (l.drop (k + 1)) = Cf.ends 0 l) := by show _ = _; rw [← HE.out, HN.out, if_neg hc]
        clear hc HN
        go_wp2_with fail
        exact ⟨⟨k + 1, E, by omega, by go_num, HE', by omega, HO, HR, hbr⟩, by simp [RowKit.intOf]; omega⟩
    · obtain rfl : k = s.size := by omega
      have hEE : E = Cf.ends 0 l := by
        have := HE.out
        rw [List.drop_eq_nil_of_le (by omega)] at this
        simpa [Cf.ends] using this
      subst hEE
      rw [hel] at HO
      obtain ⟨g, cape, rfl⟩ := ownsRow_succ HO.out
      have c12 : wr.cell? ⟨H, 12, none⟩ = some (.slice ao ps.length cap) := HR.out.cell 12
      have hm : (a : Int).tmod ((ps.length : Int) + 1) = ((a % (ps.length + 1) : Nat) : Int) := by rw [Int.tmod_eq_emod_of_nonneg (by omega)]; rfl
      have hkl : a % (ps.length + 1) < ps.length + 1 := Nat.mod_lt _ (by omega)
      generalize a % (ps.length + 1) = q at *
      have hEk : ∃ e, (Cf.ends 0 l)[q]? = some e := ⟨_, List.getElem?_eq_getElem (by rw [hel]; exact hkl)⟩
      obtain ⟨en, hen⟩ := hEk
      have hce : wr.cell? ⟨g, q, none⟩ = some (.int .i64 (en : Int)) := by
        rw [World.ownsRow.cellAt HO.out _ (by omega)]
        exact Cf.iv_at hen
      have hQ := HQ.out (q) en (s.extract 0 en ++ ⟨#[63, 10]⟩ ++ s.extract en s.size) hen (by rw [← HL.out]; simp [List.take_of_length_le])
      have hes : en ≤ s.size := hQ.1
      have HPQ := Lib.hid (fun w => parse_bad (w := w) (by
        simp only [ByteArray.size_append, ByteArray.size_extract]
        show _ + 2 + _ ≤ 8192
        omega) hQ.2)
      clear hQ HQ hen HE hel
      have dl : (((ps.length : Int) + 1) == ((ps.length : Int) + 1)) = true := beq_self_eq_true _
      go_upto_region 14 with fail
      go_upto_region 15 with fail
      have hwH := HR.out.lt
      have he1 : (0 : Int) ≤ (q : Int) := by omega
      have he2 : (q : Int) < (ps.length : Int) + 1 := by omega
      have hs1 : ∀ w, (Instr.slice 9 (.string s) none (some (.int .i64 (en : Int))) none).run Tryd.prog w = .ok (.string (s.extract 0 en)) w := fun w => by
        have h := run_slice_string_h (P := Tryd.prog) (t := 9) (s := s) (w := w) Tryd.underlying9 .i64 (en : Int) (by omega) (by omega)
        simpa using h
      have hs2 : ∀ w, (Instr.slice 9 (.string s) (some (.int .i64 (en : Int))) none none).run Tryd.prog w = .ok (.string (s.extract en s.size)) w := fun w => by
        have h := run_slice_string_l (P := Tryd.prog) (t := 9) (s := s) (w := w) Tryd.underlying9 .i64 (en : Int) (by omega) (by omega)
        simpa using h
      clear HO HR hm dl c12
      refine wp_region_any (by kernel_rfl) ?_
      try (change wpAny _ _ _ _ _ _ _ (World.drew _))
      have hce : wr.drew.cell? ⟨g, q, none⟩ = some (.int .i64 (en : Int)) := hce
      have hbr : Below w.heap.size w wr.drew := hbr.trans ⟨rfl, rfl, rfl, Nat.le_refl _, fun _ _ => rfl⟩
      generalize wr.drew = v0 at *
      refine wpAny_take (i := 0) (v := .string s) rfl (by kernel_rfl) (by kernel_rfl) (by kernel_rfl) (fun _ _ _ h => h) (Or.inl ⟨by rfl, ?_⟩) ?_
      · (intro w; go_simp; try omega)
      refine wpAny_take (i := 1) (v := .slice (some ⟨g, 0, none⟩) (ps.length + 1) cape) rfl (by kernel_rfl) (by kernel_rfl) (by kernel_rfl) (fun _ _ _ h => h) (Or.inl ⟨by rfl, ?_⟩) ?_
      · (intro w; go_simp; try omega)
      refine wpAny_take (i := 2) (v := .int .i64 q) rfl (by kernel_rfl) (by kernel_rfl) (by kernel_rfl) (fun _ _ _ h => h) (Or.inl ⟨by rfl, ?_⟩) ?_
      · (intro w; go_simp; try omega)
      refine wpAny_take (i := 3) (v := .pointer (some ⟨g, q, none⟩)) rfl (by kernel_rfl) (by kernel_rfl) (by kernel_rfl) (fun _ _ _ h => h) (Or.inl ⟨by rfl, ?_⟩) ?_
      · (intro w; go_simp; try omega)
      refine wpAny_take (i := 7) (v := .string s) rfl (by kernel_rfl) (by kernel_rfl) (by kernel_rfl) (fun _ _ _ h => h) (Or.inl ⟨by rfl, ?_⟩) ?_
      · (intro w; go_simp; try omega)
      refine wpAny_take (i := 8) (v := .slice (some ⟨g, 0, none⟩) (ps.length + 1) cape) rfl (by kernel_rfl) (by kernel_rfl) (by kernel_rfl) (fun _ _ _ h => h) (Or.inl ⟨by rfl, ?_⟩) ?_
      · (intro w; go_simp; try omega)
      refine wpAny_take (i := 9) (v := .int .i64 q) rfl (by kernel_rfl) (by kernel_rfl) (by kernel_rfl) (fun _ _ _ h => h) (Or.inl ⟨by rfl, ?_⟩) ?_
      · (intro w; go_simp; try omega)
      refine wpAny_take (i := 10) (v := .pointer (some ⟨g, q, none⟩)) rfl (by kernel_rfl) (by kernel_rfl) (by kernel_rfl) (fun _ _ _ h => h) (Or.inl ⟨by rfl, ?_⟩) ?_
      · (intro w; go_simp; try omega)
      try simp only [Act.put, List.getElem_toArray, List.getElem_cons_succ, List.getElem_cons_zero, List.setIfInBounds_toArray, List.set]
      refine wpAny_ready (rs := [4, 11, 19]) (by kernel_rfl) (by simp) ?_
      refine AllReady.cons (by first | (simp only [List.getElem?_toArray, List.getElem?_cons_succ, List.getElem?_cons_zero]; done) | (simp only [List.getElem?_toArray, List.getElem?_cons_succ, List.getElem?_cons_zero]; rfl)) (fun K hK => ?_) ?_
      case refine_1 =>
        go_simp
        refine hK _ _ ?_
        clear hK K
        try simp only [Act.put, List.getElem_toArray, List.getElem_cons_succ, List.getElem_cons_zero, List.setIfInBounds_toArray, List.set]
        refine wpAny_take (i := 5) (v := .string (s.extract 0 en)) rfl (by kernel_rfl) (by kernel_rfl) (by kernel_rfl) (fun _ _ _ h => h) (Or.inl ⟨by rfl, ?_⟩) ?_
        · (intro w; go_simp; try omega)
        refine wpAny_take (i := 6) (v := .string (s.extract 0 en ++ ⟨#[63, 10]⟩)) rfl (by kernel_rfl) (by kernel_rfl) (by kernel_rfl) (fun _ _ _ h => h) (Or.inl ⟨by rfl, ?_⟩) ?_
        · (intro w; go_simp; try omega)
        try simp only [Act.put, List.getElem_toArray, List.getElem_cons_succ, List.getElem_cons_zero, List.setIfInBounds_toArray, List.set]
        generalize v0 = v1 at *
        refine wpAny_ready (rs := [11, 19]) (by kernel_rfl) (by simp) ?_
        refine AllReady.cons (by first | (simp only [List.getElem?_toArray, List.getElem?_cons_succ, List.getElem?_cons_zero]; done) | (simp only [List.getElem?_toArray, List.getElem?_cons_succ, List.getElem?_cons_zero]; rfl)) (fun K hK => ?_) ?_
        case refine_1 =>
          go_simp
          refine hK _ _ ?_
          clear hK K
          try simp only [Act.put, List.getElem_toArray, List.getElem_cons_succ, List.getElem_cons_zero, List.setIfInBounds_toArray, List.set]
          refine wpAny_take (i := 12) (v := .string (s.extract en s.size)) rfl (by kernel_rfl) (by kernel_rfl) (by kernel_rfl) (fun _ _ _ h => h) (Or.inl ⟨by rfl, ?_⟩) ?_
          · (intro w; go_simp; try omega)
          try simp only [Act.put, List.getElem_toArray, List.getElem_cons_succ, List.getElem_cons_zero, List.setIfInBounds_toArray, List.set]
          refine wpAny_take (i := 13) (v := .string (s.extract 0 en ++ ⟨#[63, 10]⟩ ++ s.extract en s.size)) rfl (by kernel_rfl) (by kernel_rfl) (by kernel_rfl) (fun _ _ _ h => h) (Or.inl ⟨by rfl, ?_⟩) ?_
          · (intro w; go_simp; try omega)
          try simp only [Act.put, List.getElem_toArray, List.getElem_cons_succ, List.getElem_cons_zero, List.setIfInBounds_toArray, List.set]
          generalize v1 = v2 at *
          refine wpAny_ready (rs := [14, 19]) (by kernel_rfl) (by simp) ?_
          refine AllReady.cons (by first | (simp only [List.getElem?_toArray, List.getElem?_cons_succ, List.getElem?_cons_zero]; done) | (simp only [List.getElem?_toArray, List.getElem?_cons_succ, List.getElem?_cons_zero]; rfl)) (fun K hK => ?_) ?_
          case refine_1 =>
            go_simp
            refine (HPQ.out _).mono ?_
            rintro e v3 ⟨rfl, hb'⟩
            have hce' : v3.cell? ⟨g, q, none⟩ = some (.int .i64 (en : Int)) := (hb'.cell (p := ⟨g, q, none⟩) (block_lt_of_cell hce)).trans hce
            have hbW' := hbr.trans (hb'.mono hbr.size)
            clear hb' hce hbr
            have hce := hce'
            have hbr := hbW'
            clear hce' hbW'
            unfold Cf.zconf
            refine hK _ _ ?_
            clear hK K
            try simp only [Act.put, List.getElem_toArray, List.getElem_cons_succ, List.getElem_cons_zero, List.setIfInBounds_toArray, List.set]
            refine wpAny_take (i := 15) (v := .tuple #[.agg #[.int .u8 0, .int .u8 0, .int .u8 0, .int .u8 0, .int .u8 0, .int .u8 0, .int .u8 0, .int .u8 0, .int .i64 0, .int .i64 0, .int .i64 0, .int .i64 0, .slice none 0 0], .int .i64 ((q + 2 : Nat) : Int), .int .i64 11]) rfl (by kernel_rfl) (by kernel_rfl) (by kernel_rfl) (fun _ _ _ h => h) (Or.inl ⟨by rfl, ?_⟩) ?_
            · (intro w; go_simp; try omega)
            refine wpAny_take (i := 16) (v := .agg #[.int .u8 0, .int .u8 0, .int .u8 0, .int .u8 0, .int .u8 0, .int .u8 0, .int .u8 0, .int .u8 0, .int .i64 0, .int .i64 0, .int .i64 0, .int .i64 0, .slice none 0 0]) rfl (by kernel_rfl) (by kernel_rfl) (by kernel_rfl) (fun _ _ _ h => h) (Or.inl ⟨by rfl, ?_⟩) ?_
            · (intro w; go_simp; try omega)
            refine wpAny_take (i := 17) (v := .int .i64 ((q + 2 : Nat) : Int)) rfl (by kernel_rfl) (by kernel_rfl) (by kernel_rfl) (fun _ _ _ h => h) (Or.inl ⟨by rfl, ?_⟩) ?_
            · (intro w; go_simp; try omega)
            refine wpAny_take (i := 18) (v := .int .i64 11) rfl (by kernel_rfl) (by kernel_rfl) (by kernel_rfl) (fun _ _ _ h => h) (Or.inl ⟨by rfl, ?_⟩) ?_
            · (intro w; go_simp; try omega)
            try simp only [Act.put, List.getElem_toArray, List.getElem_cons_succ, List.getElem_cons_zero, List.setIfInBounds_toArray, List.set]
            refine wpAny_ready (rs := [19]) (by kernel_rfl) (by simp) ?_
            refine AllReady.cons (by first | (simp only [List.getElem?_toArray, List.getElem?_cons_succ, List.getElem?_cons_zero]; done) | (simp only [List.getElem?_toArray, List.getElem?_cons_succ, List.getElem?_cons_zero]; rfl)) (fun K hK => ?_) AllReady.nil
            go_simp
            have HA : Hid (RowIs (v3.alloc (.cells #[.int .u8 0, .int .u8 0, .int .u8 0, .int .u8 0, .int .u8 0, .int .u8 0, .int .u8 0, .int .u8 0, .int .i64 0, .int .i64 0, .int .i64 0, .int .i64 0, .slice none 0 0] 29)) v3.heap.size 29 #[.int .u8 0, .int .u8 0, .int .u8 0, .int .u8 0, .int .u8 0, .int .u8 0, .int .u8 0, .int .u8 0, .int .i64 0, .int .i64 0, .int .i64 0, .int .i64 0, .slice none 0 0]) := rowIs_new v3 _ _
            have hb' : Below v3.heap.size v3 (v3.alloc (.cells #[.int .u8 0, .int .u8 0, .int .u8 0, .int .u8 0, .int .u8 0, .int .u8 0, .int .u8 0, .int .u8 0, .int .i64 0, .int .i64 0, .int .i64 0, .int .i64 0, .slice none 0 0] 29)) := (Below.refl _ _).alloc (Nat.le_refl _) _
            have hce' : (v3.alloc (.cells #[.int .u8 0, .int .u8 0, .int .u8 0, .int .u8 0, .int .u8 0, .int .u8 0, .int .u8 0, .int .u8 0, .int .i64 0, .int .i64 0, .int .i64 0, .int .i64 0, .slice none 0 0] 29)).cell? ⟨g, q, none⟩ = some (.int .i64 (en : Int)) := (hb'.cell (p := ⟨g, q, none⟩) (block_lt_of_cell hce)).trans hce
            have hbW' := hbr.trans (hb'.mono hbr.size)
            have hwb : w.heap.size ≤ v3.heap.size := hbr.size
            have hs' : (v3.alloc (.cells #[.int .u8 0, .int .u8 0, .int .u8 0, .int .u8 0, .int .u8 0, .int .u8 0, .int .u8 0, .int .u8 0, .int .i64 0, .int .i64 0, .int .i64 0, .int .i64 0, .slice none 0 0] 29)).heap.size = v3.heap.size + 1 := by simp
            clear hb' hce hbr
            have hce := hce'
            have hbr := hbW'
            clear hce' hbW'
            refine hK _ _ ?_
            clear hK K
            try simp only [Act.put, List.getElem_toArray, List.getElem_cons_succ, List.getElem_cons_zero, List.setIfInBounds_toArray, List.set]
            generalize v3.alloc (.cells #[.int .u8 0, .int .u8 0, .int .u8 0, .int .u8 0, .int .u8 0, .int .u8 0, .int .u8 0, .int .u8 0, .int .i64 0, .int .i64 0, .int .i64 0, .int .i64 0, .slice none 0 0] 29) = v4 at *
            generalize v3.heap.size = nb at *
            clear hs'
            refine wpAny_ready (rs := [20]) (by kernel_rfl) (by simp) ?_
            refine AllReady.cons (by first | (simp only [List.getElem?_toArray, List.getElem?_cons_succ, List.getElem?_cons_zero]; done) | (simp only [List.getElem?_toArray, List.getElem?_cons_succ, List.getElem?_cons_zero]; rfl)) (fun K hK => ?_) AllReady.nil
            refine step_store_part rfl 29 (.tmp 11) (.tmp 73) rfl nb 0 #[.int .u8 0, .int .u8 0, .int .u8 0, .int .u8 0, .int .u8 0, .int .u8 0, .int .u8 0, .int .u8 0, .int .i64 0, .int .i64 0, .int .i64 0, .int .i64 0, .slice none 0 0] rfl rfl 29 #[.int .u8 0, .int .u8 0, .int .u8 0, .int .u8 0, .int .u8 0, .int .u8 0, .int .u8 0, .int .u8 0, .int .i64 0, .int .i64 0, .int .i64 0, .int .i64 0, .slice none 0 0] HA.out (by show 0 + 13 ≤ 13; decide) Cf.info_conf (by kernel_rfl) #[.int .u8 0, .int .u8 0, .int .u8 0, .int .u8 0, .int .u8 0, .int .u8 0, .int .u8 0, .int .u8 0, .int .i64 0, .int .i64 0, .int .i64 0, .int .i64 0, .slice none 0 0] rfl w.heap.size hwb ?_
            intro w9 _ _ _ hb9
            refine hK _ _ ?_
            clear hK K
            try simp only [Act.put, List.getElem_toArray, List.getElem_cons_succ, List.getElem_cons_zero, List.setIfInBounds_toArray, List.set]
            refine wpAny_take (i := 21) (v := .int .i64 ((q + 2 : Nat) : Int)) rfl (by kernel_rfl) (by kernel_rfl) (by kernel_rfl) (fun _ _ _ h => h) (Or.inl ⟨by rfl, ?_⟩) ?_
            · (intro w; go_simp; try omega)
            refine wpAny_take (i := 22) (v := .int .i64 11) rfl (by kernel_rfl) (by kernel_rfl) (by kernel_rfl) (fun _ _ _ h => h) (Or.inl ⟨by rfl, ?_⟩) ?_
            · (intro w; go_simp; try omega)
            try simp only [Act.put, List.getElem_toArray, List.getElem_cons_succ, List.getElem_cons_zero, List.setIfInBounds_toArray, List.set]
            have hbW9 := hbr.trans hb9
            clear hb9 hbr
            have dk : ((((q + 2 : Nat) : Int)) == (q : Int) + 2) = true := beq_iff_eq.2 (by omega)
            refine wpAny_done (by kernel_rfl) ?_ _
            go_wp2_with fail
            go_ret
            exact ⟨rfl, hbW9⟩
          refine AllReady.cons (by first | (simp only [List.getElem?_toArray, List.getElem?_cons_succ, List.getElem?_cons_zero]; done) | (simp only [List.getElem?_toArray, List.getElem?_cons_succ, List.getElem?_cons_zero]; rfl)) (fun K hK => ?_) AllReady.nil
          go_simp
          have HA : Hid (RowIs (v2.alloc (.cells #[.int .u8 0, .int .u8 0, .int .u8 0, .int .u8 0, .int .u8 0, .int .u8 0, .int .u8 0, .int .u8 0, .int .i64 0, .int .i64 0, .int .i64 0, .int .i64 0, .slice none 0 0] 29)) v2.heap.size 29 #[.int .u8 0, .int .u8 0, .int .u8 0, .int .u8 0, .int .u8 0, .int .u8 0, .int .u8 0, .int .u8 0, .int .i64 0, .int .i64 0, .int .i64 0, .int .i64 0, .slice none 0 0]) := rowIs_new v2 _ _
          have hb' : Below v2.heap.size v2 (v2.alloc (.cells #[.int .u8 0, .int .u8 0, .int .u8 0, .int .u8 0, .int .u8 0, .int .u8 0, .int .u8 0, .int .u8 0, .int .i64 0, .int .i64 0, .int .i64 0, .int .i64 0, .slice none 0 0] 29)) := (Below.refl _ _).alloc (Nat.le_refl _) _
          have hce' : (v2.alloc (.cells #[.int .u8 0, .int .u8 0, .int .u8 0, .int .u8 0, .int .u8 0, .int .u8 0, .int .u8 0, .int .u8 0, .int .i64 0, .int .i64 0, .int .i64 0, .int .i64 0, .slice none 0 0] 29)).cell? ⟨g, q, none⟩ = some (.int .i64 (en : Int)) := (hb'.cell (p := ⟨g, q, none⟩) (block_lt_of_cell hce)).trans hce
          have hbW' := hbr.trans (hb'.mono hbr.size)
          have hwb : w.heap.size ≤ v2.heap.size := hbr.size
          have hs' : (v2.alloc (.cells #[.int .u8 0, .int .u8 0, .int .u8 0, .int .u8 0, .int .u8 0, .int .u8 0, .int .u8 0, .int .u8 0, .int .i64 0, .int .i64 0, .int .i64 0, .int .i64 0, .slice none 0 0] 29)).heap.size = v2.heap.size + 1 := by simp
          clear hb' hce hbr
          have hce := hce'
          have hbr := hbW'
          clear hce' hbW'
          refine hK _ _ ?_
          clear hK K
          try simp only [Act.put, List.getElem_toArray, List.getElem_cons_succ, List.getElem_cons_zero, List.setIfInBounds_toArray, List.set]
          generalize v2.alloc (.cells #[.int .u8 0, .int .u8 0, .int .u8 0, .int .u8 0, .int .u8 0, .int .u8 0, .int .u8 0, .int .u8 0, .int .i64 0, .int .i64 0, .int .i64 0, .int .i64 0, .slice none 0 0] 29) = v3 at *
          generalize v2.heap.size = nb at *
          clear hs'
          refine wpAny_ready (rs := [14]) (by kernel_rfl) (by simp) ?_
          refine AllReady.cons (by first | (simp only [List.getElem?_toArray, List.getElem?_cons_succ, List.getElem?_cons_zero]; done) | (simp only [List.getElem?_toArray, List.getElem?_cons_succ, List.getElem?_cons_zero]; rfl)) (fun K hK => ?_) AllReady.nil
          go_simp
          refine (HPQ.out _).mono ?_
          rintro e v4 ⟨rfl, hb'⟩
          have HA := Lib.hid (HA.out.kept hb')
          have hce' : v4.cell? ⟨g, q, none⟩ = some (.int .i64 (en : Int)) := (hb'.cell (p := ⟨g, q, none⟩) (block_lt_of_cell hce)).trans hce
          have hbW' := hbr.trans (hb'.mono hbr.size)
          clear hb' hce hbr
          have hce := hce'
          have hbr := hbW'
          clear hce' hbW'
          unfold Cf.zconf
          refine hK _ _ ?_
          clear hK K
          try simp only [Act.put, List.getElem_toArray, List.getElem_cons_succ, List.getElem_cons_zero, List.setIfInBounds_toArray, List.set]
          refine wpAny_take (i := 15) (v := .tuple #[.agg #[.int .u8 0, .int .u8 0, .int .u8 0, .int .u8 0, .int .u8 0, .int .u8 0, .int .u8 0, .int .u8 0, .int .i64 0, .int .i64 0, .int .i64 0, .int .i64 0, .slice none 0 0], .int .i64 ((q + 2 : Nat) : Int), .int .i64 11]) rfl (by kernel_rfl) (by kernel_rfl) (by kernel_rfl) (fun _ _ _ h => h) (Or.inl ⟨by rfl, ?_⟩) ?_
          · (intro w; go_simp; try omega)
          refine wpAny_take (i := 16) (v := .agg #[.int .u8 0, .int .u8 0, .int .u8 0, .int .u8 0, .int .u8 0, .int .u8 0, .int .u8 0, .int .u8 0, .int .i64 0, .int .i64 0, .int .i64 0, .int .i64 0, .slice none 0 0]) rfl (by kernel_rfl) (by kernel_rfl) (by kernel_rfl) (fun _ _ _ h => h) (Or.inl ⟨by rfl, ?_⟩) ?_
          · (intro w; go_simp; try omega)
          refine wpAny_take (i := 17) (v := .int .i64 ((q + 2 : Nat) : Int)) rfl (by kernel_rfl) (by kernel_rfl) (by kernel_rfl) (fun _ _ _ h => h) (Or.inl ⟨by rfl, ?_⟩) ?_
          · (intro w; go_simp; try omega)
          refine wpAny_take (i := 18) (v := .int .i64 11) rfl (by kernel_rfl) (by kernel_rfl) (by kernel_rfl) (fun _ _ _ h => h) (Or.inl ⟨by rfl, ?_⟩) ?_
          · (intro w; go_simp; try omega)
          try simp only [Act.put, List.getElem_toArray, List.getElem_cons_succ, List.getElem_cons_zero, List.setIfInBounds_toArray, List.set]
          refine wpAny_ready (rs := [20]) (by kernel_rfl) (by simp) ?_
          refine AllReady.cons (by first | (simp only [List.getElem?_toArray, List.getElem?_cons_succ, List.getElem?_cons_zero]; done) | (simp only [List.getElem?_toArray, List.getElem?_cons_succ, List.getElem?_cons_zero]; rfl)) (fun K hK => ?_) AllReady.nil
          refine step_store_part rfl 29 (.tmp 11) (.tmp 73) rfl nb 0 #[.int .u8 0, .int .u8 0, .int .u8 0, .int .u8 0, .int .u8 0, .int .u8 0, .int .u8 0, .int .u8 0, .int .i64 0, .int .i64 0, .int .i64 0, .int .i64 0, .slice none 0 0] rfl rfl 29 #[.int .u8 0, .int .u8 0, .int .u8 0, .int .u8 0, .int .u8 0, .int .u8 0, .int .u8 0, .int .u8 0, .int .i64 0, .int .i64 0, .int .i64 0, .int .i64 0, .slice none 0 0] HA.out (by show 0 + 13 ≤ 13; decide) Cf.info_conf (by kernel_rfl) #[.int .u8 0, .int .u8 0, .int .u8 0, .int .u8 0, .int .u8 0, .int .u8 0, .int .u8 0, .int .u8 0, .int .i64 0, .int .i64 0, .int .i64 0, .int .i64 0, .slice none 0 0] rfl w.heap.size hwb ?_
          intro w9 _ _ _ hb9
          refine hK _ _ ?_
          clear hK K
          try simp only [Act.put, List.getElem_toArray, List.getElem_cons_succ, List.getElem_cons_zero, List.setIfInBounds_toArray, List.set]
          refine wpAny_take (i := 21) (v := .int .i64 ((q + 2 : Nat) : Int)) rfl (by kernel_rfl) (by kernel_rfl) (by kernel_rfl) (fun _ _ _ h => h) (Or.inl ⟨by rfl, ?_⟩) ?_
          · (intro w; go_simp; try omega)
          refine wpAny_take (i := 22) (v := .int .i64 11) rfl (by kernel_rfl) (by kernel_rfl) (by kernel_rfl) (fun _ _ _ h => h) (Or.inl ⟨by rfl, ?_⟩) ?_
          · (intro w; go_simp; try omega)
          try simp only [Act.put, List.getElem_toArray, List.getElem_cons_succ, List.getElem_cons_zero, List.setIfInBounds_toArray, List.set]
          have hbW9 := hbr.trans hb9
          clear hb9 hbr
          have dk : ((((q + 2 : Nat) : Int)) == (q : Int) + 2) = true := beq_iff_eq.2 (by omega)
          refine wpAny_done (by kernel_rfl) ?_ _
          go_wp2_with fail
          go_ret
          exact ⟨rfl, hbW9⟩
        refine AllReady.cons (by first | (simp only [List.getElem?_toArray, List.getElem?_cons_succ, List.getElem?_cons_zero]; done) | (simp only [List.getElem?_toArray, List.getElem?_cons_succ, List.getElem?_cons_zero]; rfl)) (fun K hK => ?_) AllReady.nil
        go_simp
        have HA : Hid (RowIs (v1.alloc (.cells #[.int .u8 0, .int .u8 0, .int .u8 0, .int .u8 0, .int .u8 0, .int .u8 0, .int .u8 0, .int .u8 0, .int .i64 0, .int .i64 0, .int .i64 0, .int .i64 0, .slice none 0 0] 29)) v1.heap.size 29 #[.int .u8 0, .int .u8 0, .int .u8 0, .int .u8 0, .int .u8 0, .int .u8 0, .int .u8 0, .int .u8 0, .int .i64 0, .int .i64 0, .int .i64 0, .int .i64 0, .slice none 0 0]) := rowIs_new v1 _ _
        have hb' : Below v1.heap.size v1 (v1.alloc (.cells #[.int .u8 0, .int .u8 0, .int .u8 0, .int .u8 0, .int .u8 0, .int .u8 0, .int .u8 0, .int .u8 0, .int .i64 0, .int .i64 0, .int .i64 0, .int .i64 0, .slice none 0 0] 29)) := (Below.refl _ _).alloc (Nat.le_refl _) _
        have hce' : (v1.alloc (.cells #[.int .u8 0, .int .u8 0, .int .u8 0, .int .u8 0, .int .u8 0, .int .u8 0, .int .u8 0, .int .u8 0, .int .i64 0, .int .i64 0, .int .i64 0, .int .i64 0, .slice none 0 0] 29)).cell? ⟨g, q, none⟩ = some (.int .i64 (en : Int)) := (hb'.cell (p := ⟨g, q, none⟩) (block_lt_of_cell hce)).trans hce
        have hbW' := hbr.trans (hb'.mono hbr.size)
        have hwb : w.heap.size ≤ v1.heap.size := hbr.size
        have hs' : (v1.alloc (.cells #[.int .u8 0, .int .u8 0, .int .u8 0, .int .u8 0, .int .u8 0, .int .u8 0, .int .u8 0, .int .u8 0, .int .i64 0, .int .i64 0, .int .i64 0, .int .i64 0, .slice none 0 0] 29)).heap.size = v1.heap.size + 1 := by simp
        clear hb' hce hbr
        have hce := hce'
        have hbr := hbW'
        clear hce' hbW'
        refine hK _ _ ?_
        clear hK K
        try simp only [Act.put, List.getElem_toArray, List.getElem_cons_succ, List.getElem_cons_zero, List.setIfInBounds_toArray, List.set]
        generalize v1.alloc (.cells #[.int .u8 0, .int .u8 0, .int .u8 0, .int .u8 0, .int .u8 0, .int .u8 0, .int .u8 0, .int .u8 0, .int .i64 0, .int .i64 0, .int .i64 0, .int .i64 0, .slice none 0 0] 29) = v2 at *
        generalize v1.heap.size = nb at *
        clear hs'
        refine wpAny_ready (rs := [11]) (by kernel_rfl) (by simp) ?_
        refine AllReady.cons (by first | (simp only [List.getElem?_toArray, List.getElem?_cons_succ, List.getElem?_cons_zero]; done) | (simp only [List.getElem?_toArray, List.getElem?_cons_succ, List.getElem?_cons_zero]; rfl)) (fun K hK => ?_) AllReady.nil
        go_simp
        refine hK _ _ ?_
        clear hK K
        try simp only [Act.put, List.getElem_toArray, List.getElem_cons_succ, List.getElem_cons_zero, List.setIfInBounds_toArray, List.set]
        refine wpAny_take (i := 12) (v := .string (s.extract en s.size)) rfl (by kernel_rfl) (by kernel_rfl) (by kernel_rfl) (fun _ _ _ h => h) (Or.inl ⟨by rfl, ?_⟩) ?_
        · (intro w; go_simp; try omega)
        try simp only [Act.put, List.getElem_toArray, List.getElem_cons_succ, List.getElem_cons_zero, List.setIfInBounds_toArray, List.set]
        refine wpAny_take (i := 13) (v := .string (s.extract 0 en ++ ⟨#[63, 10]⟩ ++ s.extract en s.size)) rfl (by kernel_rfl) (by kernel_rfl) (by kernel_rfl) (fun _ _ _ h => h) (Or.inl ⟨by rfl, ?_⟩) ?_
        · (intro w; go_simp; try omega)
        try simp only [Act.put, List.getElem_toArray, List.getElem_cons_succ, List.getElem_cons_zero, List.setIfInBounds_toArray, List.set]
        generalize v2 = v3 at *
        refine wpAny_ready (rs := [14]) (by kernel_rfl) (by simp) ?_
        refine AllReady.cons (by first | (simp only [List.getElem?_toArray, List.getElem?_cons_succ, List.getElem?_cons_zero]; done) | (simp only [List.getElem?_toArray, List.getElem?_cons_succ, List.getElem?_cons_zero]; rfl)) (fun K hK => ?_) AllReady.nil
        go_simp
        refine (HPQ.out _).mono ?_
        rintro e v4 ⟨rfl, hb'⟩
        have HA := Lib.hid (HA.out.kept hb')
        have hce' : v4.cell? ⟨g, q, none⟩ = some (.int .i64 (en : Int)) := (hb'.cell (p := ⟨g, q, none⟩) (block_lt_of_cell hce)).trans hce
        have hbW' := hbr.trans (hb'.mono hbr.size)
        clear hb' hce hbr
        have hce := hce'
        have hbr := hbW'
        clear hce' hbW'
        unfold Cf.zconf
        refine hK _ _ ?_
        clear hK K
        try simp only [Act.put, List.getElem_toArray, List.getElem_cons_succ, List.getElem_cons_zero, List.setIfInBounds_toArray, List.set]
        refine wpAny_take (i := 15) (v := .tuple #[.agg #[.int .u8 0, .int .u8 0, .int .u8 0, .int .u8 0, .int .u8 0, .int .u8 0, .int .u8 0, .int .u8 0, .int .i64 0, .int .i64 0, .int .i64 0, .int .i64 0, .slice none 0 0], .int .i64 ((q + 2 : Nat) : Int), .int .i64 11]) rfl (by kernel_rfl) (by kernel_rfl) (by kernel_rfl) (fun _ _ _ h => h) (Or.inl ⟨by rfl, ?_⟩) ?_
        · (intro w; go_simp; try omega)
        refine wpAny_take (i := 16) (v := .agg #[.int .u8 0, .int .u8 0, .int .u8 0, .int .u8 0, .int .u8 0, .int .u8 0, .int .u8 0, .int .u8 0, .int .i64 0, .int .i64 0, .int .i64 0, .int .i64 0, .slice none 0 0]) rfl (by kernel_rfl) (by kernel_rfl) (by kernel_rfl) (fun _ _ _ h => h) (Or.inl ⟨by rfl, ?_⟩) ?_
        · (intro w; go_simp; try omega)
        refine wpAny_take (i := 17) (v := .int .i64 ((q + 2 : Nat) : Int)) rfl (by kernel_rfl) (by kernel_rfl) (by kernel_rfl) (fun _ _ _ h => h) (Or.inl ⟨by rfl, ?_⟩) ?_
        · (intro w; go_simp; try omega)
        refine wpAny_take (i := 18) (v := .int .i64 11) rfl (by kernel_rfl) (by kernel_rfl) (by kernel_rfl) (fun _ _ _ h => h) (Or.inl ⟨by rfl, ?_⟩) ?_
        · (intro w; go_simp; try omega)
        try simp only [Act.put, List.getElem_toArray, List.getElem_cons_succ, List.getElem_cons_zero, List.setIfInBounds_toArray, List.set]
        refine wpAny_ready (rs := [20]) (by kernel_rfl) (by simp) ?_
        refine AllReady.cons (by first | (simp only [List.getElem?_toArray, List.getElem?_cons_succ, List.getElem?_cons_zero]; done) | (simp only [List.getElem?_toArray, List.getElem?_cons_succ, List.getElem?_cons_zero]; rfl)) (fun K hK => ?_) AllReady.nil
        refine step_store_part rfl 29 (.tmp 11) (.tmp 73) rfl nb 0 #[.int .u8 0, .int .u8 0, .int .u8 0, .int .u8 0, .int .u8 0, .int .u8 0, .int .u8 0, .int .u8 0, .int .i64 0, .int .i64 0, .int .i64 0, .int .i64 0, .slice none 0 0] rfl rfl 29 #[.int .u8 0, .int .u8 0, .int .u8 0, .int .u8 0, .int .u8 0, .int .u8 0, .int .u8 0, .int .u8 0, .int .i64 0, .int .i64 0, .int .i64 0, .int .i64 0, .slice none 0 0] HA.out (by show 0 + 13 ≤ 13; decide) Cf.info_conf (by kernel_rfl) #[.int .u8 0, .int .u8 0, .int .u8 0, .int .u8 0, .int .u8 0, .int .u8 0, .int .u8 0, .int .u8 0, .int .i64 0, .int .i64 0, .int .i64 0, .int .i64 0, .slice none 0 0] rfl w.heap.size hwb ?_
        intro w9 _ _ _ hb9
        refine hK _ _ ?_
        clear hK K
        try simp only [Act.put, List.getElem_toArray, List.getElem_cons_succ, List.getElem_cons_zero, List.setIfInBounds_toArray, List.set]
        refine wpAny_take (i := 21) (v := .int .i64 ((q + 2 : Nat) : Int)) rfl (by kernel_rfl) (by kernel_rfl) (by kernel_rfl) (fun _ _ _ h => h) (Or.inl ⟨by rfl, ?_⟩) ?_
        · (intro w; go_simp; try omega)
        refine wpAny_take (i := 22) (v := .int .i64 11) rfl (by kernel_rfl) (by kernel_rfl) (by kernel_rfl) (fun _ _ _ h => h) (Or.inl ⟨by rfl, ?_⟩) ?_
        · (intro w; go_simp; try omega)
        try simp only [Act.put, List.getElem_toArray, List.getElem_cons_succ, List.getElem_cons_zero, List.setIfInBounds_toArray, List.set]
        have hbW9 := hbr.trans hb9
        clear hb9 hbr
        have dk : ((((q + 2 : Nat) : Int)) == (q : Int) + 2) = true := beq_iff_eq.2 (by omega)
        refine wpAny_done (by kernel_rfl) ?_ _
        go_wp2_with fail
        go_ret
        exact ⟨rfl, hbW9⟩
      refine AllReady.cons (by first | (simp only [List.getElem?_toArray, List.getElem?_cons_succ, List.getElem?_cons_zero]; done) | (simp only [List.getElem?_toArray, List.getElem?_cons_succ, List.getElem?_cons_zero]; rfl)) (fun K hK => ?_) ?_
      case refine_1 =>
        go_simp
        refine hK _ _ ?_
        clear hK K
        try simp only [Act.put, List.getElem_toArray, List.getElem_cons_succ, List.getElem_cons_zero, List.setIfInBounds_toArray, List.set]
        refine wpAny_take (i := 12) (v := .string (s.extract en s.size)) rfl (by kernel_rfl) (by kernel_rfl) (by kernel_rfl) (fun _ _ _ h => h) (Or.inl ⟨by rfl, ?_⟩) ?_
        · (intro w; go_simp; try omega)
        try simp only [Act.put, List.getElem_toArray, List.getElem_cons_succ, List.getElem_cons_zero, List.setIfInBounds_toArray, List.set]
        generalize v0 = v1 at *
        refine wpAny_ready (rs := [4, 19]) (by kernel_rfl) (by simp) ?_
        refine AllReady.cons (by first | (simp only [List.getElem?_toArray, List.getElem?_cons_succ, List.getElem?_cons_zero]; done) | (simp only [List.getElem?_toArray, List.getElem?_cons_succ, List.getElem?_cons_zero]; rfl)) (fun K hK => ?_) ?_
        case refine_1 =>
          go_simp
          refine hK _ _ ?_
          clear hK K
          try simp only [Act.put, List.getElem_toArray, List.getElem_cons_succ, List.getElem_cons_zero, List.setIfInBounds_toArray, List.set]
          refine wpAny_take (i := 5) (v := .string (s.extract 0 en)) rfl (by kernel_rfl) (by kernel_rfl) (by kernel_rfl) (fun _ _ _ h => h) (Or.inl ⟨by rfl, ?_⟩) ?_
          · (intro w; go_simp; try omega)
          refine wpAny_take (i := 6) (v := .string (s.extract 0 en ++ ⟨#[63, 10]⟩)) rfl (by kernel_rfl) (by kernel_rfl) (by kernel_rfl) (fun _ _ _ h => h) (Or.inl ⟨by rfl, ?_⟩) ?_
          · (intro w; go_simp; try omega)
          try simp only [Act.put, List.getElem_toArray, List.getElem_cons_succ, List.getElem_cons_zero, List.setIfInBounds_toArray, List.set]
          refine wpAny_take (i := 13) (v := .string (s.extract 0 en ++ ⟨#[63, 10]⟩ ++ s.extract en s.size)) rfl (by kernel_rfl) (by kernel_rfl) (by kernel_rfl) (fun _ _ _ h => h) (Or.inl ⟨by rfl, ?_⟩) ?_
          · (intro w; go_simp; try omega)
          try simp only [Act.put, List.getElem_toArray, List.getElem_cons_succ, List.getElem_cons_zero, List.setIfInBounds_toArray, List.set]
          generalize v1 = v2 at *
          refine wpAny_ready (rs := [14, 19]) (by kernel_rfl) (by simp) ?_
          refine AllReady.cons (by first | (simp only [List.getElem?_toArray, List.getElem?_cons_succ, List.getElem?_cons_zero]; done) | (simp only [List.getElem?_toArray, List.getElem?_cons_succ, List.getElem?_cons_zero]; rfl)) (fun K hK => ?_) ?_
          case refine_1 =>
            go_simp
            refine (HPQ.out _).mono ?_
            rintro e v3 ⟨rfl, hb'⟩
            have hce' : v3.cell? ⟨g, q, none⟩ = some (.int .i64 (en : Int)) := (hb'.cell (p := ⟨g, q, none⟩) (block_lt_of_cell hce)).trans hce
            have hbW' := hbr.trans (hb'.mono hbr.size)
            clear hb' hce hbr
            have hce := hce'
            have hbr := hbW'
            clear hce' hbW'
            unfold Cf.zconf
            refine hK _ _ ?_
            clear hK K
            try simp only [Act.put, List.getElem_toArray, List.getElem_cons_succ, List.getElem_cons_zero, List.setIfInBounds_toArray, List.set]
            refine wpAny_take (i := 15) (v := .tuple #[.agg #[.int .u8 0, .int .u8 0, .int .u8 0, .int .u8 0, .int .u8 0, .int .u8 0, .int .u8 0, .int .u8 0, .int .i64 0, .int .i64 0, .int .i64 0, .int .i64 0, .slice none 0 0], .int .i64 ((q + 2 : Nat) : Int), .int .i64 11]) rfl (by kernel_rfl) (by kernel_rfl) (by kernel_rfl) (fun _ _ _ h => h) (Or.inl ⟨by rfl, ?_⟩) ?_
            · (intro w; go_simp; try omega)
            refine wpAny_take (i := 16) (v := .agg #[.int .u8 0, .int .u8 0, .int .u8 0, .int .u8 0, .int .u8 0, .int .u8 0, .int .u8 0, .int .u8 0, .int .i64 0, .int .i64 0, .int .i64 0, .int .i64 0, .slice none 0 0]) rfl (by kernel_rfl) (by kernel_rfl) (by kernel_rfl) (fun _ _ _ h => h) (Or.inl ⟨by rfl, ?_⟩) ?_
            · (intro w; go_simp; try omega)
            refine wpAny_take (i := 17) (v := .int .i64 ((q + 2 : Nat) : Int)) rfl (by kernel_rfl) (by kernel_rfl) (by kernel_rfl) (fun _ _ _ h => h) (Or.inl ⟨by rfl, ?_⟩) ?_
            · (intro w; go_simp; try omega)
            refine wpAny_take (i := 18) (v := .int .i64 11) rfl (by kernel_rfl) (by kernel_rfl) (by kernel_rfl) (fun _ _ _ h => h) (Or.inl ⟨by rfl, ?_⟩) ?_
            · (intro w; go_simp; try omega)
            try simp only [Act.put, List.getElem_toArray, List.getElem_cons_succ, List.getElem_cons_zero, List.setIfInBounds_toArray, List.set]
            refine wpAny_ready (rs := [19]) (by kernel_rfl) (by simp) ?_
            refine AllReady.cons (by first | (simp only [List.getElem?_toArray, List.getElem?_cons_succ, List.getElem?_cons_zero]; done) | (simp only [List.getElem?_toArray, List.getElem?_cons_succ, List.getElem?_cons_zero]; rfl)) (fun K hK => ?_) AllReady.nil
            go_simp
            have HA : Hid (RowIs (v3.alloc (.cells #[.int .u8 0, .int .u8 0, .int .u8 0, .int .u8 0, .int .u8 0, .int .u8 0, .int .u8 0, .int .u8 0, .int .i64 0, .int .i64 0, .int .i64 0, .int .i64 0, .slice none 0 0] 29)) v3.heap.size 29 #[.int .u8 0, .int .u8 0, .int .u8 0, .int .u8 0, .int .u8 0, .int .u8 0, .int .u8 0, .int .u8 0, .int .i64 0, .int .i64 0, .int .i64 0, .int .i64 0, .slice none 0 0]) := rowIs_new v3 _ _
            have hb' : Below v3.heap.size v3 (v3.alloc (.cells #[.int .u8 0, .int .u8 0, .int .u8 0, .int .u8 0, .int .u8 0, .int .u8 0, .int .u8 0, .int .u8 0, .int .i64 0, .int .i64 0, .int .i64 0, .int .i64 0, .slice none 0 0] 29)) := (Below.refl _ _).alloc (Nat.le_refl _) _
            have hce' : (v3.alloc (.cells #[.int .u8 0, .int .u8 0, .int .u8 0, .int .u8 0, .int .u8 0, .int .u8 0, .int .u8 0, .int .u8 0, .int .i64 0, .int .i64 0, .int .i64 0, .int .i64 0, .slice none 0 0] 29)).cell? ⟨g, q, none⟩ = some (.int .i64 (en : Int)) := (hb'.cell (p := ⟨g, q, none⟩) (block_lt_of_cell hce)).trans hce
            have hbW' := hbr.trans (hb'.mono hbr.size)
            have hwb : w.heap.size ≤ v3.heap.size := hbr.size
            have hs' : (v3.alloc (.cells #[.int .u8 0, .int .u8 0, .int .u8 0, .int .u8 0, .int .u8 0, .int .u8 0, .int .u8 0, .int .u8 0, .int .i64 0, .int .i64 0, .int .i64 0, .int .i64 0, .slice none 0 0] 29)).heap.size = v3.heap.size + 1 := by simp
            clear hb' hce hbr
            have hce := hce'
            have hbr := hbW'
            clear hce' hbW'
            refine hK _ _ ?_
            clear hK K
            try simp only [Act.put, List.getElem_toArray, List.getElem_cons_succ, List.getElem_cons_zero, List.setIfInBounds_toArray, List.set]
            generalize v3.alloc (.cells #[.int .u8 0, .int .u8 0, .int .u8 0, .int .u8 0, .int .u8 0, .int .u8 0, .int .u8 0, .int .u8 0, .int .i64 0, .int .i64 0, .int .i64 0, .int .i64 0, .slice none 0 0] 29) = v4 at *
            generalize v3.heap.size = nb at *
            clear hs'
            refine wpAny_ready (rs := [20]) (by kernel_rfl) (by simp) ?_
            refine AllReady.cons (by first | (simp only [List.getElem?_toArray, List.getElem?_cons_succ, List.getElem?_cons_zero]; done) | (simp only [List.getElem?_toArray, List.getElem?_cons_succ, List.getElem?_cons_zero]; rfl)) (fun K hK => ?_) AllReady.nil
            refine step_store_part rfl 29 (.tmp 11) (.tmp 73) rfl nb 0 #[.int .u8 0, .int .u8 0, .int .u8 0, .int .u8 0, .int .u8 0, .int .u8 0, .int .u8 0, .int .u8 0, .int .i64 0, .int .i64 0, .int .i64 0, .int .i64 0, .slice none 0 0] rfl rfl 29 #[.int .u8 0, .int .u8 0, .int .u8 0, .int .u8 0, .int .u8 0, .int .u8 0, .int .u8 0, .int .u8 0, .int .i64 0, .int .i64 0, .int .i64 0, .int .i64 0, .slice none 0 0] HA.out (by show 0 + 13 ≤ 13; decide) Cf.info_conf (by kernel_rfl) #[.int .u8 0, .int .u8 0, .int .u8 0, .int .u8 0, .int .u8 0, .int .u8 0, .int .u8 0, .int .u8 0, .int .i64 0, .int .i64 0, .int .i64 0, .int .i64 0, .slice none 0 0] rfl w.heap.size hwb ?_
            intro w9 _ _ _ hb9
            refine hK _ _ ?_
            clear hK K
            try simp only [Act.put, List.getElem_toArray, List.getElem_cons_succ, List.getElem_cons_zero, List.setIfInBounds_toArray, List.set]
            refine wpAny_take (i := 21) (v := .int .i64 ((q + 2 : Nat) : Int)) rfl (by kernel_rfl) (by kernel_rfl) (by kernel_rfl) (fun _ _ _ h => h) (Or.inl ⟨by rfl, ?_⟩) ?_
            · (intro w; go_simp; try omega)
            refine wpAny_take (i := 22) (v := .int .i64 11) rfl (by kernel_rfl) (by kernel_rfl) (by kernel_rfl) (fun _ _ _ h => h) (Or.inl ⟨by rfl, ?_⟩) ?_
            · (intro w; go_simp; try omega)
            try simp only [Act.put, List.getElem_toArray, List.getElem_cons_succ, List.getElem_cons_zero, List.setIfInBounds_toArray, List.set]
            have hbW9 := hbr.trans hb9
            clear hb9 hbr
            have dk : ((((q + 2 : Nat) : Int)) == (q : Int) + 2) = true := beq_iff_eq.2 (by omega)
            refine wpAny_done (by kernel_rfl) ?_ _
            go_wp2_with fail
            go_ret
            exact ⟨rfl, hbW9⟩
          refine AllReady.cons (by first | (simp only [List.getElem?_toArray, List.getElem?_cons_succ, List.getElem?_cons_zero]; done) | (simp only [List.getElem?_toArray, List.getElem?_cons_succ, List.getElem?_cons_zero]; rfl)) (fun K hK => ?_) AllReady.nil
          go_simp
          have HA : Hid (RowIs (v2.alloc (.cells #[.int .u8 0, .int .u8 0, .int .u8 0, .int .u8 0, .int .u8 0, .int .u8 0, .int .u8 0, .int .u8 0, .int .i64 0, .int .i64 0, .int .i64 0, .int .i64 0, .slice none 0 0] 29)) v2.heap.size 29 #[.int .u8 0, .int .u8 0, .int .u8 0, .int .u8 0, .int .u8 0, .int .u8 0, .int .u8 0, .int .u8 0, .int .i64 0, .int .i64 0, .int .i64 0, .int .i64 0, .slice none 0 0]) := rowIs_new v2 _ _
          have hb' : Below v2.heap.size v2 (v2.alloc (.cells #[.int .u8 0, .int .u8 0, .int .u8 0, .int .u8 0, .int .u8 0, .int .u8 0, .int .u8 0, .int .u8 0, .int .i64 0, .int .i64 0, .int .i64 0, .int .i64 0, .slice none 0 0] 29)) := (Below.refl _ _).alloc (Nat.le_refl _) _
          have hce' : (v2.alloc (.cells #[.int .u8 0, .int .u8 0, .int .u8 0, .int .u8 0, .int .u8 0, .int .u8 0, .int .u8 0, .int .u8 0, .int .i64 0, .int .i64 0, .int .i64 0, .int .i64 0, .slice none 0 0] 29)).cell? ⟨g, q, none⟩ = some (.int .i64 (en : Int)) := (hb'.cell (p := ⟨g, q, none⟩) (block_lt_of_cell hce)).trans hce
          have hbW' := hbr.trans (hb'.mono hbr.size)
          have hwb : w.heap.size ≤ v2.heap.size := hbr.size
          have hs' : (v2.alloc (.cells #[.int .u8 0, .int .u8 0, .int .u8 0, .int .u8 0, .int .u8 0, .int .u8 0, .int .u8 0, .int .u8 0, .int .i64 0, .int .i64 0, .int .i64 0, .int .i64 0, .slice none 0 0] 29)).heap.size = v2.heap.size + 1 := by simp
          clear hb' hce hbr
          have hce := hce'
          have hbr := hbW'
          clear hce' hbW'
          refine hK _ _ ?_
          clear hK K
          try simp only [Act.put, List.getElem_toArray, List.getElem_cons_succ, List.getElem_cons_zero, List.setIfInBounds_toArray, List.set]
          generalize v2.alloc (.cells #[.int .u8 0, .int .u8 0, .int .u8 0, .int .u8 0, .int .u8 0, .int .u8 0, .int .u8 0, .int .u8 0, .int .i64 0, .int .i64 0, .int .i64 0, .int .i64 0, .slice none 0 0] 29) = v3 at *
          generalize v2.heap.size = nb at *
          clear hs'
          refine wpAny_ready (rs := [14]) (by kernel_rfl) (by simp) ?_
          refine AllReady.cons (by first | (simp only [List.getElem?_toArray, List.getElem?_cons_succ, List.getElem?_cons_zero]; done) | (simp only [List.getElem?_toArray, List.getElem?_cons_succ, List.getElem?_cons_zero]; rfl)) (fun K hK => ?_) AllReady.nil
          go_simp
          refine (HPQ.out _).mono ?_
          rintro e v4 ⟨rfl, hb'⟩
          have HA := Lib.hid (HA.out.kept hb')
          have hce' : v4.cell? ⟨g, q, none⟩ = some (.int .i64 (en : Int)) := (hb'.cell (p := ⟨g, q, none⟩) (block_lt_of_cell hce)).trans hce
          have hbW' := hbr.trans (hb'.mono hbr.size)
          clear hb' hce hbr
          have hce := hce'
          have hbr := hbW'
          clear hce' hbW'
          unfold Cf.zconf
          refine hK _ _ ?_
          clear hK K
          try simp only [Act.put, List.getElem_toArray, List.getElem_cons_succ, List.getElem_cons_zero, List.setIfInBounds_toArray, List.set]
          refine wpAny_take (i := 15) (v := .tuple #[.agg #[.int .u8 0, .int .u8 0, .int .u8 0, .int .u8 0, .int .u8 0, .int .u8 0, .int .u8 0, .int .u8 0, .int .i64 0, .int .i64 0, .int .i64 0, .int .i64 0, .slice none 0 0], .int .i64 ((q + 2 : Nat) : Int), .int .i64 11]) rfl (by kernel_rfl) (by kernel_rfl) (by kernel_rfl) (fun _ _ _ h => h) (Or.inl ⟨by rfl, ?_⟩) ?_
          · (intro w; go_simp; try omega)
          refine wpAny_take (i := 16) (v := .agg #[.int .u8 0, .int .u8 0, .int .u8 0, .int .u8 0, .int .u8 0, .int .u8 0, .int .u8 0, .int .u8 0, .int .i64 0, .int .i64 0, .int .i64 0, .int .i64 0, .slice none 0 0]) rfl (by kernel_rfl) (by kernel_rfl) (by kernel_rfl) (fun _ _ _ h => h) (Or.inl ⟨by rfl, ?_⟩) ?_
          · (intro w; go_simp; try omega)
          refine wpAny_take (i := 17) (v := .int .i64 ((q + 2 : Nat) : Int)) rfl (by kernel_rfl) (by kernel_rfl) (by kernel_rfl) (fun _ _ _ h => h) (Or.inl ⟨by rfl, ?_⟩) ?_
          · (intro w; go_simp; try omega)
          refine wpAny_take (i := 18) (v := .int .i64 11) rfl (by kernel_rfl) (by kernel_rfl) (by kernel_rfl) (fun _ _ _ h => h) (Or.inl ⟨by rfl, ?_⟩) ?_
          · (intro w; go_simp; try omega)
          try simp only [Act.put, List.getElem_toArray, List.getElem_cons_succ, List.getElem_cons_zero, List.setIfInBounds_toArray, List.set]
          refine wpAny_ready (rs := [20]) (by kernel_rfl) (by simp) ?_
          refine AllReady.cons (by first | (simp only [List.getElem?_toArray, List.getElem?_cons_succ, List.getElem?_cons_zero]; done) | (simp only [List.getElem?_toArray, List.getElem?_cons_succ, List.getElem?_cons_zero]; rfl)) (fun K hK => ?_) AllReady.nil
          refine step_store_part rfl 29 (.tmp 11) (.tmp 73) rfl nb 0 #[.int .u8 0, .int .u8 0, .int .u8 0, .int .u8 0, .int .u8 0, .int .u8 0, .int .u8 0, .int .u8 0, .int .i64 0, .int .i64 0, .int .i64 0, .int .i64 0, .slice none 0 0] rfl rfl 29 #[.int .u8 0, .int .u8 0, .int .u8 0, .int .u8 0, .int .u8 0, .int .u8 0, .int .u8 0, .int .u8 0, .int .i64 0, .int .i64 0, .int .i64 0, .int .i64 0, .slice none 0 0] HA.out (by show 0 + 13 ≤ 13; decide) Cf.info_conf (by kernel_rfl) #[.int .u8 0, .int .u8 0, .int .u8 0, .int .u8 0, .int .u8 0, .int .u8 0, .int .u8 0, .int .u8 0, .int .i64 0, .int .i64 0, .int .i64 0, .int .i64 0, .slice none 0 0] rfl w.heap.size hwb ?_
          intro w9 _ _ _ hb9
          refine hK _ _ ?_
          clear hK K
          try simp only [Act.put, List.getElem_toArray, List.getElem_cons_succ, List.getElem_cons_zero, List.setIfInBounds_toArray, List.set]
          refine wpAny_take (i := 21) (v := .int .i64 ((q + 2 : Nat) : Int)) rfl (by kernel_rfl) (by kernel_rfl) (by kernel_rfl) (fun _ _ _ h => h) (Or.inl ⟨by rfl, ?_⟩) ?_
          · (intro w; go_simp; try omega)
          refine wpAny_take (i := 22) (v := .int .i64 11) rfl (by kernel_rfl) (by kernel_rfl) (by kernel_rfl) (fun _ _ _ h => h) (Or.inl ⟨by rfl, ?_⟩) ?_
          · (intro w; go_simp; try omega)
          try simp only [Act.put, List.getElem_toArray, List.getElem_cons_succ, List.getElem_cons_zero, List.setIfInBounds_toArray, List.set]
          have hbW9 := hbr.trans hb9
          clear hb9 hbr
          have dk : ((((q + 2 : Nat) : Int)) == (q : Int) + 2) = true := beq_iff_eq.2 (by omega)
          refine wpAny_done (by kernel_rfl) ?_ _
          go_wp2_with fail
          go_ret
          exact ⟨rfl, hbW9⟩
        refine AllReady.cons (by first | (simp only [List.getElem?_toArray, List.getElem?_cons_succ, List.getElem?_cons_zero]; done) | (simp only [List.getElem?_toArray, List.getElem?_cons_succ, List.getElem?_cons_zero]; rfl)) (fun K hK => ?_) AllReady.nil
        go_simp
        have HA : Hid (RowIs (v1.alloc (.cells #[.int .u8 0, .int .u8 0, .int .u8 0, .int .u8 0, .int .u8 0, .int .u8 0, .int .u8 0, .int .u8 0, .int .i64 0, .int .i64 0, .int .i64 0, .int .i64 0, .slice none 0 0] 29)) v1.heap.size 29 #[.int .u8 0, .int .u8 0, .int .u8 0, .int .u8 0, .int .u8 0, .int .u8 0, .int .u8 0, .int .u8 0, .int .i64 0, .int .i64 0, .int .i64 0, .int .i64 0, .slice none 0 0]) := rowIs_new v1 _ _
        have hb' : Below v1.heap.size v1 (v1.alloc (.cells #[.int .u8 0, .int .u8 0, .int .u8 0, .int .u8 0, .int .u8 0, .int .u8 0, .int .u8 0, .int .u8 0, .int .i64 0, .int .i64 0, .int .i64 0, .int .i64 0, .slice none 0 0] 29)) := (Below.refl _ _).alloc (Nat.le_refl _) _
        have hce' : (v1.alloc (.cells #[.int .u8 0, .int .u8 0, .int .u8 0, .int .u8 0, .int .u8 0, .int .u8 0, .int .u8 0, .int .u8 0, .int .i64 0, .int .i64 0, .int .i64 0, .int .i64 0, .slice none 0 0] 29)).cell? ⟨g, q, none⟩ = some (.int .i64 (en : Int)) := (hb'.cell (p := ⟨g, q, none⟩) (block_lt_of_cell hce)).trans hce
        have hbW' := hbr.trans (hb'.mono hbr.size)
        have hwb : w.heap.size ≤ v1.heap.size := hbr.size
        have hs' : (v1.alloc (.cells #[.int .u8 0, .int .u8 0, .int .u8 0, .int .u8 0, .int .u8 0, .int .u8 0, .int .u8 0, .int .u8 0, .int .i64 0, .int .i64 0, .int .i64 0, .int .i64 0, .slice none 0 0] 29)).heap.size = v1.heap.size + 1 := by simp
        clear hb' hce hbr
        have hce := hce'
        have hbr := hbW'
        clear hce' hbW'
        refine hK _ _ ?_
        clear hK K
        try simp only [Act.put, List.getElem_toArray, List.getElem_cons_succ, List.getElem_cons_zero, List.setIfInBounds_toArray, List.set]
        generalize v1.alloc (.cells #[.int .u8 0, .int .u8 0, .int .u8 0, .int .u8 0, .int .u8 0, .int .u8 0, .int .u8 0, .int .u8 0, .int .i64 0, .int .i64 0, .int .i64 0, .int .i64 0, .slice none 0 0] 29) = v2 at *
        generalize v1.heap.size = nb at *
        clear hs'
        refine wpAny_ready (rs := [4]) (by kernel_rfl) (by simp) ?_
        refine AllReady.cons (by first | (simp only [List.getElem?_toArray, List.getElem?_cons_succ, List.getElem?_cons_zero]; done) | (simp only [List.getElem?_toArray, List.getElem?_cons_succ, List.getElem?_cons_zero]; rfl)) (fun K hK => ?_) AllReady.nil
        go_simp
        refine hK _ _ ?_
        clear hK K
        try simp only [Act.put, List.getElem_toArray, List.getElem_cons_succ, List.getElem_cons_zero, List.setIfInBounds_toArray, List.set]
        refine wpAny_take (i := 5) (v := .string (s.extract 0 en)) rfl (by kernel_rfl) (by kernel_rfl) (by kernel_rfl) (fun _ _ _ h => h) (Or.inl ⟨by rfl, ?_⟩) ?_
        · (intro w; go_simp; try omega)
        refine wpAny_take (i := 6) (v := .string (s.extract 0 en ++ ⟨#[63, 10]⟩)) rfl (by kernel_rfl) (by kernel_rfl) (by kernel_rfl) (fun _ _ _ h => h) (Or.inl ⟨by rfl, ?_⟩) ?_
        · (intro w; go_simp; try omega)
        try simp only [Act.put, List.getElem_toArray, List.getElem_cons_succ, List.getElem_cons_zero, List.setIfInBounds_toArray, List.set]
        refine wpAny_take (i := 13) (v := .string (s.extract 0 en ++ ⟨#[63, 10]⟩ ++ s.extract en s.size)) rfl (by kernel_rfl) (by kernel_rfl) (by kernel_rfl) (fun _ _ _ h => h) (Or.inl ⟨by rfl, ?_⟩) ?_
        · (intro w; go_simp; try omega)
        try simp only [Act.put, List.getElem_toArray, List.getElem_cons_succ, List.getElem_cons_zero, List.setIfInBounds_toArray, List.set]
        generalize v2 = v3 at *
        refine wpAny_ready (rs := [14]) (by kernel_rfl) (by simp) ?_
        refine AllReady.cons (by first | (simp only [List.getElem?_toArray, List.getElem?_cons_succ, List.getElem?_cons_zero]; done) | (simp only [List.getElem?_toArray, List.getElem?_cons_succ, List.getElem?_cons_zero]; rfl)) (fun K hK => ?_) AllReady.nil
        go_simp
        refine (HPQ.out _).mono ?_
        rintro e v4 ⟨rfl, hb'⟩
        have HA := Lib.hid (HA.out.kept hb')
        have hce' : v4.cell? ⟨g, q, none⟩ = some (.int .i64 (en : Int)) := (hb'.cell (p := ⟨g, q, none⟩) (block_lt_of_cell hce)).trans hce
        have hbW' := hbr.trans (hb'.mono hbr.size)
        clear hb' hce hbr
        have hce := hce'
        have hbr := hbW'
        clear hce' hbW'
        unfold Cf.zconf
        refine hK _ _ ?_
        clear hK K
        try simp only [Act.put, List.getElem_toArray, List.getElem_cons_succ, List.getElem_cons_zero, List.setIfInBounds_toArray, List.set]
        refine wpAny_take (i := 15) (v := .tuple #[.agg #[.int .u8 0, .int .u8 0, .int .u8 0, .int .u8 0, .int .u8 0, .int .u8 0, .int .u8 0, .int .u8 0, .int .i64 0, .int .i64 0, .int .i64 0, .int .i64 0, .slice none 0 0], .int .i64 ((q + 2 : Nat) : Int), .int .i64 11]) rfl (by kernel_rfl) (by kernel_rfl) (by kernel_rfl) (fun _ _ _ h => h) (Or.inl ⟨by rfl, ?_⟩) ?_
        · (intro w; go_simp; try omega)
        refine wpAny_take (i := 16) (v := .agg #[.int .u8 0, .int .u8 0, .int .u8 0, .int .u8 0, .int .u8 0, .int .u8 0, .int .u8 0, .int .u8 0, .int .i64 0, .int .i64 0, .int .i64 0, .int .i64 0, .slice none 0 0]) rfl (by kernel_rfl) (by kernel_rfl) (by kernel_rfl) (fun _ _ _ h => h) (Or.inl ⟨by rfl, ?_⟩) ?_
        · (intro w; go_simp; try omega)
        refine wpAny_take (i := 17) (v := .int .i64 ((q + 2 : Nat) : Int)) rfl (by kernel_rfl) (by kernel_rfl) (by kernel_rfl) (fun _ _ _ h => h) (Or.inl ⟨by rfl, ?_⟩) ?_
        · (intro w; go_simp; try omega)
        refine wpAny_take (i := 18) (v := .int .i64 11) rfl (by kernel_rfl) (by kernel_rfl) (by kernel_rfl) (fun _ _ _ h => h) (Or.inl ⟨by rfl, ?_⟩) ?_
        · (intro w; go_simp; try omega)
        try simp only [Act.put, List.getElem_toArray, List.getElem_cons_succ, List.getElem_cons_zero, List.setIfInBounds_toArray, List.set]
        refine wpAny_ready (rs := [20]) (by kernel_rfl) (by simp) ?_
        refine AllReady.cons (by first | (simp only [List.getElem?_toArray, List.getElem?_cons_succ, List.getElem?_cons_zero]; done) | (simp only [List.getElem?_toArray, List.getElem?_cons_succ, List.getElem?_cons_zero]; rfl)) (fun K hK => ?_) AllReady.nil
        refine step_store_part rfl 29 (.tmp 11) (.tmp 73) rfl nb 0 #[.int .u8 0, .int .u8 0, .int .u8 0, .int .u8 0, .int .u8 0, .int .u8 0, .int .u8 0, .int .u8 0, .int .i64 0, .int .i64 0, .int .i64 0, .int .i64 0, .slice none 0 0] rfl rfl 29 #[.int .u8 0, .int .u8 0, .int .u8 0, .int .u8 0, .int .u8 0, .int .u8 0, .int .u8 0, .int .u8 0, .int .i64 0, .int .i64 0, .int .i64 0, .int .i64 0, .slice none 0 0] HA.out (by show 0 + 13 ≤ 13; decide) Cf.info_conf (by kernel_rfl) #[.int .u8 0, .int .u8 0, .int .u8 0, .int .u8 0, .int .u8 0, .int .u8 0, .int .u8 0, .int .u8 0, .int .i64 0, .int .i64 0, .int .i64 0, .int .i64 0, .slice none 0 0] rfl w.heap.size hwb ?_
        intro w9 _ _ _ hb9
        refine hK _ _ ?_
        clear hK K
        try simp only [Act.put, List.getElem_toArray, List.getElem_cons_succ, List.getElem_cons_zero, List.setIfInBounds_toArray, List.set]
        refine wpAny_take (i := 21) (v := .int .i64 ((q + 2 : Nat) : Int)) rfl (by kernel_rfl) (by kernel_rfl) (by kernel_rfl) (fun _ _ _ h => h) (Or.inl ⟨by rfl, ?_⟩) ?_
        · (intro w; go_simp; try omega)
        refine wpAny_take (i := 22) (v := .int .i64 11) rfl (by kernel_rfl) (by kernel_rfl) (by kernel_rfl) (fun _ _ _ h => h) (Or.inl ⟨by rfl, ?_⟩) ?_
        · (intro w; go_simp; try omega)
        try simp only [Act.put, List.getElem_toArray, List.getElem_cons_succ, List.getElem_cons_zero, List.setIfInBounds_toArray, List.set]
        have hbW9 := hbr.trans hb9
        clear hb9 hbr
        have dk : ((((q + 2 : Nat) : Int)) == (q : Int) + 2) = true := beq_iff_eq.2 (by omega)
        refine wpAny_done (by kernel_rfl) ?_ _
        go_wp2_with fail
        go_ret
        exact ⟨rfl, hbW9⟩
      refine AllReady.cons (by first | (simp only [List.getElem?_toArray, List.getElem?_cons_succ, List.getElem?_cons_zero]; done) | (simp only [List.getElem?_toArray, List.getElem?_cons_succ, List.getElem?_cons_zero]; rfl)) (fun K hK => ?_) AllReady.nil
      go_simp
      have HA : Hid (RowIs (v0.alloc (.cells #[.int .u8 0, .int .u8 0, .int .u8 0, .int .u8 0, .int .u8 0, .int .u8 0, .int .u8 0, .int .u8 0, .int .i64 0, .int .i64 0, .int .i64 0, .int .i64 0, .slice none 0 0] 29)) v0.heap.size 29 #[.int .u8 0, .int .u8 0, .int .u8 0, .int .u8 0, .int .u8 0, .int .u8 0, .int .u8 0, .int .u8 0, .int .i64 0, .int .i64 0, .int .i64 0, .int .i64 0, .slice none 0 0]) := rowIs_new v0 _ _
      have hb' : Below v0.heap.size v0 (v0.alloc (.cells #[.int .u8 0, .int .u8 0, .int .u8 0, .int .u8 0, .int .u8 0, .int .u8 0, .int .u8 0, .int .u8 0, .int .i64 0, .int .i64 0, .int .i64 0, .int .i64 0, .slice none 0 0] 29)) := (Below.refl _ _).alloc (Nat.le_refl _) _
      have hce' : (v0.alloc (.cells #[.int .u8 0, .int .u8 0, .int .u8 0, .int .u8 0, .int .u8 0, .int .u8 0, .int .u8 0, .int .u8 0, .int .i64 0, .int .i64 0, .int .i64 0, .int .i64 0, .slice none 0 0] 29)).cell? ⟨g, q, none⟩ = some (.int .i64 (en : Int)) := (hb'.cell (p := ⟨g, q, none⟩) (block_lt_of_cell hce)).trans hce
      have hbW' := hbr.trans (hb'.mono hbr.size)
      have hwb : w.heap.size ≤ v0.heap.size := hbr.size
      have hs' : (v0.alloc (.cells #[.int .u8 0, .int .u8 0, .int .u8 0, .int .u8 0, .int .u8 0, .int .u8 0, .int .u8 0, .int .u8 0, .int .i64 0, .int .i64 0, .int .i64 0, .int .i64 0, .slice none 0 0] 29)).heap.size = v0.heap.size + 1 := by simp
      clear hb' hce hbr
      have hce := hce'
      have hbr := hbW'
      clear hce' hbW'
      refine hK _ _ ?_
      clear hK K
      try simp only [Act.put, List.getElem_toArray, List.getElem_cons_succ, List.getElem_cons_zero, List.setIfInBounds_toArray, List.set]
      generalize v0.alloc (.cells #[.int .u8 0, .int .u8 0, .int .u8 0, .int .u8 0, .int .u8 0, .int .u8 0, .int .u8 0, .int .u8 0, .int .i64 0, .int .i64 0, .int .i64 0, .int .i64 0, .slice none 0 0] 29) = v1 at *
      generalize v0.heap.size = nb at *
      clear hs'
      refine wpAny_ready (rs := [4, 11]) (by kernel_rfl) (by simp) ?_
      refine AllReady.cons (by first | (simp only [List.getElem?_toArray, List.getElem?_cons_succ, List.getElem?_cons_zero]; done) | (simp only [List.getElem?_toArray, List.getElem?_cons_succ, List.getElem?_cons_zero]; rfl)) (fun K hK => ?_) ?_
      case refine_1 =>
        go_simp
        refine hK _ _ ?_
        clear hK K
        try simp only [Act.put, List.getElem_toArray, List.getElem_cons_succ, List.getElem_cons_zero, List.setIfInBounds_toArray, List.set]
        refine wpAny_take (i := 5) (v := .string (s.extract 0 en)) rfl (by kernel_rfl) (by kernel_rfl) (by kernel_rfl) (fun _ _ _ h => h) (Or.inl ⟨by rfl, ?_⟩) ?_
        · (intro w; go_simp; try omega)
        refine wpAny_take (i := 6) (v := .string (s.extract 0 en ++ ⟨#[63, 10]⟩)) rfl (by kernel_rfl) (by kernel_rfl) (by kernel_rfl) (fun _ _ _ h => h) (Or.inl ⟨by rfl, ?_⟩) ?_
        · (intro w; go_simp; try omega)
        try simp only [Act.put, List.getElem_toArray, List.getElem_cons_succ, List.getElem_cons_zero, List.setIfInBounds_toArray, List.set]
        generalize v1 = v2 at *
        refine wpAny_ready (rs := [11]) (by kernel_rfl) (by simp) ?_
        refine AllReady.cons (by first | (simp only [List.getElem?_toArray, List.getElem?_cons_succ, List.getElem?_cons_zero]; done) | (simp only [List.getElem?_toArray, List.getElem?_cons_succ, List.getElem?_cons_zero]; rfl)) (fun K hK => ?_) AllReady.nil
        go_simp
        refine hK _ _ ?_
        clear hK K
        try simp only [Act.put, List.getElem_toArray, List.getElem_cons_succ, List.getElem_cons_zero, List.setIfInBounds_toArray, List.set]
        refine wpAny_take (i := 12) (v := .string (s.extract en s.size)) rfl (by kernel_rfl) (by kernel_rfl) (by kernel_rfl) (fun _ _ _ h => h) (Or.inl ⟨by rfl, ?_⟩) ?_
        · (intro w; go_simp; try omega)
        try simp only [Act.put, List.getElem_toArray, List.getElem_cons_succ, List.getElem_cons_zero, List.setIfInBounds_toArray, List.set]
        refine wpAny_take (i := 13) (v := .string (s.extract 0 en ++ ⟨#[63, 10]⟩ ++ s.extract en s.size)) rfl (by kernel_rfl) (by kernel_rfl) (by kernel_rfl) (fun _ _ _ h => h) (Or.inl ⟨by rfl, ?_⟩) ?_
        · (intro w; go_simp; try omega)
        try simp only [Act.put, List.getElem_toArray, List.getElem_cons_succ, List.getElem_cons_zero, List.setIfInBounds_toArray, List.set]
        generalize v2 = v3 at *
        refine wpAny_ready (rs := [14]) (by kernel_rfl) (by simp) ?_
        refine AllReady.cons (by first | (simp only [List.getElem?_toArray, List.getElem?_cons_succ, List.getElem?_cons_zero]; done) | (simp only [List.getElem?_toArray, List.getElem?_cons_succ, List.getElem?_cons_zero]; rfl)) (fun K hK => ?_) AllReady.nil
        go_simp
        refine (HPQ.out _).mono ?_
        rintro e v4 ⟨rfl, hb'⟩
        have HA := Lib.hid (HA.out.kept hb')
        have hce' : v4.cell? ⟨g, q, none⟩ = some (.int .i64 (en : Int)) := (hb'.cell (p := ⟨g, q, none⟩) (block_lt_of_cell hce)).trans hce
        have hbW' := hbr.trans (hb'.mono hbr.size)
        clear hb' hce hbr
        have hce := hce'
        have hbr := hbW'
        clear hce' hbW'
        unfold Cf.zconf
        refine hK _ _ ?_
        clear hK K
        try simp only [Act.put, List.getElem_toArray, List.getElem_cons_succ, List.getElem_cons_zero, List.setIfInBounds_toArray, List.set]
        refine wpAny_take (i := 15) (v := .tuple #[.agg #[.int .u8 0, .int .u8 0, .int .u8 0, .int .u8 0, .int .u8 0, .int .u8 0, .int .u8 0, .int .u8 0, .int .i64 0, .int .i64 0, .int .i64 0, .int .i64 0, .slice none 0 0], .int .i64 ((q + 2 : Nat) : Int), .int .i64 11]) rfl (by kernel_rfl) (by kernel_rfl) (by kernel_rfl) (fun _ _ _ h => h) (Or.inl ⟨by rfl, ?_⟩) ?_
        · (intro w; go_simp; try omega)
        refine wpAny_take (i := 16) (v := .agg #[.int .u8 0, .int .u8 0, .int .u8 0, .int .u8 0, .int .u8 0, .int .u8 0, .int .u8 0, .int .u8 0, .int .i64 0, .int .i64 0, .int .i64 0, .int .i64 0, .slice none 0 0]) rfl (by kernel_rfl) (by kernel_rfl) (by kernel_rfl) (fun _ _ _ h => h) (Or.inl ⟨by rfl, ?_⟩) ?_
        · (intro w; go_simp; try omega)
        refine wpAny_take (i := 17) (v := .int .i64 ((q + 2 : Nat) : Int)) rfl (by kernel_rfl) (by kernel_rfl) (by kernel_rfl) (fun _ _ _ h => h) (Or.inl ⟨by rfl, ?_⟩) ?_
        · (intro w; go_simp; try omega)
        refine wpAny_take (i := 18) (v := .int .i64 11) rfl (by kernel_rfl) (by kernel_rfl) (by kernel_rfl) (fun _ _ _ h => h) (Or.inl ⟨by rfl, ?_⟩) ?_
        · (intro w; go_simp; try omega)
        try simp only [Act.put, List.getElem_toArray, List.getElem_cons_succ, List.getElem_cons_zero, List.setIfInBounds_toArray, List.set]
        refine wpAny_ready (rs := [20]) (by kernel_rfl) (by simp) ?_
        refine AllReady.cons (by first | (simp only [List.getElem?_toArray, List.getElem?_cons_succ, List.getElem?_cons_zero]; done) | (simp only [List.getElem?_toArray, List.getElem?_cons_succ, List.getElem?_cons_zero]; rfl)) (fun K hK => ?_) AllReady.nil
        refine step_store_part rfl 29 (.tmp 11) (.tmp 73) rfl nb 0 #[.int .u8 0, .int .u8 0, .int .u8 0, .int .u8 0, .int .u8 0, .int .u8 0, .int .u8 0, .int .u8 0, .int .i64 0, .int .i64 0, .int .i64 0, .int .i64 0, .slice none 0 0] rfl rfl 29 #[.int .u8 0, .int .u8 0, .int .u8 0, .int .u8 0, .int .u8 0, .int .u8 0, .int .u8 0, .int .u8 0, .int .i64 0, .int .i64 0, .int .i64 0, .int .i64 0, .slice none 0 0] HA.out (by show 0 + 13 ≤ 13; decide) Cf.info_conf (by kernel_rfl) #[.int .u8 0, .int .u8 0, .int .u8 0, .int .u8 0, .int .u8 0, .int .u8 0, .int .u8 0, .int .u8 0, .int .i64 0, .int .i64 0, .int .i64 0, .int .i64 0, .slice none 0 0] rfl w.heap.size hwb ?_
        intro w9 _ _ _ hb9
        refine hK _ _ ?_
        clear hK K
        try simp only [Act.put, List.getElem_toArray, List.getElem_cons_succ, List.getElem_cons_zero, List.setIfInBounds_toArray, List.set]
        refine wpAny_take (i := 21) (v := .int .i64 ((q + 2 : Nat) : Int)) rfl (by kernel_rfl) (by kernel_rfl) (by kernel_rfl) (fun _ _ _ h => h) (Or.inl ⟨by rfl, ?_⟩) ?_
        · (intro w; go_simp; try omega)
        refine wpAny_take (i := 22) (v := .int .i64 11) rfl (by kernel_rfl) (by kernel_rfl) (by kernel_rfl) (fun _ _ _ h => h) (Or.inl ⟨by rfl, ?_⟩) ?_
        · (intro w; go_simp; try omega)
        try simp only [Act.put, List.getElem_toArray, List.getElem_cons_succ, List.getElem_cons_zero, List.setIfInBounds_toArray, List.set]
        have hbW9 := hbr.trans hb9
        clear hb9 hbr
        have dk : ((((q + 2 : Nat) : Int)) == (q : Int) + 2) = true := beq_iff_eq.2 (by omega)
        refine wpAny_done (by kernel_rfl) ?_ _
        go_wp2_with fail
        go_ret
        exact ⟨rfl, hbW9⟩
      refine AllReady.cons (by first | (simp only [List.getElem?_toArray, List.getElem?_cons_succ, List.getElem?_cons_zero]; done) | (simp only [List.getElem?_toArray, List.getElem?_cons_succ, List.getElem?_cons_zero]; rfl)) (fun K hK => ?_) AllReady.nil
      go_simp
      refine hK _ _ ?_
      clear hK K
      try simp only [Act.put, List.getElem_toArray, List.getElem_cons_succ, List.getElem_cons_zero, List.setIfInBounds_toArray, List.set]
      refine wpAny_take (i := 12) (v := .string (s.extract en s.size)) rfl (by kernel_rfl) (by kernel_rfl) (by kernel_rfl) (fun _ _ _ h => h) (Or.inl ⟨by rfl, ?_⟩) ?_
      · (intro w; go_simp; try omega)
      try simp only [Act.put, List.getElem_toArray, List.getElem_cons_succ, List.getElem_cons_zero, List.setIfInBounds_toArray, List.set]
      generalize v1 = v2 at *
      refine wpAny_ready (rs := [4]) (by kernel_rfl) (by simp) ?_
      refine AllReady.cons (by first | (simp only [List.getElem?_toArray, List.getElem?_cons_succ, List.getElem?_cons_zero]; done) | (simp only [List.getElem?_toArray, List.getElem?_cons_succ, List.getElem?_cons_zero]; rfl)) (fun K hK => ?_) AllReady.nil
      go_simp
      refine hK _ _ ?_
      clear hK K
      try simp only [Act.put, List.getElem_toArray, List.getElem_cons_succ, List.getElem_cons_zero, List.setIfInBounds_toArray, List.set]
      refine wpAny_take (i := 5) (v := .string (s.extract 0 en)) rfl (by kernel_rfl) (by kernel_rfl) (by kernel_rfl) (fun _ _ _ h => h) (Or.inl ⟨by rfl, ?_⟩) ?_
      · (intro w; go_simp; try omega)
      refine wpAny_take (i := 6) (v := .string (s.extract 0 en ++ ⟨#[63, 10]⟩)) rfl (by kernel_rfl) (by kernel_rfl) (by kernel_rfl) (fun _ _ _ h => h) (Or.inl ⟨by rfl, ?_⟩) ?_
      · (intro w; go_simp; try omega)
      try simp only [Act.put, List.getElem_toArray, List.getElem_cons_succ, List.getElem_cons_zero, List.setIfInBounds_toArray, List.set]
      refine wpAny_take (i := 13) (v := .string (s.extract 0 en ++ ⟨#[63, 10]⟩ ++ s.extract en s.size)) rfl (by kernel_rfl) (by kernel_rfl) (by kernel_rfl) (fun _ _ _ h => h) (Or.inl ⟨by rfl, ?_⟩) ?_
      · (intro w; go_simp; try omega)
      try simp only [Act.put, List.getElem_toArray, List.getElem_cons_succ, List.getElem_cons_zero, List.setIfInBounds_toArray, List.set]
      generalize v2 = v3 at *
      refine wpAny_ready (rs := [14]) (by kernel_rfl) (by simp) ?_
      refine AllReady.cons (by first | (simp only [List.getElem?_toArray, List.getElem?_cons_succ, List.getElem?_cons_zero]; done) | (simp only [List.getElem?_toArray, List.getElem?_cons_succ, List.getElem?_cons_zero]; rfl)) (fun K hK => ?_) AllReady.nil
      go_simp
      refine (HPQ.out _).mono ?_
      rintro e v4 ⟨rfl, hb'⟩
      have HA := Lib.hid (HA.out.kept hb')
      have hce' : v4.cell? ⟨g, q, none⟩ = some (.int .i64 (en : Int)) := (hb'.cell (p := ⟨g, q, none⟩) (block_lt_of_cell hce)).trans hce
      have hbW' := hbr.trans (hb'.mono hbr.size)
      clear hb' hce hbr
      have hce := hce'
      have hbr := hbW'
      clear hce' hbW'
      unfold Cf.zconf
      refine hK _ _ ?_
      clear hK K
      try simp only [Act.put, List.getElem_toArray, List.getElem_cons_succ, List.getElem_cons_zero, List.setIfInBounds_toArray, List.set]
      refine wpAny_take (i := 15) (v := .tuple #[.agg #[.int .u8 0, .int .u8 0, .int .u8 0, .int .u8 0, .int .u8 0, .int .u8 0, .int .u8 0, .int .u8 0, .int .i64 0, .int .i64 0, .int .i64 0, .int .i64 0, .slice none 0 0], .int .i64 ((q + 2 : Nat) : Int), .int .i64 11]) rfl (by kernel_rfl) (by kernel_rfl) (by kernel_rfl) (fun _ _ _ h => h) (Or.inl ⟨by rfl, ?_⟩) ?_
      · (intro w; go_simp; try omega)
      refine wpAny_take (i := 16) (v := .agg #[.int .u8 0, .int .u8 0, .int .u8 0, .int .u8 0, .int .u8 0, .int .u8 0, .int .u8 0, .int .u8 0, .int .i64 0, .int .i64 0, .int .i64 0, .int .i64 0, .slice none 0 0]) rfl (by kernel_rfl) (by kernel_rfl) (by kernel_rfl) (fun _ _ _ h => h) (Or.inl ⟨by rfl, ?_⟩) ?_
      · (intro w; go_simp; try omega)
      refine wpAny_take (i := 17) (v := .int .i64 ((q + 2 : Nat) : Int)) rfl (by kernel_rfl) (by kernel_rfl) (by kernel_rfl) (fun _ _ _ h => h) (Or.inl ⟨by rfl, ?_⟩) ?_
      · (intro w; go_simp; try omega)
      refine wpAny_take (i := 18) (v := .int .i64 11) rfl (by kernel_rfl) (by kernel_rfl) (by kernel_rfl) (fun _ _ _ h => h) (Or.inl ⟨by rfl, ?_⟩) ?_
      · (intro w; go_simp; try omega)
      try simp only [Act.put, List.getElem_toArray, List.getElem_cons_succ, List.getElem_cons_zero, List.setIfInBounds_toArray, List.set]
      refine wpAny_ready (rs := [20]) (by kernel_rfl) (by simp) ?_
      refine AllReady.cons (by first | (simp only [List.getElem?_toArray, List.getElem?_cons_succ, List.getElem?_cons_zero]; done) | (simp only [List.getElem?_toArray, List.getElem?_cons_succ, List.getElem?_cons_zero]; rfl)) (fun K hK => ?_) AllReady.nil
      refine step_store_part rfl 29 (.tmp 11) (.tmp 73) rfl nb 0 #[.int .u8 0, .int .u8 0, .int .u8 0, .int .u8 0, .int .u8 0, .int .u8 0, .int .u8 0, .int .u8 0, .int .i64 0, .int .i64 0, .int .i64 0, .int .i64 0, .slice none 0 0] rfl rfl 29 #[.int .u8 0, .int .u8 0, .int .u8 0, .int .u8 0, .int .u8 0, .int .u8 0, .int .u8 0, .int .u8 0, .int .i64 0, .int .i64 0, .int .i64 0, .int .i64 0, .slice none 0 0] HA.out (by show 0 + 13 ≤ 13; decide) Cf.info_conf (by kernel_rfl) #[.int .u8 0, .int .u8 0, .int .u8 0, .int .u8 0, .int .u8 0, .int .u8 0, .int .u8 0, .int .u8 0, .int .i64 0, .int .i64 0, .int .i64 0, .int .i64 0, .slice none 0 0] rfl w.heap.size hwb ?_
      intro w9 _ _ _ hb9
      refine hK _ _ ?_
      clear hK K
      try simp only [Act.put, List.getElem_toArray, List.getElem_cons_succ, List.getElem_cons_zero, List.setIfInBounds_toArray, List.set]
      refine wpAny_take (i := 21) (v := .int .i64 ((q + 2 : Nat) : Int)) rfl (by kernel_rfl) (by kernel_rfl) (by kernel_rfl) (fun _ _ _ h => h) (Or.inl ⟨by rfl, ?_⟩) ?_
      · (intro w; go_simp; try omega)
      refine wpAny_take (i := 22) (v := .int .i64 11) rfl (by kernel_rfl) (by kernel_rfl) (by kernel_rfl) (fun _ _ _ h => h) (Or.inl ⟨by rfl, ?_⟩) ?_
      · (intro w; go_simp; try omega)
      try simp only [Act.put, List.getElem_toArray, List.getElem_cons_succ, List.getElem_cons_zero, List.setIfInBounds_toArray, List.set]
      have hbW9 := hbr.trans hb9
      clear hb9 hbr
      have dk : ((((q + 2 : Nat) : Int)) == (q : Int) + 2) = true := beq_iff_eq.2 (by omega)
      refine wpAny_done (by kernel_rfl) ?_ _
      go_wp2_with fail
      go_ret
      exact ⟨rfl, hbW9⟩

set_option maxRecDepth 20000 in
set_option maxHeartbeats 2000000 in
theorem confLines_long (s : ByteArray) (a : Int) (hs : 3000 < s.size) (w : World) : Calls Tryd.prog 3 #[.string s, .int .u8 a] w fun e w' => e = .returned (.bool true) ∧ Below w.heap.size w w' := by
  have d1 : decide (3000 < (s.size : Int)) = true := decide_eq_true (by omega)
  go_enter Tryd.func3, Tryd.ntmps3
  go_wp2_with fail
  refine (awake_any _).mono ?_
  rintro e w1 ⟨rfl, hb1⟩
  go_wp2_with fail
  refine (awake_any _).mono ?_
  rintro e w2 ⟨rfl, hb2⟩
  have hbW := hb1.trans (hb2.mono hb1.size)
  clear hb1 hb2
  go_wp2_with fail
  go_ret
  exact ⟨rfl, hbW⟩
theorem confLines_walk (s : ByteArray) (a : Int) (ha : (Lit.int .u8 a).wf = true) (w : World) : Calls Tryd.prog 3 #[.string s, .int .u8 a] w fun e w' => e = .returned (.bool true) ∧ Below w.heap.size w w' := by
  rcases Nat.lt_or_ge 3000 s.size with h | hs
  · exact confLines_long s a h w
  cases h : Cf.scan0 (Cf.linesB s) with
  | inl k => exact confLines_bad s a hs h w
  | inr r =>
    obtain ⟨b, ps⟩ := r
    cases hc : Cf.cOk b ps with
    | false => exact confLines_arg s a hs h hc w
    | true =>
      simp only [Lit.wf, Bool.and_eq_true, decide_eq_true_eq] at ha
      have ha : 0 ≤ a ∧ a ≤ 255 := ha
      obtain ⟨a, rfl⟩ := Int.eq_ofNat_of_zero_le ha.1
      exact confLines_good s a (by omega) hs h hc w
end Go.Proofs.YthfckdnennfnoaaDoor
