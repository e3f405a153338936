/- conf.Parse. By an AI agent. -/
import Derived.Test.YthfckdnennfnoaaDoorConfF
namespace Go.Proofs.YthfckdnennfnoaaDoor
open Go.RowKit Go.WideShapes Go.Sort Grow

namespace Cf
theorem allNum_len : ∀ (l : List (List UInt8)) (ns : List Nat), allNum l = some ns → ns.length = l.length
  | [], ns, h => by cases h; rfl
  | p :: ps, ns, h => by
    unfold allNum at h
    cases h1 : numOf p with
    | none => rw [h1] at h; cases h
    | some a => cases h2 : allNum ps with
      | none => rw [h1, h2] at h; cases h
      | some l =>
        rw [h1, h2] at h
        obtain rfl := Option.some.inj h
        rw [List.length_cons, List.length_cons, allNum_len ps l h2]
theorem tagsOf_len {l : List UInt8} {ns : List Nat} (h : tagsOf l = some ns) : ns.length ≤ l.length + 1 := by
  unfold tagsOf at h
  by_cases hl : l = [45]
  · rw [if_pos hl] at h; obtain rfl := Option.some.inj h; exact Nat.zero_le _
  · rw [if_neg hl] at h
    rw [allNum_len _ _ h]
    exact parts_len 44 l
theorem restOf_tags {lk : Bool} {ra : Nat} {gr : Bool} {psk : List UInt8} {l : List (List UInt8)} {p : Pt} (h : restOf lk ra gr psk l = some p) : ∃ b ∈ l, tagsOf b = some p.tags := by
  match l, h with
  | [a, b, c, d], h =>
    rw [rest_eq] at h
    cases h1 : numOf a <;> cases h2 : tagsOf b <;> cases h3 : numOf c <;> cases h4 : numOf d <;> rw [h1, h2, h3, h4] at h <;> first | (cases h; done) | (obtain rfl := Option.some.inj h; exact ⟨b, by simp, h2⟩)
theorem portOf_tags {l : List (List UInt8)} {p : Pt} (h : portOf l = some p) : ∃ b ∈ l, tagsOf b = some p.tags := by
  match l, h with
  | w :: t, h =>
    replace h : (if w = wTap then restOf false 0 false (zeros 32) t else if w = wLink then linkOf t else none) = some p := h
    by_cases h1 : w = wTap
    · rw [if_pos h1] at h
      obtain ⟨b, hb, e⟩ := restOf_tags h
      exact ⟨b, List.mem_cons_of_mem _ hb, e⟩
    · rw [if_neg h1] at h
      by_cases h2 : w = wLink
      · rw [if_pos h2] at h
        match t, h with
        | a :: b :: c :: t, h =>
          replace h : (match numOf a, bytesOf c 32 with
            | some r, some k => if b = [103] ∨ b = [97] then restOf true r (b == [103]) k t else none
            | _, _ => none) = some p := h
          cases h3 : numOf a with
          | none => rw [h3] at h; cases h
          | some r => cases h4 : bytesOf c 32 with
            | none => rw [h3, h4] at h; cases h
            | some k =>
              rw [h3, h4] at h
              replace h : (if b = [103] ∨ b = [97] then restOf true r (b == [103]) k t else none) = some p := h
              by_cases h5 : b = [103] ∨ b = [97]
              · rw [if_pos h5] at h
                obtain ⟨x, hx, e⟩ := restOf_tags h
                exact ⟨x, by simp [hx], e⟩
              · rw [if_neg h5] at h; cases h
      · rw [if_neg h2] at h; cases h
theorem linePt_tags {s : ByteArray} {p : Pt} (h : linePt s = some p) : p.tags.length ≤ s.size + 1 := by
  cases hc : cut s with
  | none => rw [linePt_no hc] at h; cases h
  | some t =>
    rw [linePt_of hc] at h
    obtain ⟨b, hb, e⟩ := portOf_tags h
    have h1 := tagsOf_len e
    have h2 : lists (Oct.pieces 32 t) = Oct.parts 32 t.data.toList := pieces_list 32 t
    rw [h2] at hb
    have h3 := parts_small 32 _ b hb
    have h4 := cut_size hc
    have h5 : t.data.toList.length = t.size := by simp
    omega
/-- as far as the text was read: k lines -/
def Stage (s : ByteArray) (w : World) (C base k : Nat) : Prop := (k = 0 ∧ RowIs w C 29 zconf) ∨ ∃ b pv psv, scan0 (linesB s) = scan b (psv.map Prod.fst) k ((linesB s).drop k) ∧ RowIs w C 29 (bcells b pv) ∧ Ports w base pv psv ∧ psv.length + 1 = k ∧ b.id.length = 8 ∧ ∀ q ∈ psv, q.1.tags.length ≤ 1000000
theorem drop_at {L : List ByteArray} {k : Nat} (hk : k < L.length) : L.drop k = L.getD k ⟨#[]⟩ :: L.drop (k + 1) := by
  rw [List.drop_eq_getElem_cons hk, List.getD_eq_getElem?_getD, List.getElem?_eq_getElem hk, Option.getD_some]
theorem getD_small {s : ByteArray} {k : Nat} (hk : k < (linesB s).length) : ((linesB s).getD k ⟨#[]⟩).size ≤ s.size := by
  rw [List.getD_eq_getElem?_getD, List.getElem?_eq_getElem hk, Option.getD_some]
  exact linesB_small s _ (List.getElem_mem hk)
theorem scan0_cons (l : ByteArray) (ls : List ByteArray) : scan0 (l :: ls) = (match lineBr l with | none => .inl 1 | some b => scan b [] 1 ls) := rfl
theorem scan0_bad {s : ByteArray} (h0 : 0 < (linesB s).length) (h : lineBr ((linesB s).getD 0 ⟨#[]⟩) = none) : scan0 (linesB s) = .inl 1 := by
  have e := drop_at h0
  rw [List.drop_zero] at e
  rw [e, scan0_cons, h]
theorem scan0_good {s : ByteArray} {b : Br} (h0 : 0 < (linesB s).length) (h : lineBr ((linesB s).getD 0 ⟨#[]⟩) = some b) : scan0 (linesB s) = scan b [] 1 ((linesB s).drop 1) := by
  have e := drop_at h0
  rw [List.drop_zero] at e
  conv => lhs; rw [e, scan0_cons, h]
theorem scan_bad {s : ByteArray} {b : Br} {ps : List Pt} {k : Nat} (hk : k < (linesB s).length) (h : linePt ((linesB s).getD k ⟨#[]⟩) = none) : scan b ps k ((linesB s).drop k) = .inl (k + 1) := by
  rw [drop_at hk]
  unfold scan
  rw [h]
theorem scan_good {s : ByteArray} {b : Br} {ps : List Pt} {p : Pt} {k : Nat} (hk : k < (linesB s).length) (h : linePt ((linesB s).getD k ⟨#[]⟩) = some p) : scan b ps k ((linesB s).drop k) = scan b (ps ++ [p]) (k + 1) ((linesB s).drop (k + 1)) := by
  conv => lhs; rw [drop_at hk]
  conv => lhs; unfold scan
  rw [h]
theorem stage_first {s : ByteArray} {w w' : World} {C base : Nat} {b : Br} (h0 : 0 < (linesB s).length) (h : lineBr ((linesB s).getD 0 ⟨#[]⟩) = some b) (hR : RowIs w' C 29 (bcells b (.slice none 0 0))) : Stage s w' C base 1 :=
  .inr ⟨b, _, [], scan0_good h0 h, hR, ⟨World.ownsRow_nil _ _ _ _, fun q hq => (by cases hq)⟩, rfl, lineBr_id h, fun q hq => (by cases hq)⟩
theorem owns_kept {w w' : World} {C B base n : Nat} {e : TypeId} {v : Value} {xs : List Value} (h : w.ownsRow B e 1 v n xs) (hB : w.heap.size ≤ base) (hC : C < B) (hT : Turned C base w w') : w'.ownsRow B e 1 v n xs := by
  refine ⟨h.1, ?_⟩
  rcases h.2 with h | ⟨g, cap, cur, hv, hb, hc, h⟩
  · exact .inl h
  · have := (Array.getElem?_eq_some_iff.1 hc).1
    exact .inr ⟨g, cap, cur, hv, hb, (hT.2 g (by omega) (by omega)).trans hc, h⟩
theorem lines_form {w : World} {base n : Nat} {v : Value} {xs : List Value} (h : w.ownsRow base 9 1 v n xs) : ∃ ao g cap, v = .slice ao n cap ∧ (ao = some ⟨g, 0, none⟩ ∨ n = 0) := by
  rcases h.2 with ⟨rfl, h0⟩ | ⟨g, cap, cur, rfl, _⟩
  · exact ⟨none, 0, 0, by rw [h0], .inr h0⟩
  · exact ⟨_, g, cap, rfl, .inl rfl⟩
theorem strs_at (L : List ByteArray) (k : Nat) (hk : k < L.length) : (Strs.all L)[k]? = some (.string (L.getD k ⟨#[]⟩)) := by
  unfold Strs.all
  rw [List.getElem?_map, List.getD_eq_getElem?_getD, List.getElem?_eq_getElem hk]
  rfl
theorem bcells_id {b : Br} {x : Id8} (h : b.id = x.l) (pv : Value) : bcells b pv = #[.int .u8 ((x.f 0).toNat : Int), .int .u8 ((x.f 1).toNat : Int), .int .u8 ((x.f 2).toNat : Int), .int .u8 ((x.f 3).toNat : Int), .int .u8 ((x.f 4).toNat : Int), .int .u8 ((x.f 5).toNat : Int), .int .u8 ((x.f 6).toNat : Int), .int .u8 ((x.f 7).toNat : Int), .int .i64 b.maxAge, .int .i64 b.hello, .int .i64 b.delay, .int .i64 b.ageing, pv] := by
  unfold bcells
  rw [h]
  rfl
theorem Turned.refl (C base : Nat) (w : World) : Turned C base w w := ⟨Nat.le_refl _, fun _ _ _ => rfl⟩
theorem Turned.trans {C base : Nat} {w w' w'' : World} (h : Turned C base w w') (h2 : Turned C base w' w'') : Turned C base w w'' := ⟨Nat.le_trans h.1 h2.1, fun j a b => (h2.2 j a b).trans (h.2 j a b)⟩
theorem info_conf : (Tryd.prog.info? 29).map (·.size) = some 13 := by kernel_rfl
end Cf

set_option maxRecDepth 20000 in
set_option maxHeartbeats 4000000 in
theorem parse_any (s : ByteArray) (hs : s.size ≤ 8192) (w : World) :
    Calls Tryd.prog 6 #[.string s] w fun e w' => Cf.ParseAns s w.heap.size e w' ∧ Below w.heap.size w w' := by
  have hll := Cf.linesB_len s
  go_enter Tryd.func6, Tryd.ntmps6
  go_upto_region 1 with fail
  have HR1 : Hid (RowIs (w.alloc (.cells #[.int .u8 0, .int .u8 0, .int .u8 0, .int .u8 0, .int .u8 0, .int .u8 0, .int .u8 0, .int .u8 0, .int .i64 0, .int .i64 0, .int .i64 0, .int .i64 0, .slice none 0 0] 29)) w.heap.size 29 #[.int .u8 0, .int .u8 0, .int .u8 0, .int .u8 0, .int .u8 0, .int .u8 0, .int .u8 0, .int .u8 0, .int .i64 0, .int .i64 0, .int .i64 0, .int .i64 0, .slice none 0 0]) := rowIs_new w _ _
  have hb1 : Below w.heap.size w (w.alloc (.cells #[.int .u8 0, .int .u8 0, .int .u8 0, .int .u8 0, .int .u8 0, .int .u8 0, .int .u8 0, .int .u8 0, .int .i64 0, .int .i64 0, .int .i64 0, .int .i64 0, .slice none 0 0] 29)) := (Below.refl _ _).alloc (Nat.le_refl _) _
  have hs1 : (w.alloc (.cells #[.int .u8 0, .int .u8 0, .int .u8 0, .int .u8 0, .int .u8 0, .int .u8 0, .int .u8 0, .int .u8 0, .int .i64 0, .int .i64 0, .int .i64 0, .int .i64 0, .slice none 0 0] 29)).heap.size = w.heap.size + 1 := by simp
  generalize w.alloc (.cells #[.int .u8 0, .int .u8 0, .int .u8 0, .int .u8 0, .int .u8 0, .int .u8 0, .int .u8 0, .int .u8 0, .int .i64 0, .int .i64 0, .int .i64 0, .int .i64 0, .slice none 0 0] 29) = w1 at *
  have dsz : decide (8192 < (s.size : Int)) = false := decide_eq_false (by omega)
  go_upto_region 4 with fail
  clear dsz
  have HR2 : Hid (RowIs (w1.alloc (.cells #[.int .u8 0, .int .u8 0, .int .u8 0, .int .u8 0, .int .u8 0, .int .u8 0, .int .u8 0, .int .u8 0, .int .i64 0, .int .i64 0, .int .i64 0, .int .i64 0, .slice none 0 0] 29)) w.heap.size 29 #[.int .u8 0, .int .u8 0, .int .u8 0, .int .u8 0, .int .u8 0, .int .u8 0, .int .u8 0, .int .u8 0, .int .i64 0, .int .i64 0, .int .i64 0, .int .i64 0, .slice none 0 0]) := HR1.out.alloc _
  have HC2 : Hid (RowIs (w1.alloc (.cells #[.int .u8 0, .int .u8 0, .int .u8 0, .int .u8 0, .int .u8 0, .int .u8 0, .int .u8 0, .int .u8 0, .int .i64 0, .int .i64 0, .int .i64 0, .int .i64 0, .slice none 0 0] 29)) (w.heap.size + 1) 29 #[.int .u8 0, .int .u8 0, .int .u8 0, .int .u8 0, .int .u8 0, .int .u8 0, .int .u8 0, .int .u8 0, .int .i64 0, .int .i64 0, .int .i64 0, .int .i64 0, .slice none 0 0]) := by show RowIs _ _ _ _; rw [← hs1]; exact rowIs_new w1 _ _
  have hb2 : Below w.heap.size w (w1.alloc (.cells #[.int .u8 0, .int .u8 0, .int .u8 0, .int .u8 0, .int .u8 0, .int .u8 0, .int .u8 0, .int .u8 0, .int .i64 0, .int .i64 0, .int .i64 0, .int .i64 0, .slice none 0 0] 29)) := hb1.alloc (by omega) _
  have hs2 : (w1.alloc (.cells #[.int .u8 0, .int .u8 0, .int .u8 0, .int .u8 0, .int .u8 0, .int .u8 0, .int .u8 0, .int .u8 0, .int .i64 0, .int .i64 0, .int .i64 0, .int .i64 0, .slice none 0 0] 29)).heap.size = w.heap.size + 1 + 1 := by simp; omega
  generalize w1.alloc (.cells #[.int .u8 0, .int .u8 0, .int .u8 0, .int .u8 0, .int .u8 0, .int .u8 0, .int .u8 0, .int .u8 0, .int .i64 0, .int .i64 0, .int .i64 0, .int .i64 0, .slice none 0 0] 29) = w2 at *
  clear HR1 hb1 hs1
  go_upto_region 5 with fail
  go_wp2_with fail
  refine (lines_any s _).mono ?_
  rintro e w' ⟨rfl, rfl⟩
  have hbx : Boxed (w2.alloc (.cells #[.string s] 9)) (w.heap.size + 1 + 1) 9 (.string s) := by rw [← hs2]; exact Boxed.new w2 _ _
  have HR3 := Lib.hid (HR2.out.alloc (.cells #[.string s] 9))
  have HC3 := Lib.hid (HC2.out.alloc (.cells #[.string s] 9))
  have hb3 : Below w.heap.size w (w2.alloc (.cells #[.string s] 9)) := hb2.alloc (by omega) _
  have hs3 : (w2.alloc (.cells #[.string s] 9)).heap.size = w.heap.size + 1 + 1 + 1 := by simp; omega
  generalize w2.alloc (.cells #[.string s] 9) = w3 at *
  have HCO := Lib.hid (collect_any (w.heap.size + 1 + 1) s (by omega) _ hbx)
  rw [hs3] at HCO
  clear HR2 HC2 hb2 hbx
  go_wp2_with fail
  refine HCO.out.mono ?_
  rintro e w4 ⟨⟨lv, rfl, ho⟩, hb⟩
  have hs4 := hb.size
  have HR4 := Lib.hid (HR3.out.below hb (by omega))
  have HC4 := Lib.hid (HC3.out.below hb (by omega))
  have hb4 : Below w.heap.size w w4 := hb3.trans (hb.mono (by omega))
  obtain ⟨ao, g, cap, rfl, hao⟩ := Cf.lines_form ho
  have HO := Lib.hid ho
  clear HCO HR3 HC3 hb3 hb ho
  obtain ⟨base, hbase⟩ : ∃ x, w4.heap.size = x := ⟨_, rfl⟩
  have hbs : w.heap.size + 1 + 1 + 1 ≤ base := by omega
  clear hs2 hs3 hs4
  have HBA := Lib.hid hbase
  clear hbase
  go_upto_region 6 with fail
  go_loopw [6, 8, 17] (fun v6 _ i wr => ∃ k : Nat, k ≤ (Cf.linesB s).length ∧ v6 = .int .i64 k ∧ i = .int .i64 k ∧ Hid (Cf.Stage s wr (w.heap.size + 1) base k) ∧ Hid (RowIs wr w.heap.size 29 #[.int .u8 0, .int .u8 0, .int .u8 0, .int .u8 0, .int .u8 0, .int .u8 0, .int .u8 0, .int .u8 0, .int .i64 0, .int .i64 0, .int .i64 0, .int .i64 0, .slice none 0 0]) ∧ Cf.Turned (w.heap.size + 1) base w4 wr ∧ Below w.heap.size w wr) (fun _ _ i _ => (Cf.linesB s).length - (RowKit.intOf i).toNat)
  case atStart => exact ⟨0, Nat.zero_le _, rfl, rfl, .inl ⟨rfl, HC4.out⟩, HR4, Cf.Turned.refl _ _ _, hb4⟩
  case round =>
    rename World => wr
    clear HR4 HC4 hb4
    obtain ⟨k, hk, rfl, rfl, HS, HRr, hT, hbr⟩ := hrel
    have hszr : base ≤ wr.heap.size := by have := hT.1; have := HBA.out; omega
    by_cases hlt : k < (Cf.linesB s).length
    · obtain rfl : ao = some ⟨g, 0, none⟩ := hao.resolve_right (by omega)
      have c9 : wr.cell? ⟨g, k, none⟩ = some (.string ((Cf.linesB s).getD k ⟨#[]⟩)) := by
        rw [World.ownsRow.cellAt (Cf.owns_kept HO.out (by have := HBA.out; omega) (by omega) hT) k (by omega)]
        exact Cf.strs_at _ _ hlt
      have hlz : ((Cf.linesB s).getD k ⟨#[]⟩).size < 9000 := by have := Cf.getD_small hlt; omega
      have HSB := Lib.hid (fun b ps => Cf.scan_bad (b := b) (ps := ps) hlt)
      have HSG := Lib.hid (fun b ps p => Cf.scan_good (b := b) (ps := ps) (p := p) hlt)
      have HTG := Lib.hid (fun p => Cf.linePt_tags (s := (Cf.linesB s).getD k ⟨#[]⟩) (p := p))
      rcases HS.out with ⟨rfl, hX⟩ | ⟨b, pv, psv, hsc, hX, hps, hlen, hid, htg⟩
      · have HFB := Lib.hid (Cf.scan0_bad hlt)
        have HFG := Lib.hid (fun b w' h hr => Cf.stage_first (s := s) (w := wr) (w' := w') (C := w.heap.size + 1) (base := base) (b := b) hlt h hr)
        obtain ⟨l, hl⟩ : ∃ l, (Cf.linesB s).getD 0 ⟨#[]⟩ = l := ⟨_, rfl⟩
        rw [hl] at c9 hlz HSB HSG HTG HFB HFG
        have HLI := Lib.hid (line_first w.heap.size (w.heap.size + 1) l hlz (Cf.zeros 8) rfl (.int .i64 0) (.int .i64 0) (.int .i64 0) (.int .i64 0) (.slice none 0 0) wr hX (by omega))
        clear hX HS HSB HSG HTG hl
        go_wp2_with fail
        refine HLI.out.mono ?_
        rintro e w5 ⟨he, hY, hO, hb⟩
        have hb5 := hbr.trans hb
        have HR5 := Lib.hid (HRr.out.only hO (by simp))
        cases hv : Cf.lineBr l with
        | none =>
          rw [hv] at he
          obtain rfl : e = .returned (.bool false) := he
          have HAN := Lib.hid (HFB.out hv)
          clear hv hY HFB HFG hO hb HLI
          go_wp2_with ((with_reducible refine at_store 29 (.tmp 2) (.tmp 28) ?_); refine wpList_store_own rfl 29 (.tmp 2) (.tmp 28) rfl w.heap.size #[.int .u8 0, .int .u8 0, .int .u8 0, .int .u8 0, .int .u8 0, .int .u8 0, .int .u8 0, .int .u8 0, .int .i64 0, .int .i64 0, .int .i64 0, .int .i64 0, .slice none 0 0] rfl rfl 29 #[.int .u8 0, .int .u8 0, .int .u8 0, .int .u8 0, .int .u8 0, .int .u8 0, .int .u8 0, .int .u8 0, .int .i64 0, .int .i64 0, .int .i64 0, .int .i64 0, .slice none 0 0] HR5.out Cf.info_conf rfl (by kernel_rfl) w.heap.size (Nat.le_refl _) ?_)
          intro w9 hR9 hO9 hs9 hb9
          have HR9 := Lib.hid hR9
          clear hR9
          go_wp2_with fail
          refine bodyPost_ret (results_row_tmp2 Tryd.results6 _ _ w.heap.size 29 #[.int .u8 0, .int .u8 0, .int .u8 0, .int .u8 0, .int .u8 0, .int .u8 0, .int .u8 0, .int .u8 0, .int .i64 0, .int .i64 0, .int .i64 0, .int .i64 0, .slice none 0 0] _ rfl HR9.out Tryd.underlying29 rfl Cf.info_conf) rfl ?_
          exact ⟨Cf.parseAns_bad (k := 1) HAN.out, hb5.trans hb9⟩
        | some b =>
          rw [hv] at he
          obtain rfl : e = .returned (.bool true) := he
          have HAN := Lib.hid (HFG.out b w5 hv (hY b hv))
          have hT5 := hT.trans (Cf.turned_only hO hszr)
          clear hv hY HFB HFG hO hb HLI
          go_wp2_with fail
          exact ⟨⟨1, by omega, by go_num, by go_num, HAN, HR5, hT5, hb5⟩, by simp [RowKit.intOf]; omega⟩
      · obtain ⟨l, hl⟩ : ∃ l, (Cf.linesB s).getD k ⟨#[]⟩ = l := ⟨_, rfl⟩
        rw [hl] at c9 hlz HSB HSG HTG
        have d1 : ((k : Int) + 1 == 1) = false := beq_eq_false_iff_ne.2 (by omega)
        have HSC := Lib.hid hsc
        have HTT := Lib.hid htg
        have HLI := Lib.hid (line_port w.heap.size (w.heap.size + 1) base l hlz b.id hid (.int .i64 b.maxAge) (.int .i64 b.hello) (.int .i64 b.delay) (.int .i64 b.ageing) pv psv wr hX hps (by omega) (by omega) hszr (by omega))
        clear hX HS hl hsc hps htg
        go_wp2_with fail
        refine HLI.out.mono ?_
        rintro e w5 ⟨he, hY, hO, hb⟩
        have hb5 := hbr.trans hb
        have HR5 : Hid (RowIs w5 w.heap.size 29 #[.int .u8 0, .int .u8 0, .int .u8 0, .int .u8 0, .int .u8 0, .int .u8 0, .int .u8 0, .int .u8 0, .int .i64 0, .int .i64 0, .int .i64 0, .int .i64 0, .slice none 0 0]) := by
          show _ = _
          rw [hO.2 w.heap.size (by omega) (by omega)]
          exact HRr.out
        cases hv : Cf.linePt l with
        | none =>
          rw [hv] at he
          obtain rfl : e = .returned (.bool false) := he
          have HAN := Lib.hid (HSC.out.trans (HSB.out _ _ hv))
          clear hv hY hO hb HLI HSB HSG
          go_wp2_with ((with_reducible refine at_store 29 (.tmp 2) (.tmp 28) ?_); refine wpList_store_own rfl 29 (.tmp 2) (.tmp 28) rfl w.heap.size #[.int .u8 0, .int .u8 0, .int .u8 0, .int .u8 0, .int .u8 0, .int .u8 0, .int .u8 0, .int .u8 0, .int .i64 0, .int .i64 0, .int .i64 0, .int .i64 0, .slice none 0 0] rfl rfl 29 #[.int .u8 0, .int .u8 0, .int .u8 0, .int .u8 0, .int .u8 0, .int .u8 0, .int .u8 0, .int .u8 0, .int .i64 0, .int .i64 0, .int .i64 0, .int .i64 0, .slice none 0 0] HR5.out Cf.info_conf rfl (by kernel_rfl) w.heap.size (Nat.le_refl _) ?_)
          intro w9 hR9 hO9 hs9 hb9
          have HR9 := Lib.hid hR9
          clear hR9
          go_wp2_with fail
          refine bodyPost_ret (results_row_tmp2 Tryd.results6 _ _ w.heap.size 29 #[.int .u8 0, .int .u8 0, .int .u8 0, .int .u8 0, .int .u8 0, .int .u8 0, .int .u8 0, .int .u8 0, .int .i64 0, .int .i64 0, .int .i64 0, .int .i64 0, .slice none 0 0] _ rfl HR9.out Tryd.underlying29 rfl Cf.info_conf) rfl ?_
          exact ⟨Cf.parseAns_bad HAN.out, hb5.trans hb9⟩
        | some p =>
          rw [hv] at he
          obtain rfl : e = .returned (.bool true) := he
          obtain ⟨pv', tv, hX', hps'⟩ := hY p hv
          have HAN : Hid (Cf.Stage s w5 (w.heap.size + 1) base (k + 1)) := .inr ⟨b, pv', psv ++ [(p, tv)], by rw [HSC.out, HSG.out _ _ _ hv, List.map_append]; rfl, hX', hps', by rw [List.length_append, List.length_singleton, hlen], hid, fun q hq => by
            rcases List.mem_append.1 hq with h | h
            · exact HTT.out q h
            · obtain rfl := List.mem_singleton.1 h
              have := HTG.out p hv
              show p.tags.length ≤ _
              omega⟩
          have hT5 := hT.trans hO
          clear hv hY hO hb HLI HSB HSG hX' hps'
          go_wp2_with fail
          exact ⟨⟨k + 1, by omega, by go_num, by go_num, HAN, HR5, hT5, hb5⟩, by simp [RowKit.intOf]; omega⟩
    · obtain rfl : k = (Cf.linesB s).length := by omega
      rcases HS.out with ⟨h0, hX⟩ | ⟨b, pv, psv, hsc, hX, hps, hlen, hid, htg⟩
      · have HAN : Hid (Cf.scan0 (Cf.linesB s) = .inl 1) := by show _ = _; rw [List.eq_nil_of_length_eq_zero h0]; rfl
        clear hX HS HO
        rw [h0]
        have h0' := Lib.hid h0
        clear h0
        go_wp2_with ((with_reducible refine at_store 29 (.tmp 2) (.tmp 34) ?_); refine wpList_store_own rfl 29 (.tmp 2) (.tmp 34) rfl w.heap.size #[.int .u8 0, .int .u8 0, .int .u8 0, .int .u8 0, .int .u8 0, .int .u8 0, .int .u8 0, .int .u8 0, .int .i64 0, .int .i64 0, .int .i64 0, .int .i64 0, .slice none 0 0] rfl rfl 29 #[.int .u8 0, .int .u8 0, .int .u8 0, .int .u8 0, .int .u8 0, .int .u8 0, .int .u8 0, .int .u8 0, .int .i64 0, .int .i64 0, .int .i64 0, .int .i64 0, .slice none 0 0] HRr.out Cf.info_conf rfl (by kernel_rfl) w.heap.size (Nat.le_refl _) ?_)
        intro w9 hR9 hO9 hs9 hb9
        have HR9 := Lib.hid hR9
        clear hR9
        go_wp2_with fail
        refine bodyPost_ret (results_row_tmp2 Tryd.results6 _ _ w.heap.size 29 #[.int .u8 0, .int .u8 0, .int .u8 0, .int .u8 0, .int .u8 0, .int .u8 0, .int .u8 0, .int .u8 0, .int .i64 0, .int .i64 0, .int .i64 0, .int .i64 0, .slice none 0 0] _ rfl HR9.out Tryd.underlying29 rfl Cf.info_conf) rfl ?_
        exact ⟨Cf.parseAns_bad (k := 1) HAN.out, hbr.trans hb9⟩
      · have HSC : Hid (Cf.scan0 (Cf.linesB s) = .inr (b, psv.map Prod.fst)) := by
          show _ = _
          rw [hsc, List.drop_length]
          rfl
        obtain ⟨x, hx⟩ := Cf.id8_of _ hid
        obtain ⟨ao2, b2, off2, cap2, hpv, hao2, hPI⟩ := Cf.pin_of hps htg
        have hri := cright_any x b.maxAge b.hello b.delay b.ageing b2 off2 cap2 (psv.map Cf.pvT) wr ao2 hao2 hPI (by rw [List.length_map]; omega)
        rw [Cf.cOk_of, List.length_map] at hri
        rw [List.length_map] at hpv
        have hcells := Cf.bcells_id hx pv
        rw [hcells, hpv] at hX
        have HX := Lib.hid hX
        obtain ⟨ok, hok⟩ : ∃ o, Cf.cOk b (psv.map Prod.fst) = o := ⟨_, rfl⟩
        rw [hok] at hri
        have HRI := Lib.hid hri
        have HOK := Lib.hid hok
        have HPS := Lib.hid hps
        have HCE := Lib.hid hcells
        have HPV := Lib.hid hpv
        have HX8 := Lib.hid hx
        have d1 : (((Cf.linesB s).length : Int) == 0) = false := beq_eq_false_iff_ne.2 (by omega)
        clear hok hps hcells hx hri hX hsc htg HS HO hPI hao2 hpv
        go_wp2_with ((with_reducible refine at_load 29 (.tmp 5) ?_); refine wpList_load_own rfl 29 (.tmp 5) rfl (w.heap.size + 1) rfl 29 _ _ HX.out Tryd.underlying29 rfl (by kernel_rfl) ?_)
        refine HRI.out.mono ?_
        rintro e w5 ⟨rfl, hb⟩
        have hb5 := hbr.trans (hb.mono (by omega))
        have HR5 := Lib.hid (HRr.out.kept hb)
        have HX5 := Lib.hid (HX.out.kept hb)
        have HP5 := Lib.hid (HPS.out.later hb)
        clear HRI hb HPS HX HRr hbr
        cases ok with
        | false =>
          go_wp2_with ((with_reducible refine at_store 29 (.tmp 2) (.tmp 39) ?_); refine wpList_store_own rfl 29 (.tmp 2) (.tmp 39) rfl w.heap.size #[.int .u8 0, .int .u8 0, .int .u8 0, .int .u8 0, .int .u8 0, .int .u8 0, .int .u8 0, .int .u8 0, .int .i64 0, .int .i64 0, .int .i64 0, .int .i64 0, .slice none 0 0] rfl rfl 29 #[.int .u8 0, .int .u8 0, .int .u8 0, .int .u8 0, .int .u8 0, .int .u8 0, .int .u8 0, .int .u8 0, .int .i64 0, .int .i64 0, .int .i64 0, .int .i64 0, .slice none 0 0] HR5.out Cf.info_conf rfl (by kernel_rfl) w.heap.size (Nat.le_refl _) ?_)
          intro w9 hR9 hO9 hs9 hb9
          have HR9 := Lib.hid hR9
          clear hR9
          go_wp2_with fail
          refine bodyPost_ret (results_row_tmp2 Tryd.results6 _ _ w.heap.size 29 #[.int .u8 0, .int .u8 0, .int .u8 0, .int .u8 0, .int .u8 0, .int .u8 0, .int .u8 0, .int .u8 0, .int .i64 0, .int .i64 0, .int .i64 0, .int .i64 0, .slice none 0 0] _ rfl HR9.out Tryd.underlying29 rfl Cf.info_conf) rfl ?_
          exact ⟨Cf.parseAns_arg HSC.out HOK.out, hb5.trans hb9⟩
        | true =>
          go_wp2_with (first | ((with_reducible refine at_load 29 (.tmp 5) ?_); refine wpList_load_own rfl 29 (.tmp 5) rfl (w.heap.size + 1) rfl 29 _ _ HX5.out Tryd.underlying29 rfl (by kernel_rfl) ?_) | ((with_reducible refine at_store 29 (.tmp 2) (.tmp 40) ?_); refine wpList_store_own rfl 29 (.tmp 2) (.tmp 40) rfl w.heap.size #[.int .u8 ((x.f 0).toNat : Int), .int .u8 ((x.f 1).toNat : Int), .int .u8 ((x.f 2).toNat : Int), .int .u8 ((x.f 3).toNat : Int), .int .u8 ((x.f 4).toNat : Int), .int .u8 ((x.f 5).toNat : Int), .int .u8 ((x.f 6).toNat : Int), .int .u8 ((x.f 7).toNat : Int), .int .i64 b.maxAge, .int .i64 b.hello, .int .i64 b.delay, .int .i64 b.ageing, .slice ao2 psv.length cap2] rfl rfl 29 #[.int .u8 0, .int .u8 0, .int .u8 0, .int .u8 0, .int .u8 0, .int .u8 0, .int .u8 0, .int .u8 0, .int .i64 0, .int .i64 0, .int .i64 0, .int .i64 0, .slice none 0 0] HR5.out Cf.info_conf rfl (by simp [Value.oneCell']) w.heap.size (Nat.le_refl _) ?_))
          intro w9 hR9 hO9 hs9 hb9
          have HR9 := Lib.hid hR9
          have HP9 := Lib.hid (HP5.out.stored hO9 (by omega))
          clear hR9 hO9
          go_wp2_with fail
          refine bodyPost_ret (results_row_tmp2 Tryd.results6 _ _ w.heap.size 29 #[.int .u8 ((x.f 0).toNat : Int), .int .u8 ((x.f 1).toNat : Int), .int .u8 ((x.f 2).toNat : Int), .int .u8 ((x.f 3).toNat : Int), .int .u8 ((x.f 4).toNat : Int), .int .u8 ((x.f 5).toNat : Int), .int .u8 ((x.f 6).toNat : Int), .int .u8 ((x.f 7).toNat : Int), .int .i64 b.maxAge, .int .i64 b.hello, .int .i64 b.delay, .int .i64 b.ageing, .slice ao2 psv.length cap2] _ rfl HR9.out Tryd.underlying29 rfl Cf.info_conf) rfl ?_
          refine ⟨?_, hb5.trans hb9⟩
          have h := Cf.parseAns_good (s := s) HSC.out HOK.out (show w.heap.size ≤ base by omega) HP9.out hid
          rw [HCE.out, HPV.out] at h
          exact h
end Go.Proofs.YthfckdnennfnoaaDoor
