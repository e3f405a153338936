/- conf.Parse: what it answers. By an AI agent. -/
import Derived.Test.YthfckdnennfnoaaGreatDoorConfE
import Derived.Test.YthfckdnennfnoaaGreatDoorConfA
import Derived.Test.YthfckdnennfnoaaGreatDoorConfB
import Derived.Shelf.Strings.Builder1
import Derived.Test.YthfckdnennfnoaaGreatDoorBytes
import Derived.Test.YthfckdnennfnoaaGreatDoorConfD
import Derived.Laws.BitsAllLaws
import Derived.Shelf.Strings.OnBuilder
import Derived.Test.YthfckdnennfnoaaGreatDoorGrowKit
import Derived.Lib.QuietBelow
namespace Go.Proofs.YthfckdnennfnoaaGreatDoor
open Go.RowKit Go.WideShapes Go.Sort Grow
theorem flat_getIn {α : Type} {enc : α → List Value} {k : Nat} : ∀ (ds : List α), (∀ a ∈ ds, (enc a).length = k) → ∀ (i j : Nat) (hi : i < ds.length), j < k → (ds.flatMap enc)[i * k + j]? = (enc ds[i])[j]?
  | [], _, i, j, hi, _ => absurd hi (Nat.not_lt_zero _)
  | d :: ds, hk, 0, j, _, hj => by
    rw [List.flatMap_cons, Nat.zero_mul, Nat.zero_add, List.getElem?_append_left (by rw [hk d (by simp)]; exact hj)]
    rfl
  | d :: ds, hk, i + 1, j, hi, hj => by
    have e : (i + 1) * k + j = (enc d).length + (i * k + j) := by rw [hk d (by simp), Nat.succ_mul]; omega
    rw [List.flatMap_cons, e, List.getElem?_append_right (by omega), Nat.add_sub_cancel_left, flat_getIn ds (fun a ha => hk a (by simp [ha])) i j (by simpa using hi) hj]
    rfl

namespace Cf
def zconf : Array Value := #[.int .u8 0, .int .u8 0, .int .u8 0, .int .u8 0, .int .u8 0, .int .u8 0, .int .u8 0, .int .u8 0, .int .i64 0, .int .i64 0, .int .i64 0, .int .i64 0, .slice none 0 0]
/-- the lines behind the first, read one by one; a number: that line can't be read -/
def scan (b : Br) : List Pt → Nat → List ByteArray → Nat ⊕ (Br × List Pt)
  | ps, _, [] => .inr (b, ps)
  | ps, k, l :: ls => match linePt l with
    | none => .inl (k + 1)
    | some p => scan b (ps ++ [p]) (k + 1) ls
def scan0 : List ByteArray → Nat ⊕ (Br × List Pt)
  | [] => .inl 1
  | l :: ls => match lineBr l with
    | none => .inl 1
    | some b => scan b [] 1 ls
def pv0 (p : Pt) : Pv := ⟨p.native, none, ints p.tags, 0, p.horizon, p.limit, p.link, p.rate, p.greets, p.psk⟩
def cOk (b : Br) (ps : List Pt) : Bool := confOk (ps.map pv0) b.ageing b.maxAge b.hello b.delay
def Pv.bare (p : Pv) : Pv := { p with ta := none, tc := 0 }
theorem confOk_bare (L : List Pv) (ag ma he de : Int) : confOk (L.map Pv.bare) ag ma he de = confOk L ag ma he de := by
  unfold confOk relayOk lims
  simp only [List.all_map, List.map_map, List.length_map]
  rfl
/-- a port with its tags in memory -/
def pvT (q : Pt × Value) : Pv := match q.2 with
  | .slice ta _ tc => ⟨q.1.native, ta, ints q.1.tags, tc, q.1.horizon, q.1.limit, q.1.link, q.1.rate, q.1.greets, q.1.psk⟩
  | _ => pv0 q.1
theorem pvT_bare (q : Pt × Value) : (pvT q).bare = pv0 q.1 := by
  unfold pvT
  split <;> rfl
theorem cOk_of (b : Br) (psv : List (Pt × Value)) : confOk (psv.map pvT) b.ageing b.maxAge b.hello b.delay = cOk b (psv.map Prod.fst) := by
  unfold cOk
  rw [← confOk_bare, List.map_map, List.map_map]
  congr 1
  exact List.map_congr_left fun q _ => pvT_bare q
theorem ints_len (l : List Nat) : (ints l).length = l.length := by unfold ints; rw [List.length_map]
theorem pvT_cells {w : World} {base : Nat} {q : Pt × Value} (h : OutInts w base q.2 (ints q.1.tags)) : pvc (pvT q) = (pcells q.1 q.2).toList ∧ IntsAt w (pvT q).ta (pvT q).tags := by
  obtain ⟨p, v⟩ := q
  obtain ⟨ao, cap, hv, hi⟩ := outInts_form h
  simp only at hv
  subst hv
  exact ⟨rfl, hi⟩
/-- the ports that there are, as Right takes them -/
theorem pin_of {w : World} {base : Nat} {pv : Value} {psv : List (Pt × Value)} (h : Ports w base pv psv) (hn : ∀ q ∈ psv, q.1.tags.length ≤ 1000000) : ∃ ao b off cap, pv = .slice ao (psv.map pvT).length cap ∧ (ao = some ⟨b, off, none⟩ ∨ psv.map pvT = []) ∧ PIn w b off (psv.map pvT) := by
  have hP : ∀ p ∈ psv.map pvT, IntsAt w p.ta p.tags ∧ p.tags.length ≤ 1000000 ∧ p.psk.length = 32 := fun p hp => by
    obtain ⟨q, hq, rfl⟩ := List.mem_map.1 hp
    obtain ⟨h1, h2⟩ := h.2 q hq
    have h3 := (pvT_cells h1).2
    refine ⟨h3, ?_, ?_⟩
    · have : (pvT q).tags = ints q.1.tags := by unfold pvT; split <;> rfl
      rw [this, ints_len]
      exact hn q hq
    · have : (pvT q).psk = q.1.psk := by unfold pvT; split <;> rfl
      rw [this]
      exact h2
  rcases h.1.2 with ⟨rfl, h0⟩ | ⟨g, cap, cur, rfl, hb, hc, _⟩
  · have hn : psv = [] := List.length_eq_zero_iff.1 h0
    subst hn
    exact ⟨none, 0, 0, 0, rfl, .inr rfl, fun i hi => absurd hi (Nat.not_lt_zero _), fun h => absurd h (Nat.lt_irrefl _), fun p hp => (by cases hp)⟩
  · refine ⟨some ⟨g, 0, none⟩, g, 0, cap, by rw [List.length_map], .inl rfl, fun i hi j v hj => ?_, fun _ => (Array.getElem?_eq_some_iff.1 hc).1, hP⟩
    rw [List.length_map] at hi
    have hm := List.getElem_mem hi
    obtain ⟨h1, h2⟩ := h.2 _ hm
    have he := (pvT_cells h1).1
    have hlen : ∀ q ∈ psv, (pcells q.1 q.2).toList.length = 39 := fun q hq => by
      have := (h.2 q hq).2
      simp [pcells, byteVals_length, this]
    have hg : (psv.map pvT).getD i .zero = pvT psv[i] := by
      rw [List.getD_eq_getElem?_getD, List.getElem?_map, List.getElem?_eq_getElem hi]
      rfl
    rw [hg, he] at hj
    have hj39 : j < 39 := by
      have := (List.getElem?_eq_some_iff.1 hj).1
      rwa [hlen _ hm] at this
    rw [World.ownsRow.cellAt h.1 (0 + i * 39 + j) (by omega), Nat.zero_add]
    have e := flat_getIn (enc := fun q : Pt × Value => (pcells q.1 q.2).toList) (k := 39) psv hlen i j hi hj39
    exact e.trans hj
/-- what a text is parsed as -/
def ParseAns (s : ByteArray) (B : Nat) (e : Ending) (w : World) : Prop := match scan0 (linesB s) with
  | .inl k => e = .returned (.tuple #[.agg zconf, .int .i64 k, .int .i64 11])
  | .inr (b, ps) => if cOk b ps = true then ∃ pv psv base, e = .returned (.tuple #[.agg (bcells b pv), .int .i64 0, .int .i64 0]) ∧ psv.map Prod.fst = ps ∧ B ≤ base ∧ Ports w base pv psv ∧ b.id.length = 8 else e = .returned (.tuple #[.agg zconf, .int .i64 0, .int .i64 1])
theorem parseAns_bad {s : ByteArray} {B k : Nat} {w : World} (h : scan0 (linesB s) = .inl k) : ParseAns s B (.returned (.tuple #[.agg zconf, .int .i64 k, .int .i64 11])) w := by unfold ParseAns; rw [h]
theorem parseAns_arg {s : ByteArray} {B : Nat} {w : World} {b : Br} {ps : List Pt} (h : scan0 (linesB s) = .inr (b, ps)) (hc : cOk b ps = false) : ParseAns s B (.returned (.tuple #[.agg zconf, .int .i64 0, .int .i64 1])) w := by
  unfold ParseAns
  rw [h]
  show if cOk b ps = true then _ else _
  rw [if_neg (by rw [hc]; decide)]
theorem parseAns_good {s : ByteArray} {B base : Nat} {w : World} {b : Br} {pv : Value} {psv : List (Pt × Value)} (h : scan0 (linesB s) = .inr (b, psv.map Prod.fst)) (hc : cOk b (psv.map Prod.fst) = true) (hB : B ≤ base) (hp : Ports w base pv psv) (hi : b.id.length = 8) : ParseAns s B (.returned (.tuple #[.agg (bcells b pv), .int .i64 0, .int .i64 0])) w := by
  unfold ParseAns
  rw [h]
  show if cOk b _ = true then _ else _
  rw [if_pos hc]
  exact ⟨pv, psv, base, rfl, rfl, hB, hp, hi⟩
theorem lineBr_id {s : ByteArray} {b : Br} (h : lineBr s = some b) : b.id.length = 8 := by
  unfold lineBr at h
  cases hc : cut s with
  | none => rw [hc] at h; cases h
  | some t =>
    rw [hc] at h
    have h : bridgeOf (lists (Oct.pieces 32 t)) = some b := h
    by_cases hl : (Oct.pieces 32 t).length = 6
    · rw [bridge_is hl] at h
      by_cases hw : part (Oct.pieces 32 t) 0 = wBridge
      · rw [if_pos hw] at h
        cases h1 : bytesOf (part (Oct.pieces 32 t) 1) 8 with
        | none => rw [h1] at h; cases h
        | some i =>
          have hi := bytesOf_length h1
          rw [h1] at h
          cases h2 : numOf (part (Oct.pieces 32 t) 2) <;> cases h3 : numOf (part (Oct.pieces 32 t) 3) <;> cases h4 : numOf (part (Oct.pieces 32 t) 4) <;> cases h5 : numOf (part (Oct.pieces 32 t) 5) <;> rw [h2, h3, h4, h5] at h <;> first | (cases h; done) | (obtain rfl := Option.some.inj h; exact hi)
      · rw [if_neg hw] at h; cases h
    · rw [bridge_len hl] at h; cases h
theorem id8_of (l : List UInt8) (h : l.length = 8) : ∃ x : Id8, l = x.l := by
  match l, h with
  | [a, b, c, d, e, f, g, i], _ => exact ⟨⟨a, b, c, d, e, f, g, i⟩, rfl⟩
end Cf
end Go.Proofs.YthfckdnennfnoaaGreatDoor
-- conf.Parse. By an AI agent. 
namespace Go.Proofs.YthfckdnennfnoaaGreatDoor
open Go.RowKit Go.WideShapes Go.Sort Grow

namespace Cf
theorem allNum_len : ∀ (l : List (List UInt8)) (ns : List Nat), allNum l = some ns → ns.length = l.length
  | [], ns, h => by cases h; rfl
  | p :: ps, ns, h => by
    unfold allNum at h
    cases h1 : numOf p with
    | none => rw [h1] at h; cases h
    | some a => cases h2 : allNum ps with
      | none => rw [h1, h2] at h; cases h
      | some l =>
        rw [h1, h2] at h
        obtain rfl := Option.some.inj h
        rw [List.length_cons, List.length_cons, allNum_len ps l h2]
theorem tagsOf_len {l : List UInt8} {ns : List Nat} (h : tagsOf l = some ns) : ns.length ≤ l.length + 1 := by
  unfold tagsOf at h
  by_cases hl : l = [45]
  · rw [if_pos hl] at h; obtain rfl := Option.some.inj h; exact Nat.zero_le _
  · rw [if_neg hl] at h
    rw [allNum_len _ _ h]
    exact parts_len 44 l
theorem restOf_tags {lk : Bool} {ra : Nat} {gr : Bool} {psk : List UInt8} {l : List (List UInt8)} {p : Pt} (h : restOf lk ra gr psk l = some p) : ∃ b ∈ l, tagsOf b = some p.tags := by
  match l, h with
  | [a, b, c, d], h =>
    rw [rest_eq] at h
    cases h1 : numOf a <;> cases h2 : tagsOf b <;> cases h3 : numOf c <;> cases h4 : numOf d <;> rw [h1, h2, h3, h4] at h <;> first | (cases h; done) | (obtain rfl := Option.some.inj h; exact ⟨b, by simp, h2⟩)
theorem portOf_tags {l : List (List UInt8)} {p : Pt} (h : portOf l = some p) : ∃ b ∈ l, tagsOf b = some p.tags := by
  match l, h with
  | w :: t, h =>
    replace h : (if w = wTap then restOf false 0 false (zeros 32) t else if w = wLink then linkOf t else none) = some p := h
    by_cases h1 : w = wTap
    · rw [if_pos h1] at h
      obtain ⟨b, hb, e⟩ := restOf_tags h
      exact ⟨b, List.mem_cons_of_mem _ hb, e⟩
    · rw [if_neg h1] at h
      by_cases h2 : w = wLink
      · rw [if_pos h2] at h
        match t, h with
        | a :: b :: c :: t, h =>
          replace h : (match numOf a, bytesOf c 32 with
            | some r, some k => if b = [103] ∨ b = [97] then restOf true r (b == [103]) k t else none
            | _, _ => none) = some p := h
          cases h3 : numOf a with
          | none => rw [h3] at h; cases h
          | some r => cases h4 : bytesOf c 32 with
            | none => rw [h3, h4] at h; cases h
            | some k =>
              rw [h3, h4] at h
              replace h : (if b = [103] ∨ b = [97] then restOf true r (b == [103]) k t else none) = some p := h
              by_cases h5 : b = [103] ∨ b = [97]
              · rw [if_pos h5] at h
                obtain ⟨x, hx, e⟩ := restOf_tags h
                exact ⟨x, by simp [hx], e⟩
              · rw [if_neg h5] at h; cases h
      · rw [if_neg h2] at h; cases h
theorem linePt_tags {s : ByteArray} {p : Pt} (h : linePt s = some p) : p.tags.length ≤ s.size + 1 := by
  cases hc : cut s with
  | none => rw [linePt_no hc] at h; cases h
  | some t =>
    rw [linePt_of hc] at h
    obtain ⟨b, hb, e⟩ := portOf_tags h
    have h1 := tagsOf_len e
    have h2 : lists (Oct.pieces 32 t) = Oct.parts 32 t.data.toList := pieces_list 32 t
    rw [h2] at hb
    have h3 := parts_small 32 _ b hb
    have h4 := cut_size hc
    have h5 : t.data.toList.length = t.size := by simp
    omega
/-- as far as the text was read: k lines -/
def Stage (s : ByteArray) (w : World) (C base k : Nat) : Prop := (k = 0 ∧ RowIs w C 33 zconf) ∨ ∃ b pv psv, scan0 (linesB s) = scan b (psv.map Prod.fst) k ((linesB s).drop k) ∧ RowIs w C 33 (bcells b pv) ∧ Ports w base pv psv ∧ psv.length + 1 = k ∧ b.id.length = 8 ∧ ∀ q ∈ psv, q.1.tags.length ≤ 1000000
theorem drop_at {L : List ByteArray} {k : Nat} (hk : k < L.length) : L.drop k = L.getD k ⟨#[]⟩ :: L.drop (k + 1) := by
  rw [List.drop_eq_getElem_cons hk, List.getD_eq_getElem?_getD, List.getElem?_eq_getElem hk, Option.getD_some]
theorem getD_small {s : ByteArray} {k : Nat} (hk : k < (linesB s).length) : ((linesB s).getD k ⟨#[]⟩).size ≤ s.size := by
  rw [List.getD_eq_getElem?_getD, List.getElem?_eq_getElem hk, Option.getD_some]
  exact linesB_small s _ (List.getElem_mem hk)
theorem scan0_cons (l : ByteArray) (ls : List ByteArray) : scan0 (l :: ls) = (match lineBr l with | none => .inl 1 | some b => scan b [] 1 ls) := rfl
theorem scan0_bad {s : ByteArray} (h0 : 0 < (linesB s).length) (h : lineBr ((linesB s).getD 0 ⟨#[]⟩) = none) : scan0 (linesB s) = .inl 1 := by
  have e := drop_at h0
  rw [List.drop_zero] at e
  rw [e, scan0_cons, h]
theorem scan0_good {s : ByteArray} {b : Br} (h0 : 0 < (linesB s).length) (h : lineBr ((linesB s).getD 0 ⟨#[]⟩) = some b) : scan0 (linesB s) = scan b [] 1 ((linesB s).drop 1) := by
  have e := drop_at h0
  rw [List.drop_zero] at e
  conv => lhs; rw [e, scan0_cons, h]
theorem scan_bad {s : ByteArray} {b : Br} {ps : List Pt} {k : Nat} (hk : k < (linesB s).length) (h : linePt ((linesB s).getD k ⟨#[]⟩) = none) : scan b ps k ((linesB s).drop k) = .inl (k + 1) := by
  rw [drop_at hk]
  unfold scan
  rw [h]
theorem scan_good {s : ByteArray} {b : Br} {ps : List Pt} {p : Pt} {k : Nat} (hk : k < (linesB s).length) (h : linePt ((linesB s).getD k ⟨#[]⟩) = some p) : scan b ps k ((linesB s).drop k) = scan b (ps ++ [p]) (k + 1) ((linesB s).drop (k + 1)) := by
  conv => lhs; rw [drop_at hk]
  conv => lhs; unfold scan
  rw [h]
theorem stage_first {s : ByteArray} {w w' : World} {C base : Nat} {b : Br} (h0 : 0 < (linesB s).length) (h : lineBr ((linesB s).getD 0 ⟨#[]⟩) = some b) (hR : RowIs w' C 33 (bcells b (.slice none 0 0))) : Stage s w' C base 1 :=
  .inr ⟨b, _, [], scan0_good h0 h, hR, ⟨World.ownsRow_nil _ _ _ _, fun q hq => (by cases hq)⟩, rfl, lineBr_id h, fun q hq => (by cases hq)⟩
theorem owns_kept {w w' : World} {C B base n : Nat} {e : TypeId} {v : Value} {xs : List Value} (h : w.ownsRow B e 1 v n xs) (hB : w.heap.size ≤ base) (hC : C < B) (hT : Turned C base w w') : w'.ownsRow B e 1 v n xs := by
  refine ⟨h.1, ?_⟩
  rcases h.2 with h | ⟨g, cap, cur, hv, hb, hc, h⟩
  · exact .inl h
  · have := (Array.getElem?_eq_some_iff.1 hc).1
    exact .inr ⟨g, cap, cur, hv, hb, (hT.2 g (by omega) (by omega)).trans hc, h⟩
theorem lines_form {w : World} {base n : Nat} {v : Value} {xs : List Value} (h : w.ownsRow base 9 1 v n xs) : ∃ ao g cap, v = .slice ao n cap ∧ (ao = some ⟨g, 0, none⟩ ∨ n = 0) := by
  rcases h.2 with ⟨rfl, h0⟩ | ⟨g, cap, cur, rfl, _⟩
  · exact ⟨none, 0, 0, by rw [h0], .inr h0⟩
  · exact ⟨_, g, cap, rfl, .inl rfl⟩
theorem strs_at (L : List ByteArray) (k : Nat) (hk : k < L.length) : (Strs.all L)[k]? = some (.string (L.getD k ⟨#[]⟩)) := by
  unfold Strs.all
  rw [List.getElem?_map, List.getD_eq_getElem?_getD, List.getElem?_eq_getElem hk]
  rfl
theorem bcells_id {b : Br} {x : Id8} (h : b.id = x.l) (pv : Value) : bcells b pv = #[.int .u8 ((x.f 0).toNat : Int), .int .u8 ((x.f 1).toNat : Int), .int .u8 ((x.f 2).toNat : Int), .int .u8 ((x.f 3).toNat : Int), .int .u8 ((x.f 4).toNat : Int), .int .u8 ((x.f 5).toNat : Int), .int .u8 ((x.f 6).toNat : Int), .int .u8 ((x.f 7).toNat : Int), .int .i64 b.maxAge, .int .i64 b.hello, .int .i64 b.delay, .int .i64 b.ageing, pv] := by
  unfold bcells
  rw [h]
  rfl
theorem Turned.refl (C base : Nat) (w : World) : Turned C base w w := ⟨Nat.le_refl _, fun _ _ _ => rfl⟩
theorem Turned.trans {C base : Nat} {w w' w'' : World} (h : Turned C base w w') (h2 : Turned C base w' w'') : Turned C base w w'' := ⟨Nat.le_trans h.1 h2.1, fun j a b => (h2.2 j a b).trans (h.2 j a b)⟩
theorem info_conf : (Tryz.prog.info? 33).map (·.size) = some 13 := by kernel_rfl
end Cf

set_option maxRecDepth 20000 in
set_option maxHeartbeats 4000000 in
theorem parse_any (s : ByteArray) (hs : s.size ≤ 8192) (w : World) :
    Calls Tryz.prog 6 #[.string s] w fun e w' => Cf.ParseAns s w.heap.size e w' ∧ Below w.heap.size w w' := by
  have hll := Cf.linesB_len s
  go_enter Tryz.func6, Tryz.ntmps6
  go_upto_region 1 with fail
  have HR1 : Hid (RowIs (w.alloc (.cells #[.int .u8 0, .int .u8 0, .int .u8 0, .int .u8 0, .int .u8 0, .int .u8 0, .int .u8 0, .int .u8 0, .int .i64 0, .int .i64 0, .int .i64 0, .int .i64 0, .slice none 0 0] 33)) w.heap.size 33 #[.int .u8 0, .int .u8 0, .int .u8 0, .int .u8 0, .int .u8 0, .int .u8 0, .int .u8 0, .int .u8 0, .int .i64 0, .int .i64 0, .int .i64 0, .int .i64 0, .slice none 0 0]) := rowIs_new w _ _
  have hb1 : Below w.heap.size w (w.alloc (.cells #[.int .u8 0, .int .u8 0, .int .u8 0, .int .u8 0, .int .u8 0, .int .u8 0, .int .u8 0, .int .u8 0, .int .i64 0, .int .i64 0, .int .i64 0, .int .i64 0, .slice none 0 0] 33)) := (Below.refl _ _).alloc (Nat.le_refl _) _
  have hs1 : (w.alloc (.cells #[.int .u8 0, .int .u8 0, .int .u8 0, .int .u8 0, .int .u8 0, .int .u8 0, .int .u8 0, .int .u8 0, .int .i64 0, .int .i64 0, .int .i64 0, .int .i64 0, .slice none 0 0] 33)).heap.size = w.heap.size + 1 := by simp
  generalize w.alloc (.cells #[.int .u8 0, .int .u8 0, .int .u8 0, .int .u8 0, .int .u8 0, .int .u8 0, .int .u8 0, .int .u8 0, .int .i64 0, .int .i64 0, .int .i64 0, .int .i64 0, .slice none 0 0] 33) = w1 at *
  have dsz : decide (8192 < (s.size : Int)) = false := decide_eq_false (by omega)
  go_upto_region 4 with fail
  clear dsz
  have HR2 : Hid (RowIs (w1.alloc (.cells #[.int .u8 0, .int .u8 0, .int .u8 0, .int .u8 0, .int .u8 0, .int .u8 0, .int .u8 0, .int .u8 0, .int .i64 0, .int .i64 0, .int .i64 0, .int .i64 0, .slice none 0 0] 33)) w.heap.size 33 #[.int .u8 0, .int .u8 0, .int .u8 0, .int .u8 0, .int .u8 0, .int .u8 0, .int .u8 0, .int .u8 0, .int .i64 0, .int .i64 0, .int .i64 0, .int .i64 0, .slice none 0 0]) := HR1.out.alloc _
  have HC2 : Hid (RowIs (w1.alloc (.cells #[.int .u8 0, .int .u8 0, .int .u8 0, .int .u8 0, .int .u8 0, .int .u8 0, .int .u8 0, .int .u8 0, .int .i64 0, .int .i64 0, .int .i64 0, .int .i64 0, .slice none 0 0] 33)) (w.heap.size + 1) 33 #[.int .u8 0, .int .u8 0, .int .u8 0, .int .u8 0, .int .u8 0, .int .u8 0, .int .u8 0, .int .u8 0, .int .i64 0, .int .i64 0, .int .i64 0, .int .i64 0, .slice none 0 0]) := by show RowIs _ _ _ _; rw [← hs1]; exact rowIs_new w1 _ _
  have hb2 : Below w.heap.size w (w1.alloc (.cells #[.int .u8 0, .int .u8 0, .int .u8 0, .int .u8 0, .int .u8 0, .int .u8 0, .int .u8 0, .int .u8 0, .int .i64 0, .int .i64 0, .int .i64 0, .int .i64 0, .slice none 0 0] 33)) := hb1.alloc (by omega) _
  have hs2 : (w1.alloc (.cells #[.int .u8 0, .int .u8 0, .int .u8 0, .int .u8 0, .int .u8 0, .int .u8 0, .int .u8 0, .int .u8 0, .int .i64 0, .int .i64 0, .int .i64 0, .int .i64 0, .slice none 0 0] 33)).heap.size = w.heap.size + 1 + 1 := by simp; omega
  generalize w1.alloc (.cells #[.int .u8 0, .int .u8 0, .int .u8 0, .int .u8 0, .int .u8 0, .int .u8 0, .int .u8 0, .int .u8 0, .int .i64 0, .int .i64 0, .int .i64 0, .int .i64 0, .slice none 0 0] 33) = w2 at *
  clear HR1 hb1 hs1
  go_upto_region 5 with fail
  go_wp2_with fail
  refine (lines_any s _).mono ?_
  rintro e w' ⟨rfl, rfl⟩
  have hbx : Boxed (w2.alloc (.cells #[.string s] 9)) (w.heap.size + 1 + 1) 9 (.string s) := by rw [← hs2]; exact Boxed.new w2 _ _
  have HR3 := Lib.hid (HR2.out.alloc (.cells #[.string s] 9))
  have HC3 := Lib.hid (HC2.out.alloc (.cells #[.string s] 9))
  have hb3 : Below w.heap.size w (w2.alloc (.cells #[.string s] 9)) := hb2.alloc (by omega) _
  have hs3 : (w2.alloc (.cells #[.string s] 9)).heap.size = w.heap.size + 1 + 1 + 1 := by simp; omega
  generalize w2.alloc (.cells #[.string s] 9) = w3 at *
  have HCO := Lib.hid (collect_any (w.heap.size + 1 + 1) s (by omega) _ hbx)
  rw [hs3] at HCO
  clear HR2 HC2 hb2 hbx
  go_wp2_with fail
  refine HCO.out.mono ?_
  rintro e w4 ⟨⟨lv, rfl, ho⟩, hb⟩
  have hs4 := hb.size
  have HR4 := Lib.hid (HR3.out.below hb (by omega))
  have HC4 := Lib.hid (HC3.out.below hb (by omega))
  have hb4 : Below w.heap.size w w4 := hb3.trans (hb.mono (by omega))
  obtain ⟨ao, g, cap, rfl, hao⟩ := Cf.lines_form ho
  have HO := Lib.hid ho
  clear HCO HR3 HC3 hb3 hb ho
  obtain ⟨base, hbase⟩ : ∃ x, w4.heap.size = x := ⟨_, rfl⟩
  have hbs : w.heap.size + 1 + 1 + 1 ≤ base := by omega
  clear hs2 hs3 hs4
  have HBA := Lib.hid hbase
  clear hbase
  go_upto_region 6 with fail
  go_loopw [6, 8, 17] (fun v6 _ i wr => ∃ k : Nat, k ≤ (Cf.linesB s).length ∧ v6 = .int .i64 k ∧ i = .int .i64 k ∧ Hid (Cf.Stage s wr (w.heap.size + 1) base k) ∧ Hid (RowIs wr w.heap.size 33 #[.int .u8 0, .int .u8 0, .int .u8 0, .int .u8 0, .int .u8 0, .int .u8 0, .int .u8 0, .int .u8 0, .int .i64 0, .int .i64 0, .int .i64 0, .int .i64 0, .slice none 0 0]) ∧ Cf.Turned (w.heap.size + 1) base w4 wr ∧ Below w.heap.size w wr) (fun _ _ i _ => (Cf.linesB s).length - (RowKit.intOf i).toNat)
  case atStart => exact ⟨0, Nat.zero_le _, rfl, rfl, .inl ⟨rfl, HC4.out⟩, HR4, Cf.Turned.refl _ _ _, hb4⟩
  case round =>
    rename World => wr
    clear HR4 HC4 hb4
    obtain ⟨k, hk, rfl, rfl, HS, HRr, hT, hbr⟩ := hrel
    have hszr : base ≤ wr.heap.size := by have := hT.1; have := HBA.out; omega
    by_cases hlt : k < (Cf.linesB s).length
    · obtain rfl : ao = some ⟨g, 0, none⟩ := hao.resolve_right (by omega)
      have c9 : wr.cell? ⟨g, k, none⟩ = some (.string ((Cf.linesB s).getD k ⟨#[]⟩)) := by
        rw [World.ownsRow.cellAt (Cf.owns_kept HO.out (by have := HBA.out; omega) (by omega) hT) k (by omega)]
        exact Cf.strs_at _ _ hlt
      have hlz : ((Cf.linesB s).getD k ⟨#[]⟩).size < 9000 := by have := Cf.getD_small hlt; omega
      have HSB := Lib.hid (fun b ps => Cf.scan_bad (b := b) (ps := ps) hlt)
      have HSG := Lib.hid (fun b ps p => Cf.scan_good (b := b) (ps := ps) (p := p) hlt)
      have HTG := Lib.hid (fun p => Cf.linePt_tags (s := (Cf.linesB s).getD k ⟨#[]⟩) (p := p))
      rcases HS.out with ⟨rfl, hX⟩ | ⟨b, pv, psv, hsc, hX, hps, hlen, hid, htg⟩
      · have HFB := Lib.hid (Cf.scan0_bad hlt)
        have HFG := Lib.hid (fun b w' h hr => Cf.stage_first (s := s) (w := wr) (w' := w') (C := w.heap.size + 1) (base := base) (b := b) hlt h hr)
        obtain ⟨l, hl⟩ : ∃ l, (Cf.linesB s).getD 0 ⟨#[]⟩ = l := ⟨_, rfl⟩
        rw [hl] at c9 hlz HSB HSG HTG HFB HFG
        have HLI := Lib.hid (line_first w.heap.size (w.heap.size + 1) l hlz (Cf.zeros 8) rfl (.int .i64 0) (.int .i64 0) (.int .i64 0) (.int .i64 0) (.slice none 0 0) wr hX (by omega))
        clear hX HS HSB HSG HTG hl
        go_wp2_with fail
        refine HLI.out.mono ?_
        rintro e w5 ⟨he, hY, hO, hb⟩
        have hb5 := hbr.trans hb
        have HR5 := Lib.hid (HRr.out.only hO (by simp))
        cases hv : Cf.lineBr l with
        | none =>
          rw [hv] at he
          obtain rfl : e = .returned (.bool false) := he
          have HAN := Lib.hid (HFB.out hv)
          clear hv hY HFB HFG hO hb HLI
          go_wp2_with ((with_reducible refine at_store 33 (.tmp 2) (.tmp 28) ?_); refine wpList_store_own rfl 33 (.tmp 2) (.tmp 28) rfl w.heap.size #[.int .u8 0, .int .u8 0, .int .u8 0, .int .u8 0, .int .u8 0, .int .u8 0, .int .u8 0, .int .u8 0, .int .i64 0, .int .i64 0, .int .i64 0, .int .i64 0, .slice none 0 0] rfl rfl 33 #[.int .u8 0, .int .u8 0, .int .u8 0, .int .u8 0, .int .u8 0, .int .u8 0, .int .u8 0, .int .u8 0, .int .i64 0, .int .i64 0, .int .i64 0, .int .i64 0, .slice none 0 0] HR5.out Cf.info_conf rfl (by kernel_rfl) w.heap.size (Nat.le_refl _) ?_)
          intro w9 hR9 hO9 hs9 hb9
          have HR9 := Lib.hid hR9
          clear hR9
          go_wp2_with fail
          refine bodyPost_ret (results_row_tmp2 Tryz.results6 _ _ w.heap.size 33 #[.int .u8 0, .int .u8 0, .int .u8 0, .int .u8 0, .int .u8 0, .int .u8 0, .int .u8 0, .int .u8 0, .int .i64 0, .int .i64 0, .int .i64 0, .int .i64 0, .slice none 0 0] _ rfl HR9.out Tryz.underlying33 rfl Cf.info_conf) rfl ?_
          exact ⟨Cf.parseAns_bad (k := 1) HAN.out, hb5.trans hb9⟩
        | some b =>
          rw [hv] at he
          obtain rfl : e = .returned (.bool true) := he
          have HAN := Lib.hid (HFG.out b w5 hv (hY b hv))
          have hT5 := hT.trans (Cf.turned_only hO hszr)
          clear hv hY HFB HFG hO hb HLI
          go_wp2_with fail
          exact ⟨⟨1, by omega, by go_num, by go_num, HAN, HR5, hT5, hb5⟩, by simp [RowKit.intOf]; omega⟩
      · obtain ⟨l, hl⟩ : ∃ l, (Cf.linesB s).getD k ⟨#[]⟩ = l := ⟨_, rfl⟩
        rw [hl] at c9 hlz HSB HSG HTG
        have d1 : ((k : Int) + 1 == 1) = false := beq_eq_false_iff_ne.2 (by omega)
        have HSC := Lib.hid hsc
        have HTT := Lib.hid htg
        have HLI := Lib.hid (line_port w.heap.size (w.heap.size + 1) base l hlz b.id hid (.int .i64 b.maxAge) (.int .i64 b.hello) (.int .i64 b.delay) (.int .i64 b.ageing) pv psv wr hX hps (by omega) (by omega) hszr (by omega))
        clear hX HS hl hsc hps htg
        go_wp2_with fail
        refine HLI.out.mono ?_
        rintro e w5 ⟨he, hY, hO, hb⟩
        have hb5 := hbr.trans hb
        have HR5 : Hid (RowIs w5 w.heap.size 33 #[.int .u8 0, .int .u8 0, .int .u8 0, .int .u8 0, .int .u8 0, .int .u8 0, .int .u8 0, .int .u8 0, .int .i64 0, .int .i64 0, .int .i64 0, .int .i64 0, .slice none 0 0]) := by
          show _ = _
          rw [hO.2 w.heap.size (by omega) (by omega)]
          exact HRr.out
        cases hv : Cf.linePt l with
        | none =>
          rw [hv] at he
          obtain rfl : e = .returned (.bool false) := he
          have HAN := Lib.hid (HSC.out.trans (HSB.out _ _ hv))
          clear hv hY hO hb HLI HSB HSG
          go_wp2_with ((with_reducible refine at_store 33 (.tmp 2) (.tmp 28) ?_); refine wpList_store_own rfl 33 (.tmp 2) (.tmp 28) rfl w.heap.size #[.int .u8 0, .int .u8 0, .int .u8 0, .int .u8 0, .int .u8 0, .int .u8 0, .int .u8 0, .int .u8 0, .int .i64 0, .int .i64 0, .int .i64 0, .int .i64 0, .slice none 0 0] rfl rfl 33 #[.int .u8 0, .int .u8 0, .int .u8 0, .int .u8 0, .int .u8 0, .int .u8 0, .int .u8 0, .int .u8 0, .int .i64 0, .int .i64 0, .int .i64 0, .int .i64 0, .slice none 0 0] HR5.out Cf.info_conf rfl (by kernel_rfl) w.heap.size (Nat.le_refl _) ?_)
          intro w9 hR9 hO9 hs9 hb9
          have HR9 := Lib.hid hR9
          clear hR9
          go_wp2_with fail
          refine bodyPost_ret (results_row_tmp2 Tryz.results6 _ _ w.heap.size 33 #[.int .u8 0, .int .u8 0, .int .u8 0, .int .u8 0, .int .u8 0, .int .u8 0, .int .u8 0, .int .u8 0, .int .i64 0, .int .i64 0, .int .i64 0, .int .i64 0, .slice none 0 0] _ rfl HR9.out Tryz.underlying33 rfl Cf.info_conf) rfl ?_
          exact ⟨Cf.parseAns_bad HAN.out, hb5.trans hb9⟩
        | some p =>
          rw [hv] at he
          obtain rfl : e = .returned (.bool true) := he
          obtain ⟨pv', tv, hX', hps'⟩ := hY p hv
          have HAN : Hid (Cf.Stage s w5 (w.heap.size + 1) base (k + 1)) := .inr ⟨b, pv', psv ++ [(p, tv)], by rw [HSC.out, HSG.out _ _ _ hv, List.map_append]; rfl, hX', hps', by rw [List.length_append, List.length_singleton, hlen], hid, fun q hq => by
            rcases List.mem_append.1 hq with h | h
            · exact HTT.out q h
            · obtain rfl := List.mem_singleton.1 h
              have := HTG.out p hv
              show p.tags.length ≤ _
              omega⟩
          have hT5 := hT.trans hO
          clear hv hY hO hb HLI HSB HSG hX' hps'
          go_wp2_with fail
          exact ⟨⟨k + 1, by omega, by go_num, by go_num, HAN, HR5, hT5, hb5⟩, by simp [RowKit.intOf]; omega⟩
    · obtain rfl : k = (Cf.linesB s).length := by omega
      rcases HS.out with ⟨h0, hX⟩ | ⟨b, pv, psv, hsc, hX, hps, hlen, hid, htg⟩
      · have HAN : Hid (Cf.scan0 (Cf.linesB s) = .inl 1) := by show _ = _; rw [List.eq_nil_of_length_eq_zero h0]; rfl
        clear hX HS HO
        rw [h0]
        have h0' := Lib.hid h0
        clear h0
        go_wp2_with ((with_reducible refine at_store 33 (.tmp 2) (.tmp 34) ?_); refine wpList_store_own rfl 33 (.tmp 2) (.tmp 34) rfl w.heap.size #[.int .u8 0, .int .u8 0, .int .u8 0, .int .u8 0, .int .u8 0, .int .u8 0, .int .u8 0, .int .u8 0, .int .i64 0, .int .i64 0, .int .i64 0, .int .i64 0, .slice none 0 0] rfl rfl 33 #[.int .u8 0, .int .u8 0, .int .u8 0, .int .u8 0, .int .u8 0, .int .u8 0, .int .u8 0, .int .u8 0, .int .i64 0, .int .i64 0, .int .i64 0, .int .i64 0, .slice none 0 0] HRr.out Cf.info_conf rfl (by kernel_rfl) w.heap.size (Nat.le_refl _) ?_)
        intro w9 hR9 hO9 hs9 hb9
        have HR9 := Lib.hid hR9
        clear hR9
        go_wp2_with fail
        refine bodyPost_ret (results_row_tmp2 Tryz.results6 _ _ w.heap.size 33 #[.int .u8 0, .int .u8 0, .int .u8 0, .int .u8 0, .int .u8 0, .int .u8 0, .int .u8 0, .int .u8 0, .int .i64 0, .int .i64 0, .int .i64 0, .int .i64 0, .slice none 0 0] _ rfl HR9.out Tryz.underlying33 rfl Cf.info_conf) rfl ?_
        exact ⟨Cf.parseAns_bad (k := 1) HAN.out, hbr.trans hb9⟩
      · have HSC : Hid (Cf.scan0 (Cf.linesB s) = .inr (b, psv.map Prod.fst)) := by
          show _ = _
          rw [hsc, List.drop_length]
          rfl
        obtain ⟨x, hx⟩ := Cf.id8_of _ hid
        obtain ⟨ao2, b2, off2, cap2, hpv, hao2, hPI⟩ := Cf.pin_of hps htg
        have hri := cright_any x b.maxAge b.hello b.delay b.ageing b2 off2 cap2 (psv.map Cf.pvT) wr ao2 hao2 hPI (by rw [List.length_map]; omega)
        rw [Cf.cOk_of, List.length_map] at hri
        rw [List.length_map] at hpv
        have hcells := Cf.bcells_id hx pv
        rw [hcells, hpv] at hX
        have HX := Lib.hid hX
        obtain ⟨ok, hok⟩ : ∃ o, Cf.cOk b (psv.map Prod.fst) = o := ⟨_, rfl⟩
        rw [hok] at hri
        have HRI := Lib.hid hri
        have HOK := Lib.hid hok
        have HPS := Lib.hid hps
        have HCE := Lib.hid hcells
        have HPV := Lib.hid hpv
        have HX8 := Lib.hid hx
        have d1 : (((Cf.linesB s).length : Int) == 0) = false := beq_eq_false_iff_ne.2 (by omega)
        clear hok hps hcells hx hri hX hsc htg HS HO hPI hao2 hpv
        go_wp2_with ((with_reducible refine at_load 33 (.tmp 5) ?_); refine wpList_load_own rfl 33 (.tmp 5) rfl (w.heap.size + 1) rfl 33 _ _ HX.out Tryz.underlying33 rfl (by kernel_rfl) ?_)
        refine HRI.out.mono ?_
        rintro e w5 ⟨rfl, hb⟩
        have hb5 := hbr.trans (hb.mono (by omega))
        have HR5 := Lib.hid (HRr.out.kept hb)
        have HX5 := Lib.hid (HX.out.kept hb)
        have HP5 := Lib.hid (HPS.out.later hb)
        clear HRI hb HPS HX HRr hbr
        cases ok with
        | false =>
          go_wp2_with ((with_reducible refine at_store 33 (.tmp 2) (.tmp 39) ?_); refine wpList_store_own rfl 33 (.tmp 2) (.tmp 39) rfl w.heap.size #[.int .u8 0, .int .u8 0, .int .u8 0, .int .u8 0, .int .u8 0, .int .u8 0, .int .u8 0, .int .u8 0, .int .i64 0, .int .i64 0, .int .i64 0, .int .i64 0, .slice none 0 0] rfl rfl 33 #[.int .u8 0, .int .u8 0, .int .u8 0, .int .u8 0, .int .u8 0, .int .u8 0, .int .u8 0, .int .u8 0, .int .i64 0, .int .i64 0, .int .i64 0, .int .i64 0, .slice none 0 0] HR5.out Cf.info_conf rfl (by kernel_rfl) w.heap.size (Nat.le_refl _) ?_)
          intro w9 hR9 hO9 hs9 hb9
          have HR9 := Lib.hid hR9
          clear hR9
          go_wp2_with fail
          refine bodyPost_ret (results_row_tmp2 Tryz.results6 _ _ w.heap.size 33 #[.int .u8 0, .int .u8 0, .int .u8 0, .int .u8 0, .int .u8 0, .int .u8 0, .int .u8 0, .int .u8 0, .int .i64 0, .int .i64 0, .int .i64 0, .int .i64 0, .slice none 0 0] _ rfl HR9.out Tryz.underlying33 rfl Cf.info_conf) rfl ?_
          exact ⟨Cf.parseAns_arg HSC.out HOK.out, hb5.trans hb9⟩
        | true =>
          go_wp2_with (first | ((with_reducible refine at_load 33 (.tmp 5) ?_); refine wpList_load_own rfl 33 (.tmp 5) rfl (w.heap.size + 1) rfl 33 _ _ HX5.out Tryz.underlying33 rfl (by kernel_rfl) ?_) | ((with_reducible refine at_store 33 (.tmp 2) (.tmp 40) ?_); refine wpList_store_own rfl 33 (.tmp 2) (.tmp 40) rfl w.heap.size #[.int .u8 ((x.f 0).toNat : Int), .int .u8 ((x.f 1).toNat : Int), .int .u8 ((x.f 2).toNat : Int), .int .u8 ((x.f 3).toNat : Int), .int .u8 ((x.f 4).toNat : Int), .int .u8 ((x.f 5).toNat : Int), .int .u8 ((x.f 6).toNat : Int), .int .u8 ((x.f 7).toNat : Int), .int .i64 b.maxAge, .int .i64 b.hello, .int .i64 b.delay, .int .i64 b.ageing, .slice ao2 psv.length cap2] rfl rfl 33 #[.int .u8 0, .int .u8 0, .int .u8 0, .int .u8 0, .int .u8 0, .int .u8 0, .int .u8 0, .int .u8 0, .int .i64 0, .int .i64 0, .int .i64 0, .int .i64 0, .slice none 0 0] HR5.out Cf.info_conf rfl (by simp [Value.oneCell']) w.heap.size (Nat.le_refl _) ?_))
          intro w9 hR9 hO9 hs9 hb9
          have HR9 := Lib.hid hR9
          have HP9 := Lib.hid (HP5.out.stored hO9 (by omega))
          clear hR9 hO9
          go_wp2_with fail
          refine bodyPost_ret (results_row_tmp2 Tryz.results6 _ _ w.heap.size 33 #[.int .u8 ((x.f 0).toNat : Int), .int .u8 ((x.f 1).toNat : Int), .int .u8 ((x.f 2).toNat : Int), .int .u8 ((x.f 3).toNat : Int), .int .u8 ((x.f 4).toNat : Int), .int .u8 ((x.f 5).toNat : Int), .int .u8 ((x.f 6).toNat : Int), .int .u8 ((x.f 7).toNat : Int), .int .i64 b.maxAge, .int .i64 b.hello, .int .i64 b.delay, .int .i64 b.ageing, .slice ao2 psv.length cap2] _ rfl HR9.out Tryz.underlying33 rfl Cf.info_conf) rfl ?_
          refine ⟨?_, hb5.trans hb9⟩
          have h := Cf.parseAns_good (s := s) HSC.out HOK.out (show w.heap.size ≤ base by omega) HP9.out hid
          rw [HCE.out, HPV.out] at h
          exact h
end Go.Proofs.YthfckdnennfnoaaGreatDoor
-- A configuration's lines, and a line more among them: plain laws; awake. By an AI agent. 
namespace Go.Proofs.YthfckdnennfnoaaGreatDoor
open Go.RowKit Go.WideShapes Go.Sort Grow
namespace Cf
/-- where the lines end -/
def ends : Nat → List UInt8 → List Nat
  | _, [] => []
  | i, a :: l => if a = 10 then (i + 1) :: ends (i + 1) l else ends (i + 1) l
theorem ends_shift : ∀ (l : List UInt8) (i : Nat), ends i l = (ends 0 l).map (· + i)
  | [], _ => rfl
  | a :: l, i => by
    unfold ends
    rw [ends_shift l (i + 1), ends_shift l (0 + 1)]
    by_cases h : a = 10
    · rw [if_pos h, if_pos h, List.map_cons, List.map_map]
      congr 1
      · omega
      · exact List.map_congr_left fun x _ => by show x + (i + 1) = x + (0 + 1) + i; omega
    · rw [if_neg h, if_neg h, List.map_map]
      exact List.map_congr_left fun x _ => by show x + (i + 1) = x + (0 + 1) + i; omega
theorem lines_nil : ∀ l : List UInt8, lines l = [] → l = []
  | [], _ => rfl
  | a :: l, h => by
    unfold lines at h
    by_cases e : a = 10
    · rw [if_pos e] at h; cases h
    · rw [if_neg e] at h
      cases hl : lines l with
      | nil => rw [hl] at h; cases h
      | cons p ps => rw [hl] at h; cases h
theorem lines_some : ∀ l : List UInt8, ∀ p ∈ lines l, p ≠ []
  | [], p, h => by cases h
  | a :: l, p, h => by
    unfold lines at h
    by_cases e : a = 10
    · rw [if_pos e] at h
      rcases List.mem_cons.1 h with rfl | h
      · simp
      · exact lines_some l p h
    · rw [if_neg e] at h
      cases hl : lines l with
      | nil => rw [hl] at h; simp at h; simp [h]
      | cons q qs =>
        rw [hl] at h
        rcases List.mem_cons.1 h with rfl | h
        · simp
        · exact lines_some l p (by rw [hl]; exact List.mem_cons_of_mem _ h)
theorem ends_count : ∀ (l : List UInt8), (∀ p ∈ lines l, p.getLast? = some 10) → (ends 0 l).length = (lines l).length
  | [], _ => rfl
  | a :: l, h => by
    unfold ends
    rw [ends_shift l (0 + 1)]
    unfold lines at h ⊢
    by_cases e : a = 10
    · rw [if_pos e] at h ⊢
      rw [if_pos e, List.length_cons, List.length_map, List.length_cons, ends_count l (fun p hp => h p (List.mem_cons_of_mem _ hp))]
    · rw [if_neg e] at h ⊢
      rw [if_neg e, List.length_map]
      cases hl : lines l with
      | nil =>
        rw [hl] at h
        have := h [a] (by simp)
        simp at this
        exact absurd this e
      | cons q qs =>
        rw [hl] at h
        rw [ends_count l, hl]
        · rfl
        · intro p hp
          rw [hl] at hp
          rcases List.mem_cons.1 hp with rfl | hp
          · have hne := lines_some l p (by rw [hl]; simp)
            have := h (a :: p) (by simp)
            cases p with
            | nil => exact absurd rfl hne
            | cons b p => rw [List.getLast?_cons_cons] at this; exact this
          · exact h p (by simp [hp])
/-- a line more -/
theorem lines_put : ∀ (l : List UInt8) (k e : Nat), (ends 0 l)[k]? = some e → e ≤ l.length ∧ lines (l.take e ++ ([63, 10] ++ l.drop e)) = (lines l).take (k + 1) ++ ([63, 10] :: (lines l).drop (k + 1))
  | [], k, e, h => by cases h
  | a :: l, k, e, h => by
    unfold ends at h
    rw [ends_shift l (0 + 1)] at h
    by_cases ha : a = 10
    · rw [if_pos ha] at h
      subst ha
      cases k with
      | zero =>
        obtain rfl : 0 + 1 = e := by simpa using h
        refine ⟨by simp, ?_⟩
        show lines (10 :: 63 :: 10 :: l) = _
        have h1 : lines (10 :: l) = [10] :: lines l := by rw [lines, if_pos rfl]
        have h2 : lines (63 :: 10 :: l) = [63, 10] :: lines l := by rw [lines, if_neg (by decide), h1]
        rw [h1, lines, if_pos rfl, h2]
        rfl
      | succ k =>
        rw [List.getElem?_cons_succ, List.getElem?_map] at h
        obtain ⟨e', he', rfl⟩ := Option.map_eq_some_iff.1 h
        obtain ⟨i1, i2⟩ := lines_put l k e' he'
        refine ⟨by simp; omega, ?_⟩
        show lines (10 :: (l.take e' ++ ([63, 10] ++ l.drop e'))) = _
        have h1 : lines (10 :: l) = [10] :: lines l := by rw [lines, if_pos rfl]
        rw [h1, lines, if_pos rfl, i2]
        rfl
    · rw [if_neg ha, List.getElem?_map] at h
      obtain ⟨e', he', rfl⟩ := Option.map_eq_some_iff.1 h
      obtain ⟨i1, i2⟩ := lines_put l k e' he'
      refine ⟨by simp; omega, ?_⟩
      show lines (a :: (l.take e' ++ ([63, 10] ++ l.drop e'))) = _
      rw [lines, if_neg ha, i2, lines, if_neg ha]
      cases hl : lines l with
      | nil =>
        have := lines_nil l hl
        subst this
        cases he'
      | cons p ps => rfl
theorem scan_len (b : Br) : ∀ (L : List ByteArray) (ps : List Pt) (n : Nat) (r : Br × List Pt), scan b ps n L = .inr r → r.1 = b ∧ r.2.length = ps.length + L.length ∧ ∀ l ∈ L, (linePt l).isSome = true
  | [], ps, n, r, h => by
    cases h
    exact ⟨rfl, rfl, fun l hl => by cases hl⟩
  | l :: L, ps, n, r, h => by
    unfold scan at h
    cases hl : linePt l with
    | none => rw [hl] at h; cases h
    | some p =>
      rw [hl] at h
      obtain ⟨h1, h2, h3⟩ := scan_len b L (ps ++ [p]) (n + 1) r h
      refine ⟨h1, by rw [h2]; simp; omega, fun x hx => ?_⟩
      rcases List.mem_cons.1 hx with rfl | hx
      · rw [hl]; rfl
      · exact h3 x hx
theorem scan_put (b : Br) (q : ByteArray) (M : List ByteArray) (hq : linePt q = none) : ∀ (L : List ByteArray) (ps : List Pt) (n j : Nat) (r : Br × List Pt), scan b ps n L = .inr r → j ≤ L.length → scan b ps n (L.take j ++ q :: M) = .inl (n + j + 1)
  | [], ps, n, j, r, h, hj => by
    obtain rfl : j = 0 := by simpa using hj
    show scan b ps n (q :: M) = _
    unfold scan
    rw [hq]
  | l :: L, ps, n, 0, r, h, _ => by
    show scan b ps n (q :: M) = _
    unfold scan
    rw [hq]
  | l :: L, ps, n, j + 1, r, h, hj => by
    show scan b ps n (l :: (L.take j ++ q :: M)) = _
    unfold scan at h ⊢
    cases hl : linePt l with
    | none => rw [hl] at h; cases h
    | some p =>
      rw [hl] at h
      show scan b (ps ++ [p]) (n + 1) (L.take j ++ q :: M) = _
      rw [scan_put b q M hq L (ps ++ [p]) (n + 1) j r h (by simpa using hj)]
      congr 1
      omega
theorem linePt_ended {l : ByteArray} (h : (linePt l).isSome = true) : l.data.toList.getLast? = some 10 := by
  unfold linePt cut at h
  by_cases hc : l.data.toList.getLast? = some 10
  · exact hc
  · rw [if_neg hc] at h; cases h
theorem lineBr_ended {l : ByteArray} (h : (lineBr l).isSome = true) : l.data.toList.getLast? = some 10 := by
  unfold lineBr cut at h
  by_cases hc : l.data.toList.getLast? = some 10
  · exact hc
  · rw [if_neg hc] at h; cases h
/-- a text that is read: its lines' ends are one more than its ports -/
theorem read_ends {s : ByteArray} {r : Br × List Pt} (h : scan0 (linesB s) = .inr r) : (ends 0 s.data.toList).length = r.2.length + 1 ∧ (linesB s).length = r.2.length + 1 := by
  cases hL : linesB s with
  | nil => rw [hL] at h; cases h
  | cons l L =>
    rw [hL, scan0_cons] at h
    cases hl : lineBr l with
    | none => rw [hl] at h; cases h
    | some b =>
      rw [hl] at h
      obtain ⟨_, h2, h3⟩ := scan_len b L [] 1 r h
      have hlen : (linesB s).length = r.2.length + 1 := by rw [hL, h2]; simp
      rw [hL] at hlen
      refine ⟨?_, hlen⟩
      rw [ends_count, ← hlen, ← hL]
      · unfold linesB; rw [List.length_map]
      · intro p hp
        have hm : (⟨p.toArray⟩ : ByteArray) ∈ linesB s := by unfold linesB; exact List.mem_map.2 ⟨p, hp, rfl⟩
        rw [hL] at hm
        rcases List.mem_cons.1 hm with e | hm
        · have := lineBr_ended (l := l) (by rw [hl]; rfl)
          rw [← e] at this
          exact this
        · exact linePt_ended (h3 _ hm)
theorem read_put {s t : ByteArray} {r : Br × List Pt} {k e : Nat} (h : scan0 (linesB s) = .inr r) (hk : (ends 0 s.data.toList)[k]? = some e) (ht : t.data.toList = s.data.toList.take e ++ ([63, 10] ++ s.data.toList.drop e)) : e ≤ s.size ∧ scan0 (linesB t) = .inl (k + 2) := by
  obtain ⟨h1, h2⟩ := lines_put _ _ _ hk
  have hl : s.data.toList.length = s.size := by simp
  refine ⟨by omega, ?_⟩
  have hq : linePt ⟨#[63, 10]⟩ = none := by kernel_rfl
  have hLB : linesB t = (linesB s).take (k + 1) ++ (⟨#[63, 10]⟩ :: (linesB s).drop (k + 1)) := by
    unfold linesB
    rw [ht, h2, List.map_append, List.map_cons, List.map_take, List.map_drop]
  have hkl := (List.getElem?_eq_some_iff.1 hk).1
  obtain ⟨hc, hc2⟩ := read_ends h
  rw [hLB]
  cases hL : linesB s with
  | nil => rw [hL] at h; cases h
  | cons l L =>
    rw [hL, scan0_cons] at h
    rw [hL] at hc2
    show scan0 (l :: (L.take k ++ _)) = _
    rw [scan0_cons]
    cases hl : lineBr l with
    | none => rw [hl] at h; cases h
    | some b =>
      rw [hl] at h
      show scan b [] 1 (L.take k ++ _) = _
      rw [scan_put b _ _ hq L [] 1 k r h (by rw [List.length_cons] at hc2; omega)]
      congr 1
      omega
end Cf
/-- a text that is read: as much as a law sees of it -/
theorem parse_len {s : ByteArray} {b : Cf.Br} {ps : List Cf.Pt} (hs : s.size ≤ 8192) (h : Cf.scan0 (Cf.linesB s) = .inr (b, ps)) (hc : Cf.cOk b ps = true) (w : World) :
    Calls Tryz.prog 6 #[.string s] w fun e w' => (∃ (x : Id8) (ao : Option Addr) (cap : Nat), e = .returned (.tuple #[.agg #[.int .u8 ((x.f 0).toNat : Int), .int .u8 ((x.f 1).toNat : Int), .int .u8 ((x.f 2).toNat : Int), .int .u8 ((x.f 3).toNat : Int), .int .u8 ((x.f 4).toNat : Int), .int .u8 ((x.f 5).toNat : Int), .int .u8 ((x.f 6).toNat : Int), .int .u8 ((x.f 7).toNat : Int), .int .i64 (b.maxAge), .int .i64 (b.hello), .int .i64 (b.delay), .int .i64 (b.ageing), .slice ao ps.length cap], .int .i64 0, .int .i64 0])) ∧ Below w.heap.size w w' := by
  refine (parse_any s hs w).mono ?_
  rintro e w' ⟨ha, hb⟩
  refine ⟨?_, hb⟩
  unfold Cf.ParseAns at ha
  rw [h] at ha
  replace ha : if Cf.cOk b ps = true then ∃ pv psv base, e = .returned (.tuple #[.agg (Cf.bcells b pv), .int .i64 0, .int .i64 0]) ∧ psv.map Prod.fst = ps ∧ w.heap.size ≤ base ∧ Cf.Ports w' base pv psv ∧ b.id.length = 8 else e = .returned (.tuple #[.agg Cf.zconf, .int .i64 0, .int .i64 1]) := ha
  rw [if_pos hc] at ha
  obtain ⟨pv, psv, base, rfl, rfl, _, hp, hid⟩ := ha
  obtain ⟨x, hx⟩ := Cf.id8_of _ hid
  obtain ⟨ao, g, cap, rfl, _⟩ : ∃ (ao : Option Addr) (g cap : Nat), pv = .slice ao psv.length cap ∧ True := by
    rcases hp.1.2 with ⟨rfl, h0⟩ | ⟨g, cap, cur, rfl, _⟩
    · exact ⟨none, 0, 0, by rw [h0], trivial⟩
    · exact ⟨_, g, cap, rfl, trivial⟩
  refine ⟨x, ao, cap, ?_⟩
  rw [Cf.bcells_id hx, List.length_map]
theorem parse_bad {s : ByteArray} {k : Nat} (hs : s.size ≤ 8192) (h : Cf.scan0 (Cf.linesB s) = .inl k) (w : World) :
    Calls Tryz.prog 6 #[.string s] w fun e w' => e = .returned (.tuple #[.agg Cf.zconf, .int .i64 k, .int .i64 11]) ∧ Below w.heap.size w w' := by
  refine (parse_any s hs w).mono ?_
  rintro e w' ⟨ha, hb⟩
  refine ⟨?_, hb⟩
  unfold Cf.ParseAns at ha
  rw [h] at ha
  exact ha
theorem parse_arg {s : ByteArray} {b : Cf.Br} {ps : List Cf.Pt} (hs : s.size ≤ 8192) (h : Cf.scan0 (Cf.linesB s) = .inr (b, ps)) (hc : Cf.cOk b ps = false) (w : World) :
    Calls Tryz.prog 6 #[.string s] w fun e w' => e = .returned (.tuple #[.agg Cf.zconf, .int .i64 0, .int .i64 1]) ∧ Below w.heap.size w w' := by
  refine (parse_any s hs w).mono ?_
  rintro e w' ⟨ha, hb⟩
  refine ⟨?_, hb⟩
  unfold Cf.ParseAns at ha
  rw [h] at ha
  replace ha : if Cf.cOk b ps = true then ∃ pv psv base, e = .returned (.tuple #[.agg (Cf.bcells b pv), .int .i64 0, .int .i64 0]) ∧ psv.map Prod.fst = ps ∧ w.heap.size ≤ base ∧ Cf.Ports w' base pv psv ∧ b.id.length = 8 else e = .returned (.tuple #[.agg Cf.zconf, .int .i64 0, .int .i64 1]) := ha
  rw [if_neg (by rw [hc]; decide)] at ha
  exact ha
namespace Cf
def lit : ByteArray := ⟨#[98, 114, 105, 100, 103, 101, 32, 56, 48, 48, 48, 48, 48, 48, 48, 48, 48, 48, 48, 48, 48, 48, 49, 32, 50, 48, 32, 50, 32, 49, 53, 32, 51, 48, 48, 10, 116, 97, 112, 32, 49, 32, 45, 32, 48, 32, 49, 54, 10]⟩
def litL : List ByteArray := [⟨#[98, 114, 105, 100, 103, 101, 32, 56, 48, 48, 48, 48, 48, 48, 48, 48, 48, 48, 48, 48, 48, 48, 49, 32, 50, 48, 32, 50, 32, 49, 53, 32, 51, 48, 48, 10]⟩, ⟨#[116, 97, 112, 32, 49, 32, 45, 32, 48, 32, 49, 54, 10]⟩]
def litB : Br := ⟨[128, 0, 0, 0, 0, 0, 0, 1], 20, 2, 15, 300⟩
def litP : Pt := ⟨false, 0, false, zeros 32, 1, [], 0, 16⟩
theorem lit_lines : linesB lit = litL := by kernel_rfl
theorem lit_br : lineBr ⟨#[98, 114, 105, 100, 103, 101, 32, 56, 48, 48, 48, 48, 48, 48, 48, 48, 48, 48, 48, 48, 48, 48, 49, 32, 50, 48, 32, 50, 32, 49, 53, 32, 51, 48, 48, 10]⟩ = some litB := by kernel_rfl
theorem lit_pt : linePt ⟨#[116, 97, 112, 32, 49, 32, 45, 32, 48, 32, 49, 54, 10]⟩ = some litP := by kernel_rfl
theorem lit_scan : scan0 (linesB lit) = .inr (litB, [litP]) := by
  rw [lit_lines]
  unfold litL
  rw [scan0_cons, lit_br]
  show scan litB [] 1 [_] = _
  unfold scan
  rw [lit_pt]
  rfl
theorem lit_ok : cOk litB [litP] = true := by kernel_rfl
end Cf
set_option maxRecDepth 20000 in
set_option maxHeartbeats 2000000 in
theorem awake_any (w : World) : Calls Tryz.prog 4 #[] w fun e w' => e = .returned (.bool true) ∧ Below w.heap.size w w' := by
  have hp := parse_len (by show 49 ≤ 8192; decide) Cf.lit_scan Cf.lit_ok w
  have HP : Hid (Calls Tryz.prog 6 #[.string ⟨#[98, 114, 105, 100, 103, 101, 32, 56, 48, 48, 48, 48, 48, 48, 48, 48, 48, 48, 48, 48, 48, 48, 49, 32, 50, 48, 32, 50, 32, 49, 53, 32, 51, 48, 48, 10, 116, 97, 112, 32, 49, 32, 45, 32, 48, 32, 49, 54, 10]⟩] w fun e w' => (∃ (x : Id8) (ao : Option Addr) (cap : Nat), e = .returned (.tuple #[.agg #[.int .u8 ((x.f 0).toNat : Int), .int .u8 ((x.f 1).toNat : Int), .int .u8 ((x.f 2).toNat : Int), .int .u8 ((x.f 3).toNat : Int), .int .u8 ((x.f 4).toNat : Int), .int .u8 ((x.f 5).toNat : Int), .int .u8 ((x.f 6).toNat : Int), .int .u8 ((x.f 7).toNat : Int), .int .i64 (20), .int .i64 (2), .int .i64 (15), .int .i64 (300), .slice ao 1 cap], .int .i64 0, .int .i64 0])) ∧ Below w.heap.size w w') := hp
  clear hp
  go_enter Tryz.func4, Tryz.ntmps4
  go_wp2_with fail
  refine HP.out.mono ?_
  rintro e w1 ⟨⟨x, ao, cap, rfl⟩, hb⟩
  go_wp2_with ((with_reducible refine at_store 33 (.tmp 1) (.tmp 6) ?_); refine wpList_store_own rfl 33 (.tmp 1) (.tmp 6) rfl w1.heap.size #[.int .u8 ((x.f 0).toNat : Int), .int .u8 ((x.f 1).toNat : Int), .int .u8 ((x.f 2).toNat : Int), .int .u8 ((x.f 3).toNat : Int), .int .u8 ((x.f 4).toNat : Int), .int .u8 ((x.f 5).toNat : Int), .int .u8 ((x.f 6).toNat : Int), .int .u8 ((x.f 7).toNat : Int), .int .i64 (20), .int .i64 (2), .int .i64 (15), .int .i64 (300), .slice ao 1 cap] rfl rfl 33 _ (rowIs_new w1 _ _) Cf.info_conf rfl (by simp [Value.oneCell']) w1.heap.size (Nat.le_refl _) ?_)
  intro w2 hR _ _ hb2
  have c12 : w2.cell? ⟨w1.heap.size, 12, none⟩ = some (.slice ao 1 cap) := hR.cell 12
  have c11 : w2.cell? ⟨w1.heap.size, 11, none⟩ = some (.int .i64 300) := hR.cell 11
  have hb3 := hb.trans ((((Below.refl _ w1).alloc (Nat.le_refl _) _).trans hb2).mono hb.size)
  clear hR hb2
  go_wp2_with fail
  go_ret
  exact ⟨rfl, hb3⟩
end Go.Proofs.YthfckdnennfnoaaGreatDoor
-- strings.Builder over this translation: copyCheck, WriteByte (walked as the shelf's own contracts are, whose laying falls here because the panicking branch of copyCheck is refused by the loader), String (laid off the shelf). By an AI agent. 
namespace Go.Proofs.YthfckdnennfnoaaGreatDoor
open Go.RowKit Go.Shelf

theorem bd_size : (Tryz.prog.info? 112).map (·.size) = some 2 := by kernel_rfl
theorem bd_lies : liesAt Tryz.prog Tryz.prog.depth 112 (2 / Tryz.prog.cellsOf 112) 0 112 1 = true := by kernel_rfl

set_option maxHeartbeats 1000000 in
set_option maxRecDepth 100000 in
theorem bd_check_used (b : Nat) (w : World) (h0 : w.cell? ⟨b, 0, none⟩ = some (.pointer (some ⟨b, 0, none⟩))) :
    Calls Tryz.prog 62 #[.pointer (some ⟨b, 0, none⟩)] w fun e w' => e = .returned (.tuple #[]) ∧ w' = w := by
  obtain ⟨j, hj, _⟩ := Option.map_eq_some_iff.1 bd_size
  go_enter Tryz.func62, Tryz.ntmps62
  go_wp2
  rw [Lib.run_neq_ptr_same w _ Tryz.underlying110 hj]
  go_wp2
  go_end0
  exact ⟨rfl, rfl⟩

set_option maxHeartbeats 1000000 in
set_option maxRecDepth 100000 in
theorem bd_check_fresh (b : Nat) (w : World) (h0 : w.cell? ⟨b, 0, none⟩ = some (.pointer none)) (hsh : w.shape? b = some (112, 2)) (hfz : w.frozen? ⟨b, 0, none⟩ = false) :
    Calls Tryz.prog 62 #[.pointer (some ⟨b, 0, none⟩)] w fun e w' => e = .returned (.tuple #[]) ∧ w' = w.setCell ⟨b, 0, none⟩ (.pointer (some ⟨b, 0, none⟩)) := by
  obtain ⟨j, hj, hjs⟩ := Option.map_eq_some_iff.1 bd_size
  go_enter Tryz.func62, Tryz.ntmps62
  go_wp2
  rw [Lib.run_to_unsafe w ⟨b, 0, none⟩ Tryz.underlying110 Tryz.underlying166 hj (by rw [hjs]; decide) hsh (Nat.zero_lt_succ 1)]
  simp only [Result.andThen]
  rw [Oper.upon_value]
  go_wp2
  rw [run_callFunc_extern Tryz.func77 (by kernel_rfl) (by kernel_rfl) (by kernel_rfl) (e := Extern.AbiNoEscape.same) (by kernel_rfl)]
  rw [Lib.run_noEscape]
  simp only [Result.andThen]
  rw [Oper.upon_value]
  go_wp2
  rw [Lib.run_from_unsafe w ⟨b, 0, none⟩ Tryz.underlying166 Tryz.underlying110 hj hsh bd_lies]
  simp only [Result.andThen]
  rw [Oper.upon_value]
  go_wp2
  go_end0
  exact ⟨rfl, rfl⟩

theorem bd_check (B b : Nat) (bs : List Value) (w : World) (h : Lib.IsBuilder 112 5 B b bs w) :
    Calls Tryz.prog 62 #[.pointer (some ⟨b, 0, none⟩)] w fun e w' => e = .returned (.tuple #[]) ∧ (Lib.BuilderAt 112 5 B b (.pointer (some ⟨b, 0, none⟩)) bs w' ∧ Below B w w') := by
  rcases h with h | h
  · refine (bd_check_fresh b w h.cell0 h.shape h.frozen0).mono ?_
    rintro e w' ⟨rfl, rfl⟩
    exact ⟨rfl, h.used _, (Below.refl B w).setCell (p := ⟨b, 0, none⟩) h.1 _⟩
  · refine (bd_check_used b w h.cell0).mono ?_
    rintro e w' ⟨rfl, rfl⟩
    exact ⟨rfl, h, Below.refl B _⟩

/-- the builder at block b, one of the call's own from B on, holds the bytes l -/
def Bd (B b : Nat) (l : List UInt8) (w : World) : Prop := Lib.IsBuilder 112 5 B b (byteVals l) w

theorem Bd.lt {B b : Nat} {l : List UInt8} {w : World} (h : Bd B b l w) : b < w.heap.size := by
  rcases h with h | h
  · exact h.lt
  · exact h.lt

theorem Bd.fresh (w : World) : Bd w.heap.size w.heap.size [] (w.alloc (.cells #[.pointer none, .slice none 0 0] 112)) := Lib.fresh_isBuilder _ _ w

set_option maxHeartbeats 1000000 in
set_option maxRecDepth 100000 in
theorem bd_writeByte (B b : Nat) (l : List UInt8) (c : UInt8) (w : World) (h : Bd B b l w) (hlen : l.length ≤ 100000000) (hBw : B ≤ w.heap.size) (c0 : Int) (hc0 : c0 = (c.toNat : Int)) :
    Calls Tryz.prog 42 #[.pointer (some ⟨b, 0, none⟩), .int .u8 c0] w fun e w' => e = .returned .nilIface ∧ Bd B b (l ++ [c]) w' ∧ Below B w w' := by
  subst hc0
  have hl := byteVals_length l
  obtain ⟨i0, hi, hz0, hz1, hz2⟩ := info_parts Tryz.infoU8
  have H := Lib.hid h
  clear h
  go_enter Tryz.func42, Tryz.ntmps42
  go_wp2_with (go_at_call 62; refine (bd_check B b (byteVals l) _ H.out).mono ?_)
  rintro e w1 ⟨rfl, h1, hb1⟩
  obtain ⟨hB, v, hbk, hown, hne⟩ := h1
  have c0 : w1.cell? ⟨b, 0, none⟩ = some (.pointer (some ⟨b, 0, none⟩)) := by rw [Lib.cell_of_heap hbk]; rfl
  have c1 : w1.cell? ⟨b, 1, none⟩ = some v := by rw [Lib.cell_of_heap hbk]; rfl
  have hs1 := hb1.size
  rw [hl] at hown
  go_wp2_with (at_builtin; refine wpList_append_byte rfl (.tmp 11) (.tmp 13) rfl B v l rfl hown rfl c rfl hlen (by omega) ?_)
  intro v' w2 hown' hbel2 hgrow
  have hlt : b < w1.heap.size := by
    rcases Nat.lt_or_ge b w1.heap.size with h' | h'
    · exact h'
    · simp [Array.getElem?_eq_none h'] at hbk
  have hb2 : w2.heap[b]? = some (.cells #[.pointer (some ⟨b, 0, none⟩), v] 112 (0, 0)) := by
    rw [hgrow.block b hlt (fun e => hne e.symm)]
    exact hbk
  have d0 : w2.cell? ⟨b, 0, none⟩ = some (.pointer (some ⟨b, 0, none⟩)) := by rw [Lib.cell_of_heap hb2]; rfl
  have d1 : w2.cell? ⟨b, 1, none⟩ = some v := by rw [Lib.cell_of_heap hb2]; rfl
  have f1 : w2.frozen? ⟨b, 1, none⟩ = false := Lib.frozen_of_heap hb2 1
  obtain ⟨g, cap, rfl⟩ : ∃ g cap, v' = .slice (some ⟨g, 0, none⟩) (l.length + 1) cap := by
    rcases hown'.2 with ⟨_, h0⟩ | ⟨g, cap, cur, hv, _⟩
    · simp at h0
    · exact ⟨g, cap, by simpa using hv⟩
  go_wp2
  go_ret
  refine ⟨rfl, Or.inr ?_, ?_⟩
  · refine Lib.BuilderAt.put (T := 112) (e := 5) hB hb2 (bs' := byteVals (l ++ [c])) ?_ (by decide)
    rw [byteVals_length]
    exact hown'
  · exact (hb1.trans hbel2).setCell (p := ⟨b, 1, none⟩) hB _

def Tryz.lays169_ren : Go.Shelf.Ren := ⟨fun | 169 => 43 | n => n, fun | 70 => 110 | 9 => 9 | 0 => 0 | 72 => 112 | 37 => 64 | 127 => 149 | 3 => 3 | 5 => 5 | n => n, fun | n => n⟩
theorem Tryz.lays169 : Go.Proofs.Lays.n169 Tryz.prog Tryz.lays169_ren := {
  mixed := by kernel_rfl
  f169 := Tryz.func43.trans (congrArg some (by kernel_rfl))
  t0 := Tryz.underlying0
  a0 := Tryz.isAgg0
  z0 := Tryz.sizeOf0
  v0 := Tryz.zeroValue0
  t3 := Tryz.underlying3
  a3 := Tryz.isAgg3
  z3 := Tryz.sizeOf3
  v3 := Tryz.zeroValue3
  t9 := Tryz.underlying9
  a9 := Tryz.isAgg9
  z9 := Tryz.sizeOf9
  v9 := Tryz.zeroValue9
  t37 := Tryz.underlying64
  a37 := Tryz.isAgg64
  z37 := Tryz.sizeOf64
  v37 := Tryz.zeroValue64
  t70 := Tryz.underlying110
  a70 := Tryz.isAgg110
  z70 := Tryz.sizeOf110
  v70 := Tryz.zeroValue110
  t72 := Tryz.underlying112
  a72 := Tryz.isAgg112
  z72 := Tryz.sizeOf112
  v72 := Tryz.zeroValue112
  t127 := Tryz.underlying149
  a127 := Tryz.isAgg149
  z127 := Tryz.sizeOf149
  v127 := Tryz.zeroValue149 }
theorem Tryz.Builder_Extra_169 : Builder.Extra Tryz.prog Tryz.lays169_ren := {
  sizeBuilder := by kernel_rfl
  liesBuilder := by kernel_rfl
  t5 := Tryz.underlying5
  a5 := Tryz.isAgg5
  z5 := Tryz.sizeOf5
  v5 := Tryz.zeroValue5
  infoByte := by kernel_rfl
  cellsByte := by kernel_rfl
  sizeByte := by kernel_rfl
  neB5 := by decide }

theorem byteCells_eq (l : List UInt8) : Lib.byteCells l = byteVals l := by simp [Lib.byteCells, byteVals]

theorem bd_string (B b : Nat) (l : List UInt8) (w : World) (h : Bd B b l w) (hBw : B ≤ w.heap.size) :
    Calls Tryz.prog 43 #[.pointer (some ⟨b, 0, none⟩)] w fun e w' => e = .returned (.string ⟨l.toArray⟩) ∧ Below B w w' :=
  Any.Builder_String_any Tryz.lays169 Tryz.Builder_Extra_169 B b l w (by rw [byteCells_eq]; exact h) hBw
end Go.Proofs.YthfckdnennfnoaaGreatDoor
-- Bytes as digits, numbers joined. By an AI agent. 
namespace Go.Proofs.YthfckdnennfnoaaGreatDoor
open Go.RowKit Go.Shelf Go.Proofs

def joinL_ren : Go.Shelf.Ren := ⟨fun | 156 => 45 | 165 => 63 | 166 => 64 | 169 => 43 | 240 => 62 | 241 => 78 | 276 => 77 | 277 => 88 | n => n, fun | 31 => 51 | 9 => 9 | 3 => 3 | 4 => 4 | 20 => 20 | 0 => 0 | 72 => 112 | 76 => 151 | 70 => 110 | 37 => 64 | 75 => 114 | 127 => 149 | 164 => 166 | 5 => 5 | 80 => 75 | n => n, fun n => n⟩
set_option maxRecDepth 100000 in
theorem joinL : Lays.n156 Tryz.prog joinL_ren := {
  mixed := by kernel_rfl,
  f156 := Tryz.func45.trans (congrArg some (by kernel_rfl)),
  f165 := Tryz.func63.trans (congrArg some (by kernel_rfl)),
  f166 := Tryz.func64.trans (congrArg some (by kernel_rfl)),
  f169 := Tryz.func43.trans (congrArg some (by kernel_rfl)),
  f240 := Tryz.func62.trans (congrArg some (by kernel_rfl)),
  f241 := Tryz.func78.trans (congrArg some (by kernel_rfl)),
  f276 := Tryz.func77.trans (congrArg some (by kernel_rfl)),
  f277 := Tryz.func88.trans (congrArg some (by kernel_rfl)),
  t0 := Tryz.underlying0,
  a0 := Tryz.isAgg0,
  z0 := Tryz.sizeOf0,
  v0 := Tryz.zeroValue0,
  t3 := Tryz.underlying3,
  a3 := Tryz.isAgg3,
  z3 := Tryz.sizeOf3,
  v3 := Tryz.zeroValue3,
  t4 := Tryz.underlying4,
  a4 := Tryz.isAgg4,
  z4 := Tryz.sizeOf4,
  v4 := Tryz.zeroValue4,
  t9 := Tryz.underlying9,
  a9 := Tryz.isAgg9,
  z9 := Tryz.sizeOf9,
  v9 := Tryz.zeroValue9,
  t20 := Tryz.underlying20,
  a20 := Tryz.isAgg20,
  z20 := Tryz.sizeOf20,
  v20 := Tryz.zeroValue20,
  t31 := Tryz.underlying51,
  a31 := Tryz.isAgg51,
  z31 := Tryz.sizeOf51,
  v31 := Tryz.zeroValue51,
  t37 := Tryz.underlying64,
  a37 := Tryz.isAgg64,
  z37 := Tryz.sizeOf64,
  v37 := Tryz.zeroValue64,
  t70 := Tryz.underlying110,
  a70 := Tryz.isAgg110,
  z70 := Tryz.sizeOf110,
  v70 := Tryz.zeroValue110,
  t72 := Tryz.underlying112,
  a72 := Tryz.isAgg112,
  z72 := Tryz.sizeOf112,
  v72 := Tryz.zeroValue112,
  t75 := Tryz.underlying114,
  a75 := Tryz.isAgg114,
  z75 := Tryz.sizeOf114,
  v75 := Tryz.zeroValue114,
  t76 := Tryz.underlying151,
  a76 := Tryz.isAgg151,
  z76 := Tryz.sizeOf151,
  v76 := Tryz.zeroValue151,
  t127 := Tryz.underlying149,
  a127 := Tryz.isAgg149,
  z127 := Tryz.sizeOf149,
  v127 := Tryz.zeroValue149,
  t164 := Tryz.underlying166,
  a164 := Tryz.isAgg166,
  z164 := Tryz.sizeOf166,
  v164 := Tryz.zeroValue166 }

theorem joinX : Go.Proofs.Builder.Extra Tryz.prog joinL_ren := {
  sizeBuilder := by kernel_rfl, liesBuilder := by kernel_rfl, t5 := Tryz.underlying5, a5 := Tryz.isAgg5, z5 := Tryz.sizeOf5, v5 := Tryz.zeroValue5, infoByte := by kernel_rfl, cellsByte := by kernel_rfl, sizeByte := by kernel_rfl, neB5 := by decide }
theorem join_any (bk o c : Nat) (xs : List ByteArray) (sep : ByteArray) (w : World) (hcells : ∀ (j : Nat) x, xs[j]? = some x → w.cell? ⟨bk, o + j, none⟩ = some (.string x)) (hbk : bk < w.heap.size) (hN : xs.length ≤ 140737488355328) (hcap : xs.length ≤ c)
    (hlen : (Lib.join (xs.map (·.data.toList)) sep.data.toList).length ≤ 140737488355328) :
    Calls Tryz.prog 45 #[.slice (some ⟨bk, o, none⟩) xs.length c, .string sep] w fun e w' => e = .returned (.string ⟨(Lib.join (xs.map (·.data.toList)) sep.data.toList).toArray⟩) ∧ Below w.heap.size w w' := by
  have h := Any.strings_Join joinL joinX bk o c xs sep w hcells hbk hN hcap hlen
  change Calls Tryz.prog 45 _ _ _ at h
  exact h
theorem join_none (a : Option Addr) (c : Nat) (sep : ByteArray) (w : World) : Calls Tryz.prog 45 #[.slice a 0 c, .string sep] w fun e w' => e = .returned (.string ⟨#[]⟩) ∧ Below w.heap.size w w' := by
  have h := Any.strings_Join_none joinL joinX a c sep w
  change Calls Tryz.prog 45 _ _ _ at h
  exact h.mono fun e w' ⟨he, hw⟩ => ⟨he, hw ▸ Below.refl _ _⟩

namespace Cf
def hexc (n : Nat) : UInt8 := hexd.getD n 0
def hex2 (c : UInt8) : List UInt8 := [hexc (c.toNat / 16), hexc (c.toNat % 16)]
def hexOf (l : List UInt8) : List UInt8 := l.flatMap hex2
theorem hexOf_len (l : List UInt8) : (hexOf l).length = 2 * l.length := by
  induction l with
  | nil => rfl
  | cons a l ih => unfold hexOf at ih ⊢; rw [List.flatMap_cons, List.length_append, ih]; simp [hex2]; omega
theorem hexOf_next {l : List UInt8} {k : Nat} (h : k < l.length) : hexOf (l.take (k + 1)) = hexOf (l.take k) ++ [hexc ((l.getD k 0).toNat / 16)] ++ [hexc ((l.getD k 0).toNat % 16)] := by
  unfold hexOf
  rw [List.take_succ_eq_append_getElem h, List.flatMap_append, List.flatMap_singleton, List.getD_eq_getElem?_getD, List.getElem?_eq_getElem h, List.append_assoc]
  rfl
theorem hexc_get (n : Nat) (h : n < 16) : (⟨#[48, 49, 50, 51, 52, 53, 54, 55, 56, 57, 97, 98, 99, 100, 101, 102]⟩ : ByteArray)[n]'h = hexc n := by
  rcases (show n = 0 ∨ n = 1 ∨ n = 2 ∨ n = 3 ∨ n = 4 ∨ n = 5 ∨ n = 6 ∨ n = 7 ∨ n = 8 ∨ n = 9 ∨ n = 10 ∨ n = 11 ∨ n = 12 ∨ n = 13 ∨ n = 14 ∨ n = 15 from by omega) with rfl | rfl | rfl | rfl | rfl | rfl | rfl | rfl | rfl | rfl | rfl | rfl | rfl | rfl | rfl | rfl <;> rfl
/-- bytes in a slice -/
def BytesIn (w : World) (b off : Nat) (l : List UInt8) : Prop := ∀ i, i < l.length → w.cell? ⟨b, off + i, none⟩ = some (.int .u8 ((l.getD i 0).toNat : Int))
end Cf
set_option maxRecDepth 20000 in
set_option maxHeartbeats 1000000 in
theorem hexed_any (b off cap : Nat) (l : List UInt8) (w : World) (hc : Cf.BytesIn w b off l) (hb : b < w.heap.size) (hl : l.length ≤ 1000) :
    Calls Tryz.prog 22 #[.slice (some ⟨b, off, none⟩) l.length cap] w fun e w' => e = .returned (.string ⟨(Cf.hexOf l).toArray⟩) ∧ Below w.heap.size w w' := by
  have HC := Lib.hid hc
  clear hc
  go_enter Tryz.func22, Tryz.ntmps22
  go_upto_region 3 with fail
  go_loopw [5, 8] (fun _ i wr => ∃ k : Nat, k ≤ l.length ∧ i = .int .i64 k ∧ Bd w.heap.size w.heap.size (Cf.hexOf (l.take k)) wr ∧ Below w.heap.size w wr) (fun _ i _ => l.length - (intOf i).toNat)
  case atStart => exact ⟨0, Nat.zero_le _, rfl, Bd.fresh w, (Below.refl _ _).alloc (Nat.le_refl _) _⟩
  case round =>
    rename World => wr
    obtain ⟨k, hk, rfl, hbd, hbr⟩ := hrel
    have hsz := hbr.size
    have hbl := hbd.lt
    by_cases hlt : k < l.length
    · have c0 : wr.cell? ⟨b, off + k, none⟩ = some (.int .u8 ((l.getD k 0).toNat : Int)) := by rw [hbr.cell (p := ⟨b, off + k, none⟩) hb]; exact HC.out k hlt
      have HN := Lib.hid (Cf.hexOf_next hlt)
      have HL : Hid ((Cf.hexOf (l.take k)).length ≤ 2000) := by show _ ≤ _; rw [Cf.hexOf_len, List.length_take]; omega
      generalize l.getD k 0 = x at *
      have hx1 := x.toNat_lt
      have HD1 := Lib.hid (Cf.hexc_get (x.toNat / 16) (by omega))
      have HD2 := Lib.hid (Cf.hexc_get (x.toNat % 16) (by omega))
      have hx2 : x.toNat / 16 < 16 := by omega
      have hx3 : x.toNat % 16 < 16 := by omega
      go_wp2_with fail
      refine (bd_writeByte _ _ _ _ _ hbd (by have := HL.out; omega) (by omega) _ rfl).mono ?_
      rintro e' w1 ⟨rfl, hbd1, hb1⟩
      have hs1 := hb1.size
      go_wp2_with fail
      refine (bd_writeByte _ _ _ _ _ hbd1 (by rw [List.length_append]; have := HL.out; simp; omega) (by omega) _ rfl).mono ?_
      rintro e' w2 ⟨rfl, hbd2, hb2⟩
      go_wp2_with fail
      refine ⟨⟨k + 1, by omega, by go_num, ?_, hbr.trans (hb1.trans hb2)⟩, by simp [intOf]; omega⟩
      rw [HN.out, ← HD1.out, ← HD2.out]
      exact hbd2
    · obtain rfl : k = l.length := by omega
      rw [List.take_length] at hbd
      go_wp2_with fail
      refine (bd_string _ _ _ _ hbd (by omega)).mono ?_
      rintro e' w1 ⟨rfl, hb1⟩
      go_wp2_with fail
      go_ret
      exact ⟨rfl, hbr.trans hb1⟩

namespace Cf
def texts (ns : List Nat) : List ByteArray := ns.map fun n => ⟨(dec n).toArray⟩
theorem texts_len (ns : List Nat) : (texts ns).length = ns.length := by unfold texts; rw [List.length_map]
theorem texts_next {ns : List Nat} {k : Nat} (h : k < ns.length) : texts (ns.take (k + 1)) = texts (ns.take k) ++ [⟨(dec (ns.getD k 0)).toArray⟩] := by
  unfold texts
  rw [List.take_succ_eq_append_getElem h, List.map_append, List.getD_eq_getElem?_getD, List.getElem?_eq_getElem h]
  rfl
theorem texts_data (ns : List Nat) : (texts ns).map (·.data.toList) = ns.map dec := by unfold texts; rw [List.map_map]; rfl
theorem lens_le (ns : List Nat) (h : ∀ n ∈ ns, n < 9223372036854775808) : Lib.lens (ns.map dec) ≤ 21 * ns.length := by
  induction ns with
  | nil => simp [Lib.lens]
  | cons a l ih =>
    have h1 := ih fun n hn => h n (by simp [hn])
    have h2 := dec_len a (by have := h a (by simp); omega)
    unfold Lib.lens at h1 ⊢
    simp only [List.map_cons, List.sum_cons, List.length_cons] at h1 ⊢
    omega
theorem join_le (ns : List Nat) (sep : List UInt8) (hs : sep.length = 1) (h : ∀ n ∈ ns, n < 9223372036854775808) : (Lib.join (ns.map dec) sep).length ≤ 22 * ns.length := by
  cases ns with
  | nil => simp [Lib.join_nil]
  | cons a l =>
    have h1 := lens_le (a :: l) h
    rw [List.map_cons] at h1 ⊢
    rw [Lib.join_length, hs, List.length_map]
    simp only [List.length_cons] at h1 ⊢
    omega
end Cf
set_option maxRecDepth 20000 in
set_option maxHeartbeats 1000000 in
theorem joined_any (sep : ByteArray) (hsep : sep.size = 1) (ao : Option Addr) (cap : Nat) (ns : List Nat) (w : World) (hA : IntsAt w ao (Cf.ints ns)) (hn : ns.length ≤ 100000) (hN : ∀ n ∈ ns, n < 9223372036854775808) :
    Calls Tryz.prog 23 #[.string sep, .slice ao ns.length cap] w fun e w' => e = .returned (.string ⟨(Lib.join (ns.map Cf.dec) sep.data.toList).toArray⟩) ∧ Below w.heap.size w w' := by
  have HA := Lib.hid hA
  have HN := Lib.hid hN
  obtain ⟨ti, tz, hi, hz, hz1, hz2, hz3⟩ := info_str
  have HTI := Lib.hid hi
  have HTZ := Lib.hid hz
  clear hA hN hi hz
  go_enter Tryz.func23, Tryz.ntmps23
  go_upto_region 3 with fail
  go_loopw [5, 7, 10] (fun v5 _ i wr => ∃ k : Nat, k ≤ ns.length ∧ i = .int .i64 k ∧ Hid (wr.ownsRow w.heap.size 9 1 v5 k (Strs.all (Cf.texts (ns.take k)))) ∧ Below w.heap.size w wr) (fun _ _ i _ => ns.length - (intOf i).toNat)
  case atStart => exact ⟨0, Nat.zero_le _, rfl, World.ownsRow_nil _ _ _ _, Below.refl _ _⟩
  case round =>
    rename World => wr
    obtain ⟨k, hk, rfl, HO, hbr⟩ := hrel
    have hsz := hbr.size
    by_cases hlt : k < ns.length
    · have HB := HA.out.after hbr
      rcases HB with hnil | ⟨ib, ioff, rfl, hcell⟩
      · have h0 := congrArg List.length hnil
        unfold Cf.ints at h0
        rw [List.length_map, List.length_nil] at h0
        omega
      have c0 : wr.cell? ⟨ib, ioff + k, none⟩ = some (.int .i64 ((ns.getD k 0 : Nat) : Int)) := by
        rw [hcell k (by unfold Cf.ints; rw [List.length_map]; exact hlt)]
        unfold Cf.ints
        rw [List.getD_eq_getElem?_getD, List.getElem?_map, List.getD_eq_getElem?_getD, List.getElem?_eq_getElem hlt]
        rfl
      have hx : ns.getD k 0 < 9223372036854775808 := HN.out _ (by rw [List.getD_eq_getElem?_getD, List.getElem?_eq_getElem hlt, Option.getD_some]; exact List.getElem_mem hlt)
      have HT := Lib.hid (Cf.texts_next hlt)
      generalize ns.getD k 0 = x at *
      clear hcell
      go_wp2_with fail
      refine (decimal_any 20 (by decide) x _ (by omega) hx).mono ?_
      rintro e w1 ⟨rfl, hb1⟩
      have HO1 := Lib.hid (owns_later HO.out hb1)
      have hb' := hbr.trans (hb1.mono hsz)
      have hs1 := hb'.size
      clear hb1 HO hbr
      go_wp2_with (at_builtin; refine wpList_append_own _ rfl (.tmp 14) (.tmp 17) 51 rfl w.heap.size 9 ti tz 1 16 Tryz.underlying51 HTI.out HTZ.out hz1 hz2 hz3 (by decide) _ k _ rfl (World.ownsRow.alloc HO1.out _) ⟨w1.heap.size, 0, none⟩ 1 1 [.string ⟨(Oct.decF 20 x).toArray⟩] rfl rfl (cell_one_new _ _ _) (by simp [Value.oneCell']) ?d2 ?d3 ?d4 ?_)
      case d2 => simp [maxLen]; omega
      case d3 => omega
      case d4 => simp; omega
      intro v' w' ho hg _
      have HO' : Hid (w'.ownsRow w.heap.size 9 1 v' (k + 1) (Strs.all (Cf.texts (ns.take (k + 1))))) := by
        show World.ownsRow _ _ _ _ _ _ _
        rw [HT.out, Strs.all_snoc]
        exact ho
      have hb2 : Below w.heap.size w w' := hb'.trans (((Below.refl _ _).alloc hs1 _).grown hg (by simp; omega) (fun j e => (HO1.out.lt j e).1))
      clear ho hg HO1 hb' hs1
      go_wp2_with fail
      exact ⟨⟨k + 1, by omega, by go_num, HO', hb2⟩, by simp [intOf]; omega⟩
    · obtain rfl : k = ns.length := by omega
      rw [List.take_length] at HO
      rcases ns with _ | ⟨a, l⟩
      · rcases HO.out.2 with ⟨rfl, _⟩ | ⟨g, cp, cur, rfl, _⟩
        · go_wp2_with fail
          refine (join_none _ _ sep _).mono ?_
          rintro e w1 ⟨rfl, hb1⟩
          go_wp2_with fail
          go_ret
          exact ⟨rfl, hbr.trans (hb1.mono hsz)⟩
        · go_wp2_with fail
          refine (join_none _ _ sep _).mono ?_
          rintro e w1 ⟨rfl, hb1⟩
          go_wp2_with fail
          go_ret
          exact ⟨rfl, hbr.trans (hb1.mono hsz)⟩
      · have hlen : (a :: l).length = l.length + 1 := rfl
        have HO1 := HO.out
        rw [hlen] at HO1
        obtain ⟨g, cp, rfl⟩ := ownsRow_succ HO1
        have hcp : (a :: l).length ≤ cp := by
          rcases HO1.2 with ⟨h', _⟩ | ⟨g', cap', cur, h', _, _, h3, _⟩
          · simp at h'
          · simp only [Value.slice.injEq] at h'
            obtain ⟨_, _, rfl⟩ := h'
            rw [hlen]
            omega
        have hgw : g < wr.heap.size := (HO1.lt g rfl).2
        have hj := join_any g 0 cp (Cf.texts (a :: l)) sep wr (fun j x hx => by
          have hjl := (List.getElem?_eq_some_iff.1 hx).1
          rw [Cf.texts_len, hlen] at hjl
          rw [Nat.zero_add, World.ownsRow.cellAt HO1 j (by omega)]
          unfold Strs.all
          rw [List.getElem?_map, hx]
          rfl) hgw (by rw [Cf.texts_len]; omega) (by rw [Cf.texts_len]; exact hcp) (by rw [Cf.texts_data]; have := Cf.join_le (a :: l) sep.data.toList (by simpa using hsep) HN.out; omega)
        rw [Cf.texts_len, Cf.texts_data, hlen] at hj
        have HJ := Lib.hid hj
        clear hj HO1 HO HN HA hcp hlen
        go_wp2_with fail
        refine HJ.out.mono ?_
        rintro e w1 ⟨rfl, hb1⟩
        go_wp2_with fail
        go_ret
        exact ⟨rfl, hbr.trans (hb1.mono hsz)⟩
end Go.Proofs.YthfckdnennfnoaaGreatDoor
-- A configuration that was read is printed as it was: plain laws. By an AI agent. 
namespace Go.Proofs.YthfckdnennfnoaaGreatDoor
namespace Cf
def headText (p : Pt) : List UInt8 := if p.link then wLink ++ ([32] ++ (dec p.rate ++ ([32] ++ ((if p.greets then [103] else [97]) ++ ([32] ++ hexOf p.psk))))) else wTap
def tagText (ts : List Nat) : List UInt8 := if ts = [] then [45] else Lib.join (ts.map dec) [44]
def ptText (p : Pt) : List UInt8 := headText p ++ ([32] ++ (dec p.native ++ ([32] ++ (tagText p.tags ++ ([32] ++ (Lib.join ([p.horizon, p.limit].map dec) [32] ++ [10]))))))
def brText (b : Br) : List UInt8 := wBridge ++ ([32] ++ (hexOf b.id ++ ([32] ++ (Lib.join ([b.maxAge, b.hello, b.delay, b.ageing].map dec) [32] ++ [10]))))
def confText (b : Br) (ps : List Pt) : List UInt8 := brText b ++ ps.flatMap ptText
/-- numbers as Go's int holds them -/
def small (p : Pt) : Prop := p.native < 9223372036854775808 ∧ p.horizon < 9223372036854775808 ∧ p.limit < 9223372036854775808 ∧ p.rate < 9223372036854775808 ∧ p.tags.length ≤ 100000 ∧ ∀ n ∈ p.tags, n < 9223372036854775808
def smallB (b : Br) : Prop := b.maxAge < 9223372036854775808 ∧ b.hello < 9223372036854775808 ∧ b.delay < 9223372036854775808 ∧ b.ageing < 9223372036854775808
theorem idx_back {l : List UInt8} {c : UInt8} (h : 0 ≤ Lib.indexByte l c) : l.getD (Lib.indexByte l c).toNat 0 = c ∧ (Lib.indexByte l c).toNat < l.length := by
  obtain ⟨k, hk⟩ := Int.eq_ofNat_of_zero_le h
  rw [hk, Int.toNat_natCast]
  have h1 := (Lib.indexByte_some hk).1
  exact ⟨by rw [List.getD_eq_getElem?_getD, h1]; rfl, (List.getElem?_eq_some_iff.1 h1).1⟩
theorem hex2_back (a b : UInt8) (ha : 0 ≤ hexV a) (hb : 0 ≤ hexV b) : hex2 (UInt8.ofNat (16 * (hexV a).toNat + (hexV b).toNat)) = [a, b] := by
  obtain ⟨h1, h2⟩ := idx_back ha
  obtain ⟨h3, h4⟩ := idx_back hb
  have e1 : hexd.getD (hexV a).toNat 0 = a := h1
  have e2 : hexd.getD (hexV b).toNat 0 = b := h3
  have h2 : (hexV a).toNat < 16 := h2
  have h4 : (hexV b).toNat < 16 := h4
  generalize (hexV a).toNat = x at *
  generalize (hexV b).toNat = y at *
  have e : (UInt8.ofNat (16 * x + y)).toNat = 16 * x + y := by simp; omega
  unfold hex2 hexc
  rw [e, show (16 * x + y) / 16 = x from by omega, show (16 * x + y) % 16 = y from by omega, e1, e2]
theorem bytes_back' : ∀ (n : Nat) (l : List UInt8), l.length = 2 * n → (List.range n).all (goodAt l) = true → hexOf ((List.range n).map (byteAt l)) = l
  | 0, l, hl, _ => by
    obtain rfl : l = [] := List.eq_nil_of_length_eq_zero (by omega)
    rfl
  | n + 1, [], hl, _ => by simp at hl
  | n + 1, [a], hl, _ => by simp at hl; omega
  | n + 1, a :: b :: l, hl, hg => by
    rw [List.range_succ_eq_map, List.all_cons, Bool.and_eq_true, List.all_map] at hg
    have h0 := hg.1
    unfold goodAt at h0
    rw [Bool.and_eq_true, decide_eq_true_eq, decide_eq_true_eq] at h0
    have hr := bytes_back' n l (by simp at hl; omega) (by
      rw [← hg.2]
      congr 1)
    rw [List.range_succ_eq_map, List.map_cons, List.map_map]
    show hex2 (byteAt (a :: b :: l) 0) ++ hexOf ((List.range n).map (byteAt (a :: b :: l) ∘ Nat.succ)) = _
    have e : byteAt (a :: b :: l) ∘ Nat.succ = byteAt l := by
      funext i
      rfl
    rw [e, hr]
    show hex2 (UInt8.ofNat (16 * (hexV a).toNat + (hexV b).toNat)) ++ l = _
    rw [hex2_back a b h0.1 h0.2]
    rfl
theorem bytes_back {l bs : List UInt8} {n : Nat} (h : bytesOf l n = some bs) : hexOf bs = l := by
  unfold bytesOf at h
  split at h
  · rename_i hc
    obtain rfl := Option.some.inj h
    exact bytes_back' n l hc.1 hc.2
  · cases h
theorem num_back {l : List UInt8} {n : Nat} (h : numOf l = some n) : dec n = l ∧ n < 9223372036854775808 := by
  unfold numOf at h
  split at h
  · rename_i hc
    obtain rfl := Option.some.inj h
    refine ⟨hc.2.2, ?_⟩
    have h1 := val_lt l hc.2.1
    have h2 : 10 ^ l.length ≤ 10 ^ 10 := Nat.pow_le_pow_right (by decide) hc.1.2
    omega
  · cases h
theorem parts_some (c : UInt8) : ∀ l, ∃ p ps, Oct.parts c l = p :: ps
  | [] => ⟨_, _, rfl⟩
  | a :: l => by
    unfold Oct.parts
    by_cases h : a = c
    · rw [if_pos h]; exact ⟨_, _, rfl⟩
    · rw [if_neg h]
      cases Oct.parts c l <;> exact ⟨_, _, rfl⟩
theorem parts_back (c : UInt8) : ∀ l, Lib.join (Oct.parts c l) [c] = l
  | [] => Lib.join_one _ _
  | a :: l => by
    have ih := parts_back c l
    obtain ⟨p, ps, e⟩ := parts_some c l
    unfold Oct.parts
    rw [e] at ih ⊢
    rw [Lib.join_cons] at ih
    by_cases h : a = c
    · rw [if_pos h, Lib.join_cons]
      show Lib.joinTail [c] (p :: ps) = _
      have : Lib.joinTail [c] (p :: ps) = c :: (p ++ Lib.joinTail [c] ps) := rfl
      rw [this, ih, h]
    · rw [if_neg h]
      show Lib.join ((a :: p) :: ps) [c] = _
      rw [Lib.join_cons]
      show a :: (p ++ _) = _
      rw [ih]
theorem all_back : ∀ (ps : List (List UInt8)) (ns : List Nat), allNum ps = some ns → ns.map dec = ps ∧ ∀ n ∈ ns, n < 9223372036854775808
  | [], ns, h => by cases h; exact ⟨rfl, fun n hn => by cases hn⟩
  | p :: ps, ns, h => by
    unfold allNum at h
    cases h1 : numOf p with
    | none => rw [h1] at h; cases h
    | some a => cases h2 : allNum ps with
      | none => rw [h1, h2] at h; cases h
      | some l =>
        rw [h1, h2] at h
        obtain rfl := Option.some.inj h
        obtain ⟨e1, e2⟩ := all_back ps l h2
        obtain ⟨e3, e4⟩ := num_back h1
        refine ⟨by rw [List.map_cons, e1, e3], fun n hn => ?_⟩
        rcases List.mem_cons.1 hn with rfl | hn
        · exact e4
        · exact e2 n hn
theorem tags_back {l : List UInt8} {ts : List Nat} (h : tagsOf l = some ts) : tagText ts = l ∧ ∀ n ∈ ts, n < 9223372036854775808 := by
  unfold tagsOf at h
  by_cases hl : l = [45]
  · rw [if_pos hl] at h
    obtain rfl := Option.some.inj h
    exact ⟨hl.symm, fun n hn => by cases hn⟩
  · rw [if_neg hl] at h
    obtain ⟨e1, e2⟩ := all_back _ _ h
    refine ⟨?_, e2⟩
    unfold tagText
    rw [if_neg, e1, parts_back]
    rintro rfl
    obtain ⟨p, ps, e⟩ := parts_some 44 l
    rw [e] at e1
    cases e1
theorem rest_back {lk : Bool} {ra : Nat} {gr : Bool} {psk : List UInt8} {L : List (List UInt8)} {p : Pt} (h : restOf lk ra gr psk L = some p) : (p.link = lk ∧ p.rate = ra ∧ p.greets = gr ∧ p.psk = psk) ∧ L = [dec p.native, tagText p.tags, dec p.horizon, dec p.limit] ∧ p.native < 9223372036854775808 ∧ p.horizon < 9223372036854775808 ∧ p.limit < 9223372036854775808 ∧ ∀ n ∈ p.tags, n < 9223372036854775808 := by
  match L, h with
  | [a, b, c, d], h =>
    rw [rest_eq] at h
    cases h1 : numOf a <;> cases h2 : tagsOf b <;> cases h3 : numOf c <;> cases h4 : numOf d <;> rw [h1, h2, h3, h4] at h <;> first | (cases h; done) | skip
    obtain rfl := Option.some.inj h
    obtain ⟨e1, b1⟩ := num_back h1
    obtain ⟨e2, b2⟩ := tags_back h2
    obtain ⟨e3, b3⟩ := num_back h3
    obtain ⟨e4, b4⟩ := num_back h4
    exact ⟨⟨rfl, rfl, rfl, rfl⟩, by rw [e1, e2, e3, e4], b1, b3, b4, b2⟩
theorem port_back {L : List (List UInt8)} {p : Pt} (h : portOf L = some p) : Lib.join L [32] ++ [10] = ptText p ∧ p.psk.length = 32 ∧ p.native < 9223372036854775808 ∧ p.horizon < 9223372036854775808 ∧ p.limit < 9223372036854775808 ∧ p.rate < 9223372036854775808 ∧ ∀ n ∈ p.tags, n < 9223372036854775808 := by
  match L, h with
  | w :: t, h =>
    replace h : (if w = wTap then restOf false 0 false (zeros 32) t else if w = wLink then linkOf t else none) = some p := h
    by_cases h1 : w = wTap
    · rw [if_pos h1] at h
      obtain ⟨⟨e1, e2, e3, e4⟩, rfl, b1, b2, b3, b4⟩ := rest_back h
      refine ⟨?_, by rw [e4]; rfl, b1, b2, b3, by omega, b4⟩
      unfold ptText headText
      rw [e1, h1]
      simp [Lib.join_cons, Lib.joinTail]
    · rw [if_neg h1] at h
      by_cases h2 : w = wLink
      · rw [if_pos h2] at h
        match t, h with
        | a :: b :: c :: t, h =>
          replace h : (match numOf a, bytesOf c 32 with
            | some r, some k => if b = [103] ∨ b = [97] then restOf true r (b == [103]) k t else none
            | _, _ => none) = some p := h
          cases h3 : numOf a with
          | none => rw [h3] at h; cases h
          | some r => cases h4 : bytesOf c 32 with
            | none => rw [h3, h4] at h; cases h
            | some k =>
              rw [h3, h4] at h
              replace h : (if b = [103] ∨ b = [97] then restOf true r (b == [103]) k t else none) = some p := h
              by_cases h5 : b = [103] ∨ b = [97]
              · rw [if_pos h5] at h
                obtain ⟨⟨e1, e2, e3, e4⟩, rfl, b1, b2, b3, b4⟩ := rest_back h
                obtain ⟨f1, f2⟩ := num_back h3
                have f3 := bytes_back h4
                refine ⟨?_, by rw [e4]; exact bytesOf_length h4, b1, b2, b3, by omega, b4⟩
                unfold ptText headText
                rw [e1, e2, e3, e4, h2, f1, f3]
                rcases h5 with rfl | rfl <;> simp [Lib.join_cons, Lib.joinTail]
              · rw [if_neg h5] at h; cases h
      · rw [if_neg h2] at h; cases h
theorem cut_back {s t : ByteArray} (h : cut s = some t) : t.data.toList ++ [10] = s.data.toList := by
  unfold cut at h
  by_cases hc : s.data.toList.getLast? = some 10
  · rw [if_pos hc] at h
    obtain rfl := Option.some.inj h
    obtain ⟨l, hl⟩ := List.getLast?_eq_some_iff.1 hc
    rw [hl]
    simp
  · rw [if_neg hc] at h; cases h
theorem linePt_back {s : ByteArray} (hs : s.size ≤ 10000) {p : Pt} (h : linePt s = some p) : ptText p = s.data.toList ∧ p.psk.length = 32 ∧ small p := by
  have ht := linePt_tags h
  cases hc : cut s with
  | none => rw [linePt_no hc] at h; cases h
  | some t =>
    rw [linePt_of hc] at h
    obtain ⟨e, e2, b1, b2, b3, b4, b5⟩ := port_back h
    have h2 : lists (Oct.pieces 32 t) = Oct.parts 32 t.data.toList := pieces_list 32 t
    rw [h2, parts_back, cut_back hc] at e
    exact ⟨e.symm, e2, b1, b2, b3, b4, by omega, b5⟩
theorem lineBr_back {s : ByteArray} {b : Br} (h : lineBr s = some b) : brText b = s.data.toList ∧ smallB b := by
  cases hc : cut s with
  | none => rw [lineBr_no hc] at h; cases h
  | some t =>
    rw [lineBr_of hc] at h
    have h2 : lists (Oct.pieces 32 t) = Oct.parts 32 t.data.toList := pieces_list 32 t
    rw [h2] at h
    have h3 := parts_back 32 t.data.toList
    rw [← cut_back hc, ← h3]
    generalize Oct.parts 32 t.data.toList = L at *
    match L, h with
    | [w, i, a, b1, c, d], h =>
      replace h : (if w = wBridge then match bytesOf i 8, numOf a, numOf b1, numOf c, numOf d with
        | some i, some a, some b, some c, some d => some (⟨i, a, b, c, d⟩ : Br)
        | _, _, _, _, _ => none
        else none) = some b := h
      by_cases hw : w = wBridge
      · rw [if_pos hw] at h
        cases h1 : bytesOf i 8 <;> cases h4 : numOf a <;> cases h5 : numOf b1 <;> cases h6 : numOf c <;> cases h7 : numOf d <;> rw [h1, h4, h5, h6, h7] at h <;> first | (cases h; done) | skip
        obtain rfl := Option.some.inj h
        obtain ⟨e4, g4⟩ := num_back h4
        obtain ⟨e5, g5⟩ := num_back h5
        obtain ⟨e6, g6⟩ := num_back h6
        obtain ⟨e7, g7⟩ := num_back h7
        refine ⟨?_, g4, g5, g6, g7⟩
        unfold brText
        rw [bytes_back h1, hw]
        simp [Lib.join_cons, Lib.joinTail, e4, e5, e6, e7]
      · rw [if_neg hw] at h; cases h
theorem scan_back (b : Br) : ∀ (L : List ByteArray) (ps : List Pt) (n : Nat) (r : Br × List Pt), (∀ l ∈ L, l.size ≤ 10000) → (∀ p ∈ ps, p.psk.length = 32 ∧ small p) → scan b ps n L = .inr r → r.2.flatMap ptText = ps.flatMap ptText ++ (L.map (·.data.toList)).flatten ∧ ∀ p ∈ r.2, p.psk.length = 32 ∧ small p
  | [], ps, n, r, _, hp, h => by
    cases h
    exact ⟨by simp, hp⟩
  | l :: L, ps, n, r, hL, hp, h => by
    unfold scan at h
    cases hl : linePt l with
    | none => rw [hl] at h; cases h
    | some p =>
      rw [hl] at h
      obtain ⟨e, e2⟩ := linePt_back (hL l (by simp)) hl
      obtain ⟨h1, h2⟩ := scan_back b L (ps ++ [p]) (n + 1) r (fun x hx => hL x (by simp [hx])) (fun q hq => by
        rcases List.mem_append.1 hq with hq | hq
        · exact hp q hq
        · obtain rfl := List.mem_singleton.1 hq
          exact e2) h
      refine ⟨?_, h2⟩
      rw [h1, List.flatMap_append, List.flatMap_singleton, e]
      simp
theorem lines_flat : ∀ l : List UInt8, (lines l).flatten = l
  | [] => rfl
  | a :: l => by
    have ih := lines_flat l
    unfold lines
    by_cases h : a = 10
    · rw [if_pos h, List.flatten_cons, ih, h]; rfl
    · rw [if_neg h]
      cases hl : lines l with
      | nil => rw [lines_nil l hl]; rfl
      | cons p ps =>
        rw [hl] at ih
        show (a :: p) ++ ps.flatten = _
        rw [List.flatten_cons] at ih
        show a :: (p ++ ps.flatten) = _
        rw [ih]
/-- what is read is what is printed of it -/
theorem conf_back {s : ByteArray} (hs : s.size ≤ 8192) {b : Br} {ps : List Pt} (h : scan0 (linesB s) = .inr (b, ps)) : confText b ps = s.data.toList ∧ smallB b ∧ ∀ p ∈ ps, p.psk.length = 32 ∧ small p := by
  have hfl : ((linesB s).map (·.data.toList)).flatten = s.data.toList := by
    unfold linesB
    rw [List.map_map]
    have : ((fun x : ByteArray => x.data.toList) ∘ fun l : List UInt8 => (⟨l.toArray⟩ : ByteArray)) = id := by funext l; rfl
    rw [this, List.map_id, lines_flat]
  have hsz := linesB_small s
  cases hL : linesB s with
  | nil => rw [hL] at h; cases h
  | cons l L =>
    rw [hL] at hfl hsz
    rw [hL, scan0_cons] at h
    cases hl : lineBr l with
    | none => rw [hl] at h; cases h
    | some b' =>
      rw [hl] at h
      obtain ⟨e1, e2⟩ := lineBr_back hl
      obtain ⟨h1, h2⟩ := scan_back b' L [] 1 (b, ps) (fun x hx => by have := hsz x (by simp [hx]); omega) (fun q hq => by cases hq) h
      obtain ⟨hb, _⟩ := scan_len b' L [] 1 (b, ps) h
      replace hb : b = b' := hb
      subst hb
      refine ⟨?_, e2, h2⟩
      unfold confText
      rw [e1]
      replace h1 : ps.flatMap ptText = _ := h1
      rw [h1, ← hfl]
      simp
end Cf
end Go.Proofs.YthfckdnennfnoaaGreatDoor
-- A port's line, printed. By an AI agent. 
namespace Go.Proofs.YthfckdnennfnoaaGreatDoor
open Go.RowKit Go.WideShapes Go.Sort Grow

/-- a call that looks at a special value behind a constant, and answers an exact one -/
theorem exact_call2 {P : Program} {ops : Array Oper} {w0 : World} {a : Act} {S : List (Tmp × Fact)} {o : Oper} {Le : World → World → Prop} {f : FuncId} {c : Value} {x : Tmp} {ats : Array TypeId} {V : Fact} {v : Value} {fn : Func} (ho : o.op = .call { callee := .value (.func f), args := #[.const c, .tmp x], argTypes := ats }) (hS : (x, V) ∈ S)
    (hf : P.funcs[f]? = some fn) (hname : (fn.name == "runtime.NumGoroutine") = false) (hb : fn.body.isNone = false)
    (hc : ∀ u w, Le w0 w → V w u → Calls P f #[c, u] w fun e w' => e = .returned v ∧ Le w w') : Owes Le P ops w0 a S o (fun _ u => u = v) := by
  intro ρ w hle h1 _
  have hm : x ∈ o.looksAt ops := by simp [Oper.looksAt, ho, Op.operands, Call.operands]
  have hV := h1 _ hS hm
  have h3 : (execOp ρ.eval o).run P w = .ok (.enter f #[c, ρ.eval (.tmp x)]) w := by
    have h1 : fn.name ≠ "runtime.NumGoroutine" := by simpa using hname
    have e : execOp ρ.eval o = callFunc f (#[] ++ #[Operand.const c, Operand.tmp x].map ρ.eval ++ #[]) := by
      unfold execOp
      rw [ho]
      rfl
    rw [e]
    have h2 : fn.body ≠ none := fun h0 => by
      rw [h0] at hb
      cases hb
    simp [callFunc, go_sem, hf, h1, h2]
  unfold gives
  rw [h3]
  exact (hc _ w hle hV).mono fun e w' ⟨he, hl⟩ => ⟨v, he, hl, rfl⟩
namespace Cf
theorem text_inj {a b : ByteArray} (h : a.data.toList = b.data.toList) : a = b := ByteArray.ext (Array.toList_inj.1 h)
theorem dec_size (n : Nat) (h : n < 9223372036854775808) : (⟨(Oct.decF 20 n).toArray⟩ : ByteArray).size ≤ 21 := by
  have := dec_len n (by omega)
  show (Oct.decF 20 n).toArray.size ≤ 21
  rw [List.size_toArray]
  exact this
theorem hex_size (l : List UInt8) : (⟨(hexOf l).toArray⟩ : ByteArray).size = 2 * l.length := by
  show (hexOf l).toArray.size = _
  rw [List.size_toArray, hexOf_len]
theorem head_size (p : Pt) (h : p.rate < 9223372036854775808) (hp : p.psk.length = 32) : (⟨(headText p).toArray⟩ : ByteArray).size ≤ 120 := by
  show (headText p).toArray.size ≤ 120
  rw [List.size_toArray]
  unfold headText
  have h1 := dec_len p.rate (by omega)
  have h2 := hexOf_len p.psk
  split
  · simp only [List.length_append, wLink, List.length_cons, List.length_nil]
    split <;> simp only [List.length_cons, List.length_nil] <;> omega
  · simp [wTap]
theorem tag_size (ts : List Nat) (h : ts.length ≤ 100000) (h2 : ∀ n ∈ ts, n < 9223372036854775808) : (⟨(tagText ts).toArray⟩ : ByteArray).size ≤ 2300000 := by
  show (tagText ts).toArray.size ≤ _
  rw [List.size_toArray]
  unfold tagText
  split
  · simp
  · have := join_le ts [44] rfl h2
    omega
theorem two_size (a b : Nat) (h : a < 9223372036854775808) (h2 : b < 9223372036854775808) : (⟨(Lib.join ([a, b].map dec) [32]).toArray⟩ : ByteArray).size ≤ 50 := by
  show (Lib.join ([a, b].map dec) [32]).toArray.size ≤ _
  rw [List.size_toArray]
  have := join_le [a, b] [32] rfl (by simp [h, h2])
  simp only [List.length_cons, List.length_nil] at this
  omega
end Cf

set_option maxRecDepth 20000 in
set_option maxHeartbeats 4000000 in
theorem printed_any (p : Cf.Pt) (ta : Option Addr) (tc : Nat) (w : World) (hT : IntsAt w ta (Cf.ints p.tags)) (hp : p.psk.length = 32) (hs : Cf.small p) :
    Calls Tryz.prog 24 #[.agg ((.int .i64 p.native :: .slice ta p.tags.length tc :: .int .i64 p.horizon :: .int .i64 p.limit :: .bool p.link :: .int .i64 p.rate :: .bool p.greets :: byteVals p.psk).toArray)] w fun e w' => e = .returned (.string ⟨(Cf.ptText p).toArray⟩) ∧ Below w.heap.size w w' := by
  obtain ⟨hs1, hs2, hs3, hs4, hs5, hs6⟩ := hs
  have hi56 : (Tryz.prog.info? 72).map (·.size) = some (((.int .i64 p.native :: .slice ta p.tags.length tc :: .int .i64 p.horizon :: .int .i64 p.limit :: .bool p.link :: .int .i64 p.rate :: .bool p.greets :: byteVals p.psk).toArray)).size := pc_info hp
  have HX : Hid (RowIs (w.alloc (.cells ((.int .i64 p.native :: .slice ta p.tags.length tc :: .int .i64 p.horizon :: .int .i64 p.limit :: .bool p.link :: .int .i64 p.rate :: .bool p.greets :: byteVals p.psk).toArray) 72)) w.heap.size 72 ((.int .i64 p.native :: .slice ta p.tags.length tc :: .int .i64 p.horizon :: .int .i64 p.limit :: .bool p.link :: .int .i64 p.rate :: .bool p.greets :: byteVals p.psk).toArray)) := by show RowIs _ _ _ _; exact rowIs_new w _ _
  have hbx : Below w.heap.size w (w.alloc (.cells ((.int .i64 p.native :: .slice ta p.tags.length tc :: .int .i64 p.horizon :: .int .i64 p.limit :: .bool p.link :: .int .i64 p.rate :: .bool p.greets :: byteVals p.psk).toArray) 72)) := (Below.refl _ _).alloc (Nat.le_refl _) _
  have HT := Lib.hid (hT.after hbx)
  have hbz : w.heap.size < (w.alloc (.cells ((.int .i64 p.native :: .slice ta p.tags.length tc :: .int .i64 p.horizon :: .int .i64 p.limit :: .bool p.link :: .int .i64 p.rate :: .bool p.greets :: byteVals p.psk).toArray) 72)).heap.size := by simp
  have HDR := Lib.hid (fun w => decimal_any 20 (by decide) p.rate w (by omega) hs4)
  have HDN := Lib.hid (fun w => decimal_any 20 (by decide) p.native w (by omega) hs1)
  go_enter Tryz.func24, Tryz.ntmps24
  go_upto_region 1 with fail
  generalize w.alloc (.cells ((.int .i64 p.native :: .slice ta p.tags.length tc :: .int .i64 p.horizon :: .int .i64 p.limit :: .bool p.link :: .int .i64 p.rate :: .bool p.greets :: byteVals p.psk).toArray) 72) = w1 at *
  clear hi56 hT
  have c0 : w1.cell? ⟨w.heap.size, 0, none⟩ = some (.int .i64 p.native) := HX.out.cell 0
  have c1 : w1.cell? ⟨w.heap.size, 1, none⟩ = some (.slice ta p.tags.length tc) := HX.out.cell 1
  have c2 : w1.cell? ⟨w.heap.size, 2, none⟩ = some (.int .i64 p.horizon) := HX.out.cell 2
  have c3 : w1.cell? ⟨w.heap.size, 3, none⟩ = some (.int .i64 p.limit) := HX.out.cell 3
  have c4 : w1.cell? ⟨w.heap.size, 4, none⟩ = some (.bool p.link) := HX.out.cell 4
  have c5 : w1.cell? ⟨w.heap.size, 5, none⟩ = some (.int .i64 p.rate) := HX.out.cell 5
  have c6 : w1.cell? ⟨w.heap.size, 6, none⟩ = some (.bool p.greets) := HX.out.cell 6
  have HBI : Hid (Cf.BytesIn w1 w.heap.size 7 p.psk) := fun i hi => by
    rw [HX.out.cell (7 + i), show 7 + i = i + 1 + 1 + 1 + 1 + 1 + 1 + 1 from by omega]
    simp only [List.getElem?_toArray, List.getElem?_cons_succ]
    unfold byteVals
    rw [List.getElem?_map, List.getD_eq_getElem?_getD, List.getElem?_eq_getElem hi]
    rfl
  clear HX
  generalize ((.int .i64 p.native :: .slice ta p.tags.length tc :: .int .i64 p.horizon :: .int .i64 p.limit :: .bool p.link :: .int .i64 p.rate :: .bool p.greets :: byteVals p.psk).toArray) = X at *
  obtain ⟨lk, hlk⟩ : ∃ x, p.link = x := ⟨_, rfl⟩
  obtain ⟨gr, hgr⟩ : ∃ x, p.greets = x := ⟨_, rfl⟩
  rw [hlk] at c4
  rw [hgr] at c6
  go_upto_if 7 with fail
  go_cut [3] (fun v3 wx => v3 = .string ⟨(Cf.headText p).toArray⟩ ∧ Below w1.heap.size w1 wx)
  case first =>
    have HXX := Lib.hid (fun q : Regrown => hexed_any w.heap.size 7 32 p.psk (grow (redrawn w1 q.d) q.os) (fun i hi => by rw [(below_regrown w1 q.d q.os).cell (p := ⟨w.heap.size, 7 + i, none⟩) hbz]; exact HBI.out i hi) (by have := (below_regrown w1 q.d q.os).size; omega) (by omega))
    rw [hp] at HXX
    obtain ⟨hx, hhx⟩ : ∃ x, (⟨(Cf.hexOf p.psk).toArray⟩ : ByteArray) = x := ⟨_, rfl⟩
    have hxs : hx.size = 64 := by
      rw [← hhx]
      show (Cf.hexOf p.psk).toArray.size = 64
      rw [List.size_toArray, Cf.hexOf_len, hp]
    rw [hhx] at HXX
    have hhx := Lib.hid hhx
    obtain ⟨dr, hdr⟩ : ∃ x, (⟨(Oct.decF 20 p.rate).toArray⟩ : ByteArray) = x := ⟨_, rfl⟩
    have hds : dr.size ≤ 21 := by rw [← hdr]; exact Cf.dec_size _ hs4
    rw [hdr] at HDR
    have hdr := Lib.hid hdr
    have k3 := cell_regrown c5
    cases lk with
    | false =>
      have HH : Hid (Cf.headText p = [116, 97, 112]) := by show _ = _; unfold Cf.headText; rw [hlk]; rfl
      clear hlk hgr
      go_wp2_with fail
      go_meet
      exact ⟨by rw [HH.out], Below.refl _ _⟩
    | true =>
      cases gr with
      | false =>
        have HH : Hid ((⟨(Cf.headText p).toArray⟩ : ByteArray) = ⟨#[108, 105, 110, 107, 32]⟩ ++ dr ++ ⟨#[32]⟩ ++ ⟨#[97]⟩ ++ ⟨#[32]⟩ ++ hx) := by
          show _ = _
          unfold Cf.headText Cf.wLink
          rw [hlk, hgr]
          exact Cf.text_inj (by rw [← hdr.out, ← hhx.out]; simp [Cf.dec])
        clear hlk hgr
        go_upto_region 6 with fail
        refine wp_region_mix 12 (by kernel_rfl) (by kernel_rfl) (by kernel_rfl) ?_
        (refine mix_step (by kernel_rfl) (by kernel_rfl) (fun K hK => ?_); go_simp; (try (simp only [↓IntWalk.iteOmega]; go_simp)); (first | (refine hK _ ?_; clear hK K) | (apply Exists.intro; refine ⟨fun _ => ?_, hK _ ?_⟩; (first | fail); clear hK K)))
        (refine mix_step (by kernel_rfl) (by kernel_rfl) (fun K hK => ?_); go_simp; (try (simp only [↓IntWalk.iteOmega]; go_simp)); (first | (refine hK _ ?_; clear hK K) | (apply Exists.intro; refine ⟨fun _ => ?_, hK _ ?_⟩; (first | fail); clear hK K)))
        (refine mix_step (by kernel_rfl) (by kernel_rfl) (fun K hK => ?_); go_simp; (try (simp only [↓IntWalk.iteOmega]; go_simp)); (first | (refine hK _ ?_; clear hK K) | (apply Exists.intro; refine ⟨fun _ => ?_, hK _ ?_⟩; (first | exact HDR.out _); clear hK K)))
        (refine mix_step (by kernel_rfl) (by kernel_rfl) (fun K hK => ?_); go_simp; (try (simp only [↓IntWalk.iteOmega]; go_simp)); (first | (refine hK _ ?_; clear hK K) | (apply Exists.intro; refine ⟨fun _ => ?_, hK _ ?_⟩; (first | fail); clear hK K)))
        (refine mix_step (by kernel_rfl) (by kernel_rfl) (fun K hK => ?_); go_simp; (try (simp only [↓IntWalk.iteOmega]; go_simp)); (first | (refine hK _ ?_; clear hK K) | (apply Exists.intro; refine ⟨fun _ => ?_, hK _ ?_⟩; (first | fail); clear hK K)))
        (refine mix_step (by kernel_rfl) (by kernel_rfl) (fun K hK => ?_); go_simp; (try (simp only [↓IntWalk.iteOmega]; go_simp)); (first | (refine hK _ ?_; clear hK K) | (apply Exists.intro; refine ⟨fun _ => ?_, hK _ ?_⟩; (first | fail); clear hK K)))
        (refine mix_step (by kernel_rfl) (by kernel_rfl) (fun K hK => ?_); go_simp; (try (simp only [↓IntWalk.iteOmega]; go_simp)); (first | (refine hK _ ?_; clear hK K) | (apply Exists.intro; refine ⟨fun _ => ?_, hK _ ?_⟩; (first | fail); clear hK K)))
        (refine mix_step (by kernel_rfl) (by kernel_rfl) (fun K hK => ?_); go_simp; (try (simp only [↓IntWalk.iteOmega]; go_simp)); (first | (refine hK _ ?_; clear hK K) | (apply Exists.intro; refine ⟨fun _ => ?_, hK _ ?_⟩; (first | fail); clear hK K)))
        (refine mix_step (by kernel_rfl) (by kernel_rfl) (fun K hK => ?_); go_simp; (try (simp only [↓IntWalk.iteOmega]; go_simp)); (first | (refine hK _ ?_; clear hK K) | (apply Exists.intro; refine ⟨fun _ => ?_, hK _ ?_⟩; (first | fail); clear hK K)))
        (refine mix_step (by kernel_rfl) (by kernel_rfl) (fun K hK => ?_); go_simp; (try (simp only [↓IntWalk.iteOmega]; go_simp)); (first | (refine hK _ ?_; clear hK K) | (apply Exists.intro; refine ⟨fun _ => ?_, hK _ ?_⟩; (first | fail); clear hK K)))
        (refine mix_step (by kernel_rfl) (by kernel_rfl) (fun K hK => ?_); go_simp; (try (simp only [↓IntWalk.iteOmega]; go_simp)); (first | (refine hK _ ?_; clear hK K) | (apply Exists.intro; refine ⟨fun _ => ?_, hK _ ?_⟩; (first | exact HXX.out _); clear hK K)))
        (refine mix_step (by kernel_rfl) (by kernel_rfl) (fun K hK => ?_); go_simp; (try (simp only [↓IntWalk.iteOmega]; go_simp)); (first | (refine hK _ ?_; clear hK K) | (apply Exists.intro; refine ⟨fun _ => ?_, hK _ ?_⟩; (first | fail); clear hK K)))
        refine mix_nil ?_
        rintro ⟨dq, osq⟩
        have hb9 := below_regrown w1 dq osq
        refine (show wpList _ _ _ _ _ _ from ?_)
        simp only [List.drop, Act.put, List.setIfInBounds_toArray, List.set]
        go_wp2_with fail
        go_meet
        exact ⟨by rw [HH.out], hb9⟩
      | true =>
        have HH : Hid ((⟨(Cf.headText p).toArray⟩ : ByteArray) = ⟨#[108, 105, 110, 107, 32]⟩ ++ dr ++ ⟨#[32]⟩ ++ ⟨#[103]⟩ ++ ⟨#[32]⟩ ++ hx) := by
          show _ = _
          unfold Cf.headText Cf.wLink
          rw [hlk, hgr]
          exact Cf.text_inj (by rw [← hdr.out, ← hhx.out]; simp [Cf.dec])
        clear hlk hgr
        go_upto_region 6 with fail
        refine wp_region_mix 12 (by kernel_rfl) (by kernel_rfl) (by kernel_rfl) ?_
        (refine mix_step (by kernel_rfl) (by kernel_rfl) (fun K hK => ?_); go_simp; (try (simp only [↓IntWalk.iteOmega]; go_simp)); (first | (refine hK _ ?_; clear hK K) | (apply Exists.intro; refine ⟨fun _ => ?_, hK _ ?_⟩; (first | fail); clear hK K)))
        (refine mix_step (by kernel_rfl) (by kernel_rfl) (fun K hK => ?_); go_simp; (try (simp only [↓IntWalk.iteOmega]; go_simp)); (first | (refine hK _ ?_; clear hK K) | (apply Exists.intro; refine ⟨fun _ => ?_, hK _ ?_⟩; (first | fail); clear hK K)))
        (refine mix_step (by kernel_rfl) (by kernel_rfl) (fun K hK => ?_); go_simp; (try (simp only [↓IntWalk.iteOmega]; go_simp)); (first | (refine hK _ ?_; clear hK K) | (apply Exists.intro; refine ⟨fun _ => ?_, hK _ ?_⟩; (first | exact HDR.out _); clear hK K)))
        (refine mix_step (by kernel_rfl) (by kernel_rfl) (fun K hK => ?_); go_simp; (try (simp only [↓IntWalk.iteOmega]; go_simp)); (first | (refine hK _ ?_; clear hK K) | (apply Exists.intro; refine ⟨fun _ => ?_, hK _ ?_⟩; (first | fail); clear hK K)))
        (refine mix_step (by kernel_rfl) (by kernel_rfl) (fun K hK => ?_); go_simp; (try (simp only [↓IntWalk.iteOmega]; go_simp)); (first | (refine hK _ ?_; clear hK K) | (apply Exists.intro; refine ⟨fun _ => ?_, hK _ ?_⟩; (first | fail); clear hK K)))
        (refine mix_step (by kernel_rfl) (by kernel_rfl) (fun K hK => ?_); go_simp; (try (simp only [↓IntWalk.iteOmega]; go_simp)); (first | (refine hK _ ?_; clear hK K) | (apply Exists.intro; refine ⟨fun _ => ?_, hK _ ?_⟩; (first | fail); clear hK K)))
        (refine mix_step (by kernel_rfl) (by kernel_rfl) (fun K hK => ?_); go_simp; (try (simp only [↓IntWalk.iteOmega]; go_simp)); (first | (refine hK _ ?_; clear hK K) | (apply Exists.intro; refine ⟨fun _ => ?_, hK _ ?_⟩; (first | fail); clear hK K)))
        (refine mix_step (by kernel_rfl) (by kernel_rfl) (fun K hK => ?_); go_simp; (try (simp only [↓IntWalk.iteOmega]; go_simp)); (first | (refine hK _ ?_; clear hK K) | (apply Exists.intro; refine ⟨fun _ => ?_, hK _ ?_⟩; (first | fail); clear hK K)))
        (refine mix_step (by kernel_rfl) (by kernel_rfl) (fun K hK => ?_); go_simp; (try (simp only [↓IntWalk.iteOmega]; go_simp)); (first | (refine hK _ ?_; clear hK K) | (apply Exists.intro; refine ⟨fun _ => ?_, hK _ ?_⟩; (first | fail); clear hK K)))
        (refine mix_step (by kernel_rfl) (by kernel_rfl) (fun K hK => ?_); go_simp; (try (simp only [↓IntWalk.iteOmega]; go_simp)); (first | (refine hK _ ?_; clear hK K) | (apply Exists.intro; refine ⟨fun _ => ?_, hK _ ?_⟩; (first | fail); clear hK K)))
        (refine mix_step (by kernel_rfl) (by kernel_rfl) (fun K hK => ?_); go_simp; (try (simp only [↓IntWalk.iteOmega]; go_simp)); (first | (refine hK _ ?_; clear hK K) | (apply Exists.intro; refine ⟨fun _ => ?_, hK _ ?_⟩; (first | exact HXX.out _); clear hK K)))
        (refine mix_step (by kernel_rfl) (by kernel_rfl) (fun K hK => ?_); go_simp; (try (simp only [↓IntWalk.iteOmega]; go_simp)); (first | (refine hK _ ?_; clear hK K) | (apply Exists.intro; refine ⟨fun _ => ?_, hK _ ?_⟩; (first | fail); clear hK K)))
        refine mix_nil ?_
        rintro ⟨dq, osq⟩
        have hb9 := below_regrown w1 dq osq
        refine (show wpList _ _ _ _ _ _ from ?_)
        simp only [List.drop, Act.put, List.setIfInBounds_toArray, List.set]
        go_wp2_with fail
        go_meet
        exact ⟨by rw [HH.out], hb9⟩
  case rest =>
    obtain ⟨rfl, hb⟩ := hcut
    obtain ⟨hd, hhd⟩ : ∃ x, (⟨(Cf.headText p).toArray⟩ : ByteArray) = x := ⟨_, rfl⟩
    have hhs : hd.size ≤ 120 := by rw [← hhd]; exact Cf.head_size p hs4 hp
    rw [hhd]
    have c0 := (hb.cell (p := ⟨w.heap.size, 0, none⟩) hbz).trans c0
    have c1 := (hb.cell (p := ⟨w.heap.size, 1, none⟩) hbz).trans c1
    have c2 := (hb.cell (p := ⟨w.heap.size, 2, none⟩) hbz).trans c2
    have c3 := (hb.cell (p := ⟨w.heap.size, 3, none⟩) hbz).trans c3
    have HT := Lib.hid (HT.out.after hb)
    have hbW := hbx.trans (hb.mono hbx.size)
    have hbz : w.heap.size < wc.heap.size := Nat.lt_of_lt_of_le hbz hb.size
    clear hb HBI
    clear c4 c5 c6
    obtain ⟨bt, hbt⟩ : ∃ b, decide (0 < p.tags.length) = b := ⟨_, rfl⟩
    go_upto_if 27 with fail
    go_cut [5] (fun v5 wx => v5 = .string ⟨(Cf.tagText p.tags).toArray⟩ ∧ Below wc.heap.size wc wx)
    case first =>
      have HJT := Lib.hid (joined_any ⟨#[44]⟩ rfl ta tc p.tags wc HT.out hs5 hs6)
      cases bt with
      | false =>
        have h0 : p.tags.length = 0 := by have := of_decide_eq_false hbt; omega
        have HG : Hid (Cf.tagText p.tags = [45]) := by show _ = _; rw [List.eq_nil_of_length_eq_zero h0]; rfl
        clear h0 hbt
        go_wp2_with fail
        go_meet
        exact ⟨by rw [HG.out], Below.refl _ _⟩
      | true =>
        have h0 : 0 < p.tags.length := of_decide_eq_true hbt
        have HG : Hid (Cf.tagText p.tags = Lib.join (p.tags.map Cf.dec) [44]) := by
          show _ = _
          unfold Cf.tagText
          rw [if_neg (fun e => by rw [e] at h0; exact absurd h0 (Nat.lt_irrefl _))]
        clear h0 hbt
        go_wp2_with fail
        refine HJT.out.mono ?_
        rintro e w5 ⟨rfl, hb⟩
        go_wp2_with fail
        go_meet
        exact ⟨by rw [HG.out], hb⟩
    case rest =>
      rename World => w7
      obtain ⟨rfl, hb⟩ := hcut
      obtain ⟨tg, htg⟩ : ∃ x, (⟨(Cf.tagText p.tags).toArray⟩ : ByteArray) = x := ⟨_, rfl⟩
      have hts : tg.size ≤ 2300000 := by rw [← htg]; exact Cf.tag_size _ hs5 hs6
      rw [htg]
      have c0 := (hb.cell (p := ⟨w.heap.size, 0, none⟩) hbz).trans c0
      have c2 := (hb.cell (p := ⟨w.heap.size, 2, none⟩) hbz).trans c2
      have c3 := (hb.cell (p := ⟨w.heap.size, 3, none⟩) hbz).trans c3
      have hb7 := hbW.trans (hb.mono hbW.size)
      clear hb hbW hbz c1
      obtain ⟨dn, hdn⟩ : ∃ x, (⟨(Oct.decF 20 p.native).toArray⟩ : ByteArray) = x := ⟨_, rfl⟩
      have hdns : dn.size ≤ 21 := by rw [← hdn]; exact Cf.dec_size _ hs1
      rw [hdn] at HDN
      obtain ⟨jl, hjl⟩ : ∃ x, (⟨(Lib.join ([p.horizon, p.limit].map Cf.dec) [32]).toArray⟩ : ByteArray) = x := ⟨_, rfl⟩
      have hjs : jl.size ≤ 50 := by rw [← hjl]; exact Cf.two_size _ _ hs2 hs3
      have HJ : Hid (∀ u w, Bel w7 w → RowAt w7.heap.size 3 2 #[.int .i64 (p.horizon : Int), .int .i64 (p.limit : Int)] w u → Calls Tryz.prog 23 #[.string ⟨#[32]⟩, u] w fun e w' => e = .returned (.string jl) ∧ Bel w w') := fun u w hle ⟨b, hu, hB, hR⟩ => by
        subst hu
        have h := joined_any ⟨#[32]⟩ rfl (some ⟨b, 0, none⟩) 2 [p.horizon, p.limit] w (.inr ⟨b, 0, rfl, fun i hi => by
          match i, hi with
          | 0, _ => exact hR.cell 0
          | 1, _ => exact hR.cell 1⟩) (by show 2 ≤ 100000; decide) (fun n hn => by
          simp at hn
          rcases hn with rfl | rfl
          · exact hs2
          · exact hs3)
        refine h.mono ?_
        rintro e w' ⟨he, hb⟩
        exact ⟨by rw [he, ← hjl], hb⟩
      have HANS : Hid ((⟨(Cf.ptText p).toArray⟩ : ByteArray) = hd ++ ⟨#[32]⟩ ++ dn ++ ⟨#[32]⟩ ++ tg ++ ⟨#[32]⟩ ++ jl ++ ⟨#[10]⟩) := by
        show _ = _
        rw [← hhd, ← hdn, ← htg, ← hjl]
        unfold Cf.ptText
        exact Cf.text_inj (by simp [Cf.dec])
      clear hhd hdn htg hjl hbt
      have k0 := cell_regrown c0
      have k2 := cell_regrown c2
      have k3 := cell_regrown c3
      go_upto_region 10 with fail
      refine wp_region_mix 22 (by kernel_rfl) (by kernel_rfl) (by kernel_rfl) ?_
      (refine mix_step (by kernel_rfl) (by kernel_rfl) (fun K hK => ?_); go_simp; (try (simp only [↓IntWalk.iteOmega]; go_simp)); (first | (refine hK _ ?_; clear hK K) | (apply Exists.intro; refine ⟨fun _ => ?_, hK _ ?_⟩; (first | fail); clear hK K)))
      (refine mix_step (by kernel_rfl) (by kernel_rfl) (fun K hK => ?_); go_simp; (try (simp only [↓IntWalk.iteOmega]; go_simp)); (first | (refine hK _ ?_; clear hK K) | (apply Exists.intro; refine ⟨fun _ => ?_, hK _ ?_⟩; (first | fail); clear hK K)))
      (refine mix_step (by kernel_rfl) (by kernel_rfl) (fun K hK => ?_); go_simp; (try (simp only [↓IntWalk.iteOmega]; go_simp)); (first | (refine hK _ ?_; clear hK K) | (apply Exists.intro; refine ⟨fun _ => ?_, hK _ ?_⟩; (first | fail); clear hK K)))
      (refine mix_step (by kernel_rfl) (by kernel_rfl) (fun K hK => ?_); go_simp; (try (simp only [↓IntWalk.iteOmega]; go_simp)); (first | (refine hK _ ?_; clear hK K) | (apply Exists.intro; refine ⟨fun _ => ?_, hK _ ?_⟩; (first | fail); clear hK K)))
      (refine mix_step (by kernel_rfl) (by kernel_rfl) (fun K hK => ?_); go_simp; (try (simp only [↓IntWalk.iteOmega]; go_simp)); (first | (refine hK _ ?_; clear hK K) | (apply Exists.intro; refine ⟨fun _ => ?_, hK _ ?_⟩; (first | fail); clear hK K)))
      (refine mix_step (by kernel_rfl) (by kernel_rfl) (fun K hK => ?_); go_simp; (try (simp only [↓IntWalk.iteOmega]; go_simp)); (first | (refine hK _ ?_; clear hK K) | (apply Exists.intro; refine ⟨fun _ => ?_, hK _ ?_⟩; (first | fail); clear hK K)))
      (refine mix_step (by kernel_rfl) (by kernel_rfl) (fun K hK => ?_); go_simp; (try (simp only [↓IntWalk.iteOmega]; go_simp)); (first | (refine hK _ ?_; clear hK K) | (apply Exists.intro; refine ⟨fun _ => ?_, hK _ ?_⟩; (first | exact HDN.out _); clear hK K)))
      (refine mix_step (by kernel_rfl) (by kernel_rfl) (fun K hK => ?_); go_simp; (try (simp only [↓IntWalk.iteOmega]; go_simp)); (first | (refine hK _ ?_; clear hK K) | (apply Exists.intro; refine ⟨fun _ => ?_, hK _ ?_⟩; (first | fail); clear hK K)))
      (refine mix_step (by kernel_rfl) (by kernel_rfl) (fun K hK => ?_); go_simp; (try (simp only [↓IntWalk.iteOmega]; go_simp)); (first | (refine hK _ ?_; clear hK K) | (apply Exists.intro; refine ⟨fun _ => ?_, hK _ ?_⟩; (first | fail); clear hK K)))
      (refine mix_step (by kernel_rfl) (by kernel_rfl) (fun K hK => ?_); go_simp; (try (simp only [↓IntWalk.iteOmega]; go_simp)); (first | (refine hK _ ?_; clear hK K) | (apply Exists.intro; refine ⟨fun _ => ?_, hK _ ?_⟩; (first | fail); clear hK K)))
      (refine mix_step (by kernel_rfl) (by kernel_rfl) (fun K hK => ?_); go_simp; (try (simp only [↓IntWalk.iteOmega]; go_simp)); (first | (refine hK _ ?_; clear hK K) | (apply Exists.intro; refine ⟨fun _ => ?_, hK _ ?_⟩; (first | fail); clear hK K)))
      (refine mix_step (by kernel_rfl) (by kernel_rfl) (fun K hK => ?_); go_simp; (try (simp only [↓IntWalk.iteOmega]; go_simp)); (first | (refine hK _ ?_; clear hK K) | (apply Exists.intro; refine ⟨fun _ => ?_, hK _ ?_⟩; (first | fail); clear hK K)))
      (refine mix_step (by kernel_rfl) (by kernel_rfl) (fun K hK => ?_); go_simp; (try (simp only [↓IntWalk.iteOmega]; go_simp)); (first | (refine hK _ ?_; clear hK K) | (apply Exists.intro; refine ⟨fun _ => ?_, hK _ ?_⟩; (first | fail); clear hK K)))
      (refine mix_step (by kernel_rfl) (by kernel_rfl) (fun K hK => ?_); go_simp; (try (simp only [↓IntWalk.iteOmega]; go_simp)); (first | (refine hK _ ?_; clear hK K) | (apply Exists.intro; refine ⟨fun _ => ?_, hK _ ?_⟩; (first | fail); clear hK K)))
      (refine mix_step (by kernel_rfl) (by kernel_rfl) (fun K hK => ?_); go_simp; (try (simp only [↓IntWalk.iteOmega]; go_simp)); (first | (refine hK _ ?_; clear hK K) | (apply Exists.intro; refine ⟨fun _ => ?_, hK _ ?_⟩; (first | fail); clear hK K)))
      (refine mix_step (by kernel_rfl) (by kernel_rfl) (fun K hK => ?_); go_simp; (try (simp only [↓IntWalk.iteOmega]; go_simp)); (first | (refine hK _ ?_; clear hK K) | (apply Exists.intro; refine ⟨fun _ => ?_, hK _ ?_⟩; (first | fail); clear hK K)))
      (refine mix_step (by kernel_rfl) (by kernel_rfl) (fun K hK => ?_); go_simp; (try (simp only [↓IntWalk.iteOmega]; go_simp)); (first | (refine hK _ ?_; clear hK K) | (apply Exists.intro; refine ⟨fun _ => ?_, hK _ ?_⟩; (first | fail); clear hK K)))
      (refine mix_step (by kernel_rfl) (by kernel_rfl) (fun K hK => ?_); go_simp; (try (simp only [↓IntWalk.iteOmega]; go_simp)); (first | (refine hK _ ?_; clear hK K) | (apply Exists.intro; refine ⟨fun _ => ?_, hK _ ?_⟩; (first | fail); clear hK K)))
      refine mix_special (RowAt w7.heap.size 3 2 #[.int .i64 (p.horizon : Int), .int .i64 (p.limit : Int)]) 51 rfl rfl (stable_row _ _ _ _) (owes_buildSlice (cells := #[.int .i64 (p.horizon : Int), .int .i64 (p.limit : Int)]) rfl (by simp) Tryz.underlying47 (sz := 1) (z := .int .i64 0) (by kernel_rfl) (by decide) (by decide) (by kernel_rfl)) ?_
      refine mix_exact (.string jl) rfl (exact_call2 rfl (List.Mem.head _) Tryz.func23 rfl rfl HJ.out) ?_
      (refine mix_step (by kernel_rfl) (by kernel_rfl) (fun K hK => ?_); go_simp; (try (simp only [↓IntWalk.iteOmega]; go_simp)); (first | (refine hK _ ?_; clear hK K) | (apply Exists.intro; refine ⟨fun _ => ?_, hK _ ?_⟩; (first | fail); clear hK K)))
      (refine mix_step (by kernel_rfl) (by kernel_rfl) (fun K hK => ?_); go_simp; (try (simp only [↓IntWalk.iteOmega]; go_simp)); (first | (refine hK _ ?_; clear hK K) | (apply Exists.intro; refine ⟨fun _ => ?_, hK _ ?_⟩; (first | fail); clear hK K)))
      refine mix_nil ?_
      rintro ⟨dq, osq⟩ u51 -
      have hb9 := hb7.trans ((below_regrown w7 dq osq).mono hb7.size)
      refine (show wpList _ _ _ _ _ _ from ?_)
      simp only [List.drop, Act.put, List.setIfInBounds_toArray, List.set]
      go_wp2_with fail
      go_ret
      exact ⟨by rw [HANS.out]; rfl, hb9⟩
end Go.Proofs.YthfckdnennfnoaaGreatDoor
-- conf.Print. By an AI agent. 
namespace Go.Proofs.YthfckdnennfnoaaGreatDoor
open Go.RowKit Go.WideShapes Go.Sort Grow

namespace Cf
theorem pvT_form (q : Pt × Value) : ∃ ta tc, pvT q = ⟨q.1.native, ta, ints q.1.tags, tc, q.1.horizon, q.1.limit, q.1.link, q.1.rate, q.1.greets, q.1.psk⟩ := by
  unfold pvT
  split
  · exact ⟨_, _, rfl⟩
  · exact ⟨none, 0, rfl⟩
theorem pvc_form (p : Pt) (ta : Option Addr) (tc : Nat) : pvc ⟨p.native, ta, ints p.tags, tc, p.horizon, p.limit, p.link, p.rate, p.greets, p.psk⟩ = (.int .i64 p.native :: .slice ta p.tags.length tc :: .int .i64 p.horizon :: .int .i64 p.limit :: .bool p.link :: .int .i64 p.rate :: .bool p.greets :: byteVals p.psk) := by
  unfold pvc
  rw [ints_len]
def soFar (b : Br) (ps : List Pt) (k : Nat) : ByteArray := ⟨(brText b ++ (ps.take k).flatMap ptText).toArray⟩
theorem soFar_next {b : Br} {ps : List Pt} {k : Nat} (h : k < ps.length) : soFar b ps (k + 1) = soFar b ps k ++ ⟨(ptText ps[k]).toArray⟩ := by
  unfold soFar
  rw [List.take_succ_eq_append_getElem h, List.flatMap_append, List.flatMap_singleton, ← List.append_assoc]
  exact text_inj (by simp)
theorem pt_size (p : Pt) (hp : p.psk.length = 32) (hs : small p) : (⟨(ptText p).toArray⟩ : ByteArray).size ≤ 2400000 := by
  obtain ⟨h1, h2, h3, h4, h5, h6⟩ := hs
  have e1 := head_size p h4 hp
  have e2 := tag_size p.tags h5 h6
  have e3 := two_size p.horizon p.limit h2 h3
  have e4 := dec_len p.native (by omega)
  replace e1 : (headText p).toArray.size ≤ 120 := e1
  replace e2 : (tagText p.tags).toArray.size ≤ 2300000 := e2
  replace e3 : (Lib.join ([p.horizon, p.limit].map dec) [32]).toArray.size ≤ 50 := e3
  rw [List.size_toArray] at e1 e2 e3
  show (ptText p).toArray.size ≤ _
  rw [List.size_toArray]
  unfold ptText
  simp only [List.length_append, List.length_cons, List.length_nil]
  omega
theorem four_size (b : Br) (h : smallB b) : (⟨(Lib.join ([b.maxAge, b.hello, b.delay, b.ageing].map dec) [32]).toArray⟩ : ByteArray).size ≤ 100 := by
  obtain ⟨h1, h2, h3, h4⟩ := h
  show (Lib.join ([b.maxAge, b.hello, b.delay, b.ageing].map dec) [32]).toArray.size ≤ _
  rw [List.size_toArray]
  have := join_le [b.maxAge, b.hello, b.delay, b.ageing] [32] rfl (by simp [h1, h2, h3, h4])
  simp only [List.length_cons, List.length_nil] at this
  omega
theorem br_text (b : Br) (ps : List Pt) : soFar b ps 0 = ⟨#[98, 114, 105, 100, 103, 101, 32]⟩ ++ ⟨(hexOf b.id).toArray⟩ ++ ⟨#[32]⟩ ++ ⟨(Lib.join ([b.maxAge, b.hello, b.delay, b.ageing].map dec) [32]).toArray⟩ ++ ⟨#[10]⟩ := by
  unfold soFar brText wBridge
  exact text_inj (by simp)
theorem soFar_size {b : Br} {ps : List Pt} (hb : smallB b) (hi : b.id.length = 8) (hp : ∀ p ∈ ps, p.psk.length = 32 ∧ small p) : ∀ k, k ≤ ps.length → (soFar b ps k).size ≤ 200 + k * 2400000
  | 0, _ => by
    rw [br_text]
    have e1 := four_size b hb
    have e2 := hex_size b.id
    simp only [ByteArray.size_append, e2, hi]
    show 7 + 2 * 8 + 1 + _ + 1 ≤ _
    omega
  | k + 1, h => by
    have ih := soFar_size hb hi hp k (by omega)
    have hm := hp ps[k] (List.getElem_mem (by omega))
    have e := pt_size ps[k] hm.1 hm.2
    rw [soFar_next (by omega), ByteArray.size_append]
    omega
theorem soFar_all (b : Br) (ps : List Pt) : soFar b ps ps.length = ⟨(confText b ps).toArray⟩ := by
  unfold soFar confText
  rw [List.take_length]
end Cf

set_option maxRecDepth 20000 in
set_option maxHeartbeats 4000000 in
theorem print_no (x : Id8) (ma he de ag : Int) (bk off cap : Nat) (L : List Cf.Pv) (w : World) (ao : Option Addr) (hao : ao = some ⟨bk, off, none⟩ ∨ L = []) (hL : Cf.PIn w bk off L) (hn : L.length ≤ 10000) (hno : Cf.confOk L ag ma he de = false) :
    Calls Tryz.prog 9 #[.agg #[.int .u8 ((x.f 0).toNat : Int), .int .u8 ((x.f 1).toNat : Int), .int .u8 ((x.f 2).toNat : Int), .int .u8 ((x.f 3).toNat : Int), .int .u8 ((x.f 4).toNat : Int), .int .u8 ((x.f 5).toNat : Int), .int .u8 ((x.f 6).toNat : Int), .int .u8 ((x.f 7).toNat : Int), .int .i64 ma, .int .i64 he, .int .i64 de, .int .i64 ag, .slice ao L.length cap]] w fun e w' => e = .returned (.tuple #[.string ⟨#[]⟩, .int .i64 1]) ∧ Below w.heap.size w w' := by
  have HLL := Lib.hid hL
  clear hL
  go_enter Tryz.func9, Tryz.ntmps9
  go_upto_region 1 with fail
  have HX : Hid (RowIs (w.alloc (.cells #[.int .u8 ((x.f 0).toNat : Int), .int .u8 ((x.f 1).toNat : Int), .int .u8 ((x.f 2).toNat : Int), .int .u8 ((x.f 3).toNat : Int), .int .u8 ((x.f 4).toNat : Int), .int .u8 ((x.f 5).toNat : Int), .int .u8 ((x.f 6).toNat : Int), .int .u8 ((x.f 7).toNat : Int), .int .i64 ma, .int .i64 he, .int .i64 de, .int .i64 ag, .slice ao L.length cap] 33)) w.heap.size 33 #[.int .u8 ((x.f 0).toNat : Int), .int .u8 ((x.f 1).toNat : Int), .int .u8 ((x.f 2).toNat : Int), .int .u8 ((x.f 3).toNat : Int), .int .u8 ((x.f 4).toNat : Int), .int .u8 ((x.f 5).toNat : Int), .int .u8 ((x.f 6).toNat : Int), .int .u8 ((x.f 7).toNat : Int), .int .i64 ma, .int .i64 he, .int .i64 de, .int .i64 ag, .slice ao L.length cap]) := by show RowIs _ _ _ _; exact rowIs_new w _ _
  have hbx : Below w.heap.size w (w.alloc (.cells #[.int .u8 ((x.f 0).toNat : Int), .int .u8 ((x.f 1).toNat : Int), .int .u8 ((x.f 2).toNat : Int), .int .u8 ((x.f 3).toNat : Int), .int .u8 ((x.f 4).toNat : Int), .int .u8 ((x.f 5).toNat : Int), .int .u8 ((x.f 6).toNat : Int), .int .u8 ((x.f 7).toNat : Int), .int .i64 ma, .int .i64 he, .int .i64 de, .int .i64 ag, .slice ao L.length cap] 33)) := (Below.refl _ _).alloc (Nat.le_refl _) _
  have hri := cright_any x ma he de ag bk off cap L (w.alloc (.cells #[.int .u8 ((x.f 0).toNat : Int), .int .u8 ((x.f 1).toNat : Int), .int .u8 ((x.f 2).toNat : Int), .int .u8 ((x.f 3).toNat : Int), .int .u8 ((x.f 4).toNat : Int), .int .u8 ((x.f 5).toNat : Int), .int .u8 ((x.f 6).toNat : Int), .int .u8 ((x.f 7).toNat : Int), .int .i64 ma, .int .i64 he, .int .i64 de, .int .i64 ag, .slice ao L.length cap] 33)) ao hao (HLL.out.after hbx) hn
  rw [hno] at hri
  have HRI := Lib.hid hri
  clear hri hao HLL hno
  generalize w.alloc (.cells #[.int .u8 ((x.f 0).toNat : Int), .int .u8 ((x.f 1).toNat : Int), .int .u8 ((x.f 2).toNat : Int), .int .u8 ((x.f 3).toNat : Int), .int .u8 ((x.f 4).toNat : Int), .int .u8 ((x.f 5).toNat : Int), .int .u8 ((x.f 6).toNat : Int), .int .u8 ((x.f 7).toNat : Int), .int .i64 ma, .int .i64 he, .int .i64 de, .int .i64 ag, .slice ao L.length cap] 33) = w1 at *
  go_wp2_with ((with_reducible refine at_load 33 (.tmp 1) ?_); refine wpList_load_own rfl 33 (.tmp 1) rfl w.heap.size rfl 33 _ _ HX.out Tryz.underlying33 rfl (by kernel_rfl) ?_)
  refine HRI.out.mono ?_
  rintro e w2 ⟨rfl, hb⟩
  have hb2 := hbx.trans (hb.mono hbx.size)
  go_wp2_with fail
  go_ret2
  exact ⟨rfl, hb2⟩
set_option maxRecDepth 20000 in
set_option maxHeartbeats 4000000 in
theorem print_ok (x : Id8) (b : Cf.Br) (hx : b.id = x.l) (hb : Cf.smallB b) (bk off cap : Nat) (psv : List (Cf.Pt × Value)) (w : World) (ao : Option Addr) (hao : ao = some ⟨bk, off, none⟩ ∨ psv.map Cf.pvT = []) (hL : Cf.PIn w bk off (psv.map Cf.pvT)) (hn : psv.length ≤ 10000) (hps : ∀ p ∈ psv.map Prod.fst, p.psk.length = 32 ∧ Cf.small p) (hok : Cf.cOk b (psv.map Prod.fst) = true) :
    Calls Tryz.prog 9 #[.agg #[.int .u8 ((x.f 0).toNat : Int), .int .u8 ((x.f 1).toNat : Int), .int .u8 ((x.f 2).toNat : Int), .int .u8 ((x.f 3).toNat : Int), .int .u8 ((x.f 4).toNat : Int), .int .u8 ((x.f 5).toNat : Int), .int .u8 ((x.f 6).toNat : Int), .int .u8 ((x.f 7).toNat : Int), .int .i64 b.maxAge, .int .i64 b.hello, .int .i64 b.delay, .int .i64 b.ageing, .slice ao psv.length cap]] w fun e w' => e = .returned (.tuple #[.string ⟨(Cf.confText b (psv.map Prod.fst)).toArray⟩, .int .i64 0]) ∧ Below w.heap.size w w' := by
  have HLL := Lib.hid hL
  have HPS := Lib.hid hps
  have HSZ := Lib.hid (Cf.soFar_size hb (by rw [hx]; rfl) hps)
  have HBT := Lib.hid (Cf.br_text b (psv.map Prod.fst))
  have HALL := Lib.hid (Cf.soFar_all b (psv.map Prod.fst))
  rw [List.length_map] at HALL HSZ
  clear hL hps
  go_enter Tryz.func9, Tryz.ntmps9
  go_upto_region 1 with fail
  have HX : Hid (RowIs (w.alloc (.cells #[.int .u8 ((x.f 0).toNat : Int), .int .u8 ((x.f 1).toNat : Int), .int .u8 ((x.f 2).toNat : Int), .int .u8 ((x.f 3).toNat : Int), .int .u8 ((x.f 4).toNat : Int), .int .u8 ((x.f 5).toNat : Int), .int .u8 ((x.f 6).toNat : Int), .int .u8 ((x.f 7).toNat : Int), .int .i64 b.maxAge, .int .i64 b.hello, .int .i64 b.delay, .int .i64 b.ageing, .slice ao psv.length cap] 33)) w.heap.size 33 #[.int .u8 ((x.f 0).toNat : Int), .int .u8 ((x.f 1).toNat : Int), .int .u8 ((x.f 2).toNat : Int), .int .u8 ((x.f 3).toNat : Int), .int .u8 ((x.f 4).toNat : Int), .int .u8 ((x.f 5).toNat : Int), .int .u8 ((x.f 6).toNat : Int), .int .u8 ((x.f 7).toNat : Int), .int .i64 b.maxAge, .int .i64 b.hello, .int .i64 b.delay, .int .i64 b.ageing, .slice ao psv.length cap]) := by show RowIs _ _ _ _; exact rowIs_new w _ _
  have hbx : Below w.heap.size w (w.alloc (.cells #[.int .u8 ((x.f 0).toNat : Int), .int .u8 ((x.f 1).toNat : Int), .int .u8 ((x.f 2).toNat : Int), .int .u8 ((x.f 3).toNat : Int), .int .u8 ((x.f 4).toNat : Int), .int .u8 ((x.f 5).toNat : Int), .int .u8 ((x.f 6).toNat : Int), .int .u8 ((x.f 7).toNat : Int), .int .i64 b.maxAge, .int .i64 b.hello, .int .i64 b.delay, .int .i64 b.ageing, .slice ao psv.length cap] 33)) := (Below.refl _ _).alloc (Nat.le_refl _) _
  have hri := cright_any x b.maxAge b.hello b.delay b.ageing bk off cap (psv.map Cf.pvT) (w.alloc (.cells #[.int .u8 ((x.f 0).toNat : Int), .int .u8 ((x.f 1).toNat : Int), .int .u8 ((x.f 2).toNat : Int), .int .u8 ((x.f 3).toNat : Int), .int .u8 ((x.f 4).toNat : Int), .int .u8 ((x.f 5).toNat : Int), .int .u8 ((x.f 6).toNat : Int), .int .u8 ((x.f 7).toNat : Int), .int .i64 b.maxAge, .int .i64 b.hello, .int .i64 b.delay, .int .i64 b.ageing, .slice ao psv.length cap] 33)) ao hao (HLL.out.after hbx) (by rw [List.length_map]; exact hn)
  rw [Cf.cOk_of, hok, List.length_map] at hri
  have HRI := Lib.hid hri
  have hbz : w.heap.size < (w.alloc (.cells #[.int .u8 ((x.f 0).toNat : Int), .int .u8 ((x.f 1).toNat : Int), .int .u8 ((x.f 2).toNat : Int), .int .u8 ((x.f 3).toNat : Int), .int .u8 ((x.f 4).toNat : Int), .int .u8 ((x.f 5).toNat : Int), .int .u8 ((x.f 6).toNat : Int), .int .u8 ((x.f 7).toNat : Int), .int .i64 b.maxAge, .int .i64 b.hello, .int .i64 b.delay, .int .i64 b.ageing, .slice ao psv.length cap] 33)).heap.size := by simp
  clear hri hok
  generalize w.alloc (.cells #[.int .u8 ((x.f 0).toNat : Int), .int .u8 ((x.f 1).toNat : Int), .int .u8 ((x.f 2).toNat : Int), .int .u8 ((x.f 3).toNat : Int), .int .u8 ((x.f 4).toNat : Int), .int .u8 ((x.f 5).toNat : Int), .int .u8 ((x.f 6).toNat : Int), .int .u8 ((x.f 7).toNat : Int), .int .i64 b.maxAge, .int .i64 b.hello, .int .i64 b.delay, .int .i64 b.ageing, .slice ao psv.length cap] 33) = w1 at *
  go_upto_region 3 with ((with_reducible refine at_load 33 (.tmp 1) ?_); refine wpList_load_own rfl 33 (.tmp 1) rfl w.heap.size rfl 33 _ _ HX.out Tryz.underlying33 rfl (by kernel_rfl) ?_)
  refine HRI.out.mono ?_
  rintro e w2 ⟨rfl, hb1⟩
  have hbW := hbx.trans (hb1.mono hbx.size)
  have HX2 := Lib.hid (HX.out.kept hb1)
  have hbz2 : w.heap.size < w2.heap.size := Nat.lt_of_lt_of_le hbz hb1.size
  clear HRI HX hb1 hbx hbz
  go_upto_region 3 with fail
  have HXX := Lib.hid (fun q : Regrown => hexed_any w.heap.size 0 8 b.id (grow (redrawn w2 q.d) q.os) (fun i hi => by
    have h8 : i < 8 := by rw [hx] at hi; exact hi
    rw [(below_regrown w2 q.d q.os).cell (p := ⟨w.heap.size, 0 + i, none⟩) hbz2, HX2.out.cell (0 + i), Nat.zero_add, hx]
    match i, h8 with
    | 0, _ => rfl
    | 1, _ => rfl
    | 2, _ => rfl
    | 3, _ => rfl
    | 4, _ => rfl
    | 5, _ => rfl
    | 6, _ => rfl
    | 7, _ => rfl) (by have := (below_regrown w2 q.d q.os).size; omega) (by rw [hx]; show 8 ≤ 1000; decide))
  rw [show b.id.length = 8 from by rw [hx]; rfl] at HXX
  obtain ⟨xs, hxs⟩ : ∃ s, (⟨(Cf.hexOf b.id).toArray⟩ : ByteArray) = s := ⟨_, rfl⟩
  have hxz : xs.size = 16 := by rw [← hxs, Cf.hex_size, hx]; rfl
  rw [hxs] at HXX HBT
  obtain ⟨jl, hjl⟩ : ∃ s, (⟨(Lib.join ([b.maxAge, b.hello, b.delay, b.ageing].map Cf.dec) [32]).toArray⟩ : ByteArray) = s := ⟨_, rfl⟩
  have hjs : jl.size ≤ 100 := by rw [← hjl]; exact Cf.four_size b hb
  rw [hjl] at HBT
  have HJ : Hid (∀ u w, Bel w2 w → RowAt w2.heap.size 3 4 #[.int .i64 (b.maxAge : Int), .int .i64 (b.hello : Int), .int .i64 (b.delay : Int), .int .i64 (b.ageing : Int)] w u → Calls Tryz.prog 23 #[.string ⟨#[32]⟩, u] w fun e w' => e = .returned (.string jl) ∧ Bel w w') := fun u w hle ⟨k, hu, hB, hR⟩ => by
    subst hu
    have h := joined_any ⟨#[32]⟩ rfl (some ⟨k, 0, none⟩) 4 [b.maxAge, b.hello, b.delay, b.ageing] w (.inr ⟨k, 0, rfl, fun i hi => by
      match i, hi with
      | 0, _ => exact hR.cell 0
      | 1, _ => exact hR.cell 1
      | 2, _ => exact hR.cell 2
      | 3, _ => exact hR.cell 3⟩) (by show 4 ≤ 100000; decide) (fun n hn => by
      simp at hn
      obtain ⟨g1, g2, g3, g4⟩ := hb
      rcases hn with rfl | rfl | rfl | rfl
      · exact g1
      · exact g2
      · exact g3
      · exact g4)
    refine h.mono ?_
    rintro e w' ⟨he, hb⟩
    exact ⟨by rw [he, ← hjl], hb⟩
  have e8 : w2.cell? ⟨w.heap.size, 8, none⟩ = some (.int .i64 b.maxAge) := HX2.out.cell 8
  have k8 := cell_regrown e8
  have e9 : w2.cell? ⟨w.heap.size, 9, none⟩ = some (.int .i64 b.hello) := HX2.out.cell 9
  have k9 := cell_regrown e9
  have e10 : w2.cell? ⟨w.heap.size, 10, none⟩ = some (.int .i64 b.delay) := HX2.out.cell 10
  have k10 := cell_regrown e10
  have e11 : w2.cell? ⟨w.heap.size, 11, none⟩ = some (.int .i64 b.ageing) := HX2.out.cell 11
  have k11 := cell_regrown e11
  clear hxs hjl e8 e9 e10 e11
  refine wp_region_mix 20 (by kernel_rfl) (by kernel_rfl) (by kernel_rfl) ?_
  (refine mix_step (by kernel_rfl) (by kernel_rfl) (fun K hK => ?_); go_simp; (try (simp only [↓IntWalk.iteOmega]; go_simp)); (first | (refine hK _ ?_; clear hK K) | (apply Exists.intro; refine ⟨fun _ => ?_, hK _ ?_⟩; (first | fail); clear hK K)))
  (refine mix_step (by kernel_rfl) (by kernel_rfl) (fun K hK => ?_); go_simp; (try (simp only [↓IntWalk.iteOmega]; go_simp)); (first | (refine hK _ ?_; clear hK K) | (apply Exists.intro; refine ⟨fun _ => ?_, hK _ ?_⟩; (first | fail); clear hK K)))
  (refine mix_step (by kernel_rfl) (by kernel_rfl) (fun K hK => ?_); go_simp; (try (simp only [↓IntWalk.iteOmega]; go_simp)); (first | (refine hK _ ?_; clear hK K) | (apply Exists.intro; refine ⟨fun _ => ?_, hK _ ?_⟩; (first | exact HXX.out _); clear hK K)))
  (refine mix_step (by kernel_rfl) (by kernel_rfl) (fun K hK => ?_); go_simp; (try (simp only [↓IntWalk.iteOmega]; go_simp)); (first | (refine hK _ ?_; clear hK K) | (apply Exists.intro; refine ⟨fun _ => ?_, hK _ ?_⟩; (first | fail); clear hK K)))
  (refine mix_step (by kernel_rfl) (by kernel_rfl) (fun K hK => ?_); go_simp; (try (simp only [↓IntWalk.iteOmega]; go_simp)); (first | (refine hK _ ?_; clear hK K) | (apply Exists.intro; refine ⟨fun _ => ?_, hK _ ?_⟩; (first | fail); clear hK K)))
  (refine mix_step (by kernel_rfl) (by kernel_rfl) (fun K hK => ?_); go_simp; (try (simp only [↓IntWalk.iteOmega]; go_simp)); (first | (refine hK _ ?_; clear hK K) | (apply Exists.intro; refine ⟨fun _ => ?_, hK _ ?_⟩; (first | fail); clear hK K)))
  (refine mix_step (by kernel_rfl) (by kernel_rfl) (fun K hK => ?_); go_simp; (try (simp only [↓IntWalk.iteOmega]; go_simp)); (first | (refine hK _ ?_; clear hK K) | (apply Exists.intro; refine ⟨fun _ => ?_, hK _ ?_⟩; (first | fail); clear hK K)))
  (refine mix_step (by kernel_rfl) (by kernel_rfl) (fun K hK => ?_); go_simp; (try (simp only [↓IntWalk.iteOmega]; go_simp)); (first | (refine hK _ ?_; clear hK K) | (apply Exists.intro; refine ⟨fun _ => ?_, hK _ ?_⟩; (first | fail); clear hK K)))
  (refine mix_step (by kernel_rfl) (by kernel_rfl) (fun K hK => ?_); go_simp; (try (simp only [↓IntWalk.iteOmega]; go_simp)); (first | (refine hK _ ?_; clear hK K) | (apply Exists.intro; refine ⟨fun _ => ?_, hK _ ?_⟩; (first | fail); clear hK K)))
  (refine mix_step (by kernel_rfl) (by kernel_rfl) (fun K hK => ?_); go_simp; (try (simp only [↓IntWalk.iteOmega]; go_simp)); (first | (refine hK _ ?_; clear hK K) | (apply Exists.intro; refine ⟨fun _ => ?_, hK _ ?_⟩; (first | fail); clear hK K)))
  (refine mix_step (by kernel_rfl) (by kernel_rfl) (fun K hK => ?_); go_simp; (try (simp only [↓IntWalk.iteOmega]; go_simp)); (first | (refine hK _ ?_; clear hK K) | (apply Exists.intro; refine ⟨fun _ => ?_, hK _ ?_⟩; (first | fail); clear hK K)))
  (refine mix_step (by kernel_rfl) (by kernel_rfl) (fun K hK => ?_); go_simp; (try (simp only [↓IntWalk.iteOmega]; go_simp)); (first | (refine hK _ ?_; clear hK K) | (apply Exists.intro; refine ⟨fun _ => ?_, hK _ ?_⟩; (first | fail); clear hK K)))
  (refine mix_step (by kernel_rfl) (by kernel_rfl) (fun K hK => ?_); go_simp; (try (simp only [↓IntWalk.iteOmega]; go_simp)); (first | (refine hK _ ?_; clear hK K) | (apply Exists.intro; refine ⟨fun _ => ?_, hK _ ?_⟩; (first | fail); clear hK K)))
  (refine mix_step (by kernel_rfl) (by kernel_rfl) (fun K hK => ?_); go_simp; (try (simp only [↓IntWalk.iteOmega]; go_simp)); (first | (refine hK _ ?_; clear hK K) | (apply Exists.intro; refine ⟨fun _ => ?_, hK _ ?_⟩; (first | fail); clear hK K)))
  (refine mix_step (by kernel_rfl) (by kernel_rfl) (fun K hK => ?_); go_simp; (try (simp only [↓IntWalk.iteOmega]; go_simp)); (first | (refine hK _ ?_; clear hK K) | (apply Exists.intro; refine ⟨fun _ => ?_, hK _ ?_⟩; (first | fail); clear hK K)))
  (refine mix_step (by kernel_rfl) (by kernel_rfl) (fun K hK => ?_); go_simp; (try (simp only [↓IntWalk.iteOmega]; go_simp)); (first | (refine hK _ ?_; clear hK K) | (apply Exists.intro; refine ⟨fun _ => ?_, hK _ ?_⟩; (first | fail); clear hK K)))
  refine mix_special (RowAt w2.heap.size 3 4 #[.int .i64 (b.maxAge : Int), .int .i64 (b.hello : Int), .int .i64 (b.delay : Int), .int .i64 (b.ageing : Int)]) 26 rfl rfl (stable_row _ _ _ _) (owes_buildSlice (cells := #[.int .i64 (b.maxAge : Int), .int .i64 (b.hello : Int), .int .i64 (b.delay : Int), .int .i64 (b.ageing : Int)]) rfl (by simp) Tryz.underlying47 (sz := 1) (z := .int .i64 0) (by kernel_rfl) (by decide) (by decide) (by kernel_rfl)) ?_
  refine mix_exact (.string jl) rfl (exact_call2 rfl (List.Mem.head _) Tryz.func23 rfl rfl HJ.out) ?_
  (refine mix_step (by kernel_rfl) (by kernel_rfl) (fun K hK => ?_); go_simp; (try (simp only [↓IntWalk.iteOmega]; go_simp)); (first | (refine hK _ ?_; clear hK K) | (apply Exists.intro; refine ⟨fun _ => ?_, hK _ ?_⟩; (first | fail); clear hK K)))
  (refine mix_step (by kernel_rfl) (by kernel_rfl) (fun K hK => ?_); go_simp; (try (simp only [↓IntWalk.iteOmega]; go_simp)); (first | (refine hK _ ?_; clear hK K) | (apply Exists.intro; refine ⟨fun _ => ?_, hK _ ?_⟩; (first | fail); clear hK K)))
  refine mix_nil ?_
  rintro ⟨dq, osq⟩ u26 -
  have hbq := below_regrown w2 dq osq
  have hbW := hbW.trans (hbq.mono hbW.size)
  have HX3 := Lib.hid (HX2.out.kept hbq)
  refine (show wpList _ _ _ _ _ _ from ?_)
  simp only [List.drop, Act.put, List.setIfInBounds_toArray, List.set]
  clear hbq k8 k9 k10 k11 HX2 hbz2 HXX HJ
  generalize grow (redrawn w2 dq) osq = w3 at *
  have c12 : w3.cell? ⟨w.heap.size, 12, none⟩ = some (.slice ao psv.length cap) := HX3.out.cell 12
  rw [← HBT.out]
  go_upto_region 5 with fail
  have HBW := Lib.hid hbW
  clear c12 HX3 hbW HBT
  go_loopw [4, 6, 33] (fun v4 _ i wr => ∃ k : Nat, k ≤ psv.length ∧ i = .int .i64 k ∧ v4 = .string (Cf.soFar b (psv.map Prod.fst) k) ∧ Below w.heap.size w wr) (fun _ _ i _ => psv.length - (RowKit.intOf i).toNat)
  case atStart => exact ⟨0, Nat.zero_le _, rfl, rfl, HBW.out⟩
  case round =>
    rename World => wr
    obtain ⟨k, hk, rfl, rfl, hbr⟩ := hrel
    clear HBW
    have hszr := hbr.size
    have hss := HSZ.out k hk
    by_cases hlt : k < psv.length
    · obtain rfl : ao = some ⟨bk, off, none⟩ := hao.resolve_right (fun e => by have := congrArg List.length e; rw [List.length_map, List.length_nil] at this; omega)
      have HLr := HLL.out.after hbr
      have hlm : k < (psv.map Cf.pvT).length := by rw [List.length_map]; exact hlt
      have HE := Lib.hid (HLr.1 k hlm)
      have hpin := Cf.pv_in hlm
      have hin := HLr.2.2 _ hpin
      obtain ⟨ta, tc, hform⟩ := Cf.pvT_form psv[k]
      have hgd : (psv.map Cf.pvT).getD k .zero = Cf.pvT psv[k] := by
        rw [List.getD_eq_getElem?_getD, List.getElem?_map, List.getElem?_eq_getElem hlt]
        rfl
      have hpt := HPS.out psv[k].1 (List.mem_map.2 ⟨psv[k], List.getElem_mem hlt, rfl⟩)
      have hnx := Cf.soFar_next (b := b) (ps := psv.map Prod.fst) (k := k) (by rw [List.length_map]; exact hlt)
      rw [List.getElem_map] at hnx
      have hz := Cf.pt_size psv[k].1 hpt.1 hpt.2
      rw [hgd] at HE hin
      have hpr := fun (w' : World) (hw : IntsAt w' ta (Cf.ints psv[k].1.tags)) => printed_any psv[k].1 ta tc w' hw hpt.1 hpt.2
      have hii : IntsAt wr ta (Cf.ints psv[k].1.tags) := by have := hin.1; rw [hform] at this; exact this
      have hfc := Cf.pvc_form psv[k].1 ta tc
      rw [← hform] at hfc
      rw [← hfc] at hpr
      have hpl := hin.2.2
      generalize Cf.pvT psv[k] = pv at *
      generalize psv[k].1 = p at *
      obtain ⟨ptx, hptx⟩ : ∃ s, (⟨(Cf.ptText p).toArray⟩ : ByteArray) = s := ⟨_, rfl⟩
      rw [hptx] at hpr hnx hz
      have HPR := Lib.hid hpr
      have HII := Lib.hid hii
      have HPL := Lib.hid hpl
      have HNX := Lib.hid hnx
      obtain ⟨sf, hsf⟩ : ∃ s, Cf.soFar b (psv.map Prod.fst) k = s := ⟨_, rfl⟩
      rw [hsf] at hss HNX ⊢
      have HSF := Lib.hid hsf
      clear hin hpin hform hgd hpt hnx hpr hii hfc hpl hptx hsf hlm HLr
      go_upto_region 7 with (first | ((with_reducible refine at_load 72 (.tmp 35) ?_); refine wpList_load_at rfl 72 (.tmp 35) rfl bk (off + k * 39) rfl (Cf.pvc pv) HE.out _ Tryz.underlying72 rfl (pc_info HPL.out) ?_) | ((with_reducible refine at_alloc 72 ?_); refine wpList_alloc_port rfl 72 Cf.zport rfl zport_is ?_) | ((with_reducible refine at_store 72 (.tmp 6) (.tmp 36) ?_); refine wpList_store_own rfl 72 (.tmp 6) (.tmp 36) rfl wr.heap.size (Cf.pvc pv).toArray rfl rfl 72 _ (rowIs_new wr _ _) (pc_info HPL.out) ?z1 (Cf.pvc_one pv) w.heap.size (by omega) ?_))
      case z1 => simp [Cf.zport, Cf.pvc, byteVals_length, HPL.out, Cf.zeros]
      intro w2 hR hO hs hb
      have R5 := Lib.hid hR
      have hb2 : Below wr.heap.size wr w2 := ((Below.refl _ wr).alloc (Nat.le_refl _) _).trans ⟨hb.os, hb.tape, hb.output, by rw [hs]; simp, fun j hj => hO j (by omega)⟩
      have hbr2 := hbr.trans (hb2.mono hszr)
      have HPC := Lib.hid (HPR.out w2 (HII.out.after hb2))
      clear hR hO hs hb HE HII HPR hb2
      go_wp2_with ((with_reducible refine at_load 72 (.tmp 6) ?_); refine wpList_load_own rfl 72 (.tmp 6) rfl wr.heap.size rfl 72 _ _ R5.out Tryz.underlying72 rfl (pc_info HPL.out) ?_)
      refine HPC.out.mono ?_
      rintro e w3 ⟨rfl, hb3⟩
      have hbr3 := hbr2.trans (hb3.mono hbr2.size)
      clear R5 hb3 hbr hbr2
      go_wp2_with fail
      exact ⟨⟨k + 1, by omega, by go_num, by rw [HNX.out], hbr3⟩, by simp [RowKit.intOf]; omega⟩
    · obtain rfl : k = psv.length := by omega
      rw [HALL.out] at hss ⊢
      go_wp2_with fail
      go_ret2
      exact ⟨rfl, hbr⟩
end Go.Proofs.YthfckdnennfnoaaGreatDoor
-- causeyref23.hex. By an AI agent. 
namespace Go.Proofs.YthfckdnennfnoaaGreatDoor
open Go.RowKit Go.Sort
namespace Cf
theorem digit_cut (n : Nat) (h : n < 16) : (⟨#[48, 49, 50, 51, 52, 53, 54, 55, 56, 57, 97, 98, 99, 100, 101, 102]⟩ : ByteArray).extract n (n + 1) = ⟨#[hexc n]⟩ := by
  have key : ∀ n, n < 16 → (⟨#[48, 49, 50, 51, 52, 53, 54, 55, 56, 57, 97, 98, 99, 100, 101, 102]⟩ : ByteArray).extract n (n + 1) = ⟨#[hexc n]⟩ := by decide
  exact key n h
/-- the digits of the first k bytes -/
def hexTo (l : List UInt8) (k : Nat) : List UInt8 := hexOf (l.take k)
theorem hexTo_len (l : List UInt8) (k : Nat) : (hexTo l k).length ≤ 2 * k := by unfold hexTo; rw [hexOf_len, List.length_take]; omega
end Cf
set_option maxRecDepth 20000 in
set_option maxHeartbeats 4000000 in
theorem rhex_any (s : ByteArray) (hs : s.size ≤ 1000) (w : World) : Calls Tryz.prog 30 #[.string s] w fun e' w' => e' = .returned (.string ⟨(Cf.hexOf s.data.toList).toArray⟩) ∧ Below w.heap.size w w' := by
  have hlz : s.data.toList.length = s.size := by simp
  go_enter Tryz.func30, Tryz.ntmps30
  go_wp2_with fail
  go_loopw [4, 5] (fun s4 s5 wr => ∃ (k : Nat) (tx : ByteArray), k ≤ s.size ∧ s5 = .int .i64 k ∧ s4 = .string tx ∧ Hid (tx.data.toList = Cf.hexTo s.data.toList k) ∧ Hid (Below w.heap.size w wr)) (fun _ s5 _ => s.size - (intOf s5).toNat)
  case atStart => exact ⟨0, _, Nat.zero_le _, rfl, rfl, Lib.hid rfl, Lib.hid (Below.refl _ _)⟩
  case round =>
    rename World => wr
    obtain ⟨k, tx, hk, rfl, rfl, HT, HBR⟩ := hrel
    by_cases hlt : k < s.size
    · have hix : ∀ w, (Instr.index 9 (.string s) (.int .i64 (k : Int))).run Tryz.prog w = .ok (.int .u8 (s[k].toNat : Int)) w := fun w => by
        have h := run_index_string (P := Tryz.prog) (w := w) 9 s .i64 (k : Int) Tryz.underlying9
        rw [h]
        simp [hlt]
      have hts : tx.size ≤ 2000 := by
        have h1 := Cf.hexTo_len s.data.toList k
        rw [← HT.out] at h1
        have h2 : tx.data.toList.length = tx.size := by simp
        omega
      have STEP := Cf.hexOf_next (l := s.data.toList) (k := k) (by omega)
      have hgd : s.data.toList.getD k 0 = s[k] := by
        rw [List.getD_eq_getElem?_getD, List.getElem?_eq_getElem (by omega)]
        simp [ByteArray.getElem_eq_getElem_data]
      rw [hgd] at STEP
      generalize s[k] = x at *
      have hx256 := x.toNat_lt
      obtain ⟨hi, ehi⟩ : ∃ hi, hi = x.toNat / 16 := ⟨_, rfl⟩
      obtain ⟨lo, elo⟩ : ∃ lo, lo = x.toNat % 16 := ⟨_, rfl⟩
      have hw1 : IntKind.i64.wrap (x.toNat : Int) = (x.toNat : Int) := by rw [IntKind.wrap_i64]; omega
      have hw2 : IntKind.i64.wrap ((x.toNat : Int) / 16) = (hi : Int) := by rw [IntKind.wrap_i64]; omega
      have hw3 : ((x.toNat : Int)).tmod 16 = (lo : Int) := by rw [Int.tmod_eq_emod_of_nonneg (by omega)]; omega
      have hi16 : hi < 16 := by omega
      have lo16 : lo < 16 := by omega
      rw [← ehi, ← elo] at STEP
      have STEP := Lib.hid STEP
      clear ehi elo hgd
      go_upto_region 6 with fail
      refine wp_region_quiet_below (by kernel_rfl) (by kernel_rfl) ?_
      repeat (quiet_step (fail))
      refine wpQuiet_nil ?_
      intro _ hw'
      obtain ⟨⟨dq, osdq⟩, hw''⟩ := hw'
      subst hw''
      have b3 := below_regrown wr dq osdq
      generalize grow (redrawn wr dq) osdq = W3 at *
      have HBR := Lib.hid (HBR.out.trans (b3.mono HBR.out.size))
      clear b3 hw1 hw2 hw3 hix
      have hw4 : IntKind.i64.wrap ((hi : Int) + 1) = (hi : Int) + 1 := by rw [IntKind.wrap_i64]; omega
      have hw5 : IntKind.i64.wrap ((lo : Int) + 1) = (lo : Int) + 1 := by rw [IntKind.wrap_i64]; omega
      have cut : ∀ n : Nat, n < 16 → ∀ w, (Instr.slice 9 (.string ⟨#[48, 49, 50, 51, 52, 53, 54, 55, 56, 57, 97, 98, 99, 100, 101, 102]⟩) (some (.int .i64 (n : Int))) (some (.int .i64 ((n : Int) + 1))) none).run Tryz.prog w = .ok (.string ⟨#[Cf.hexc n]⟩) w := fun n hn w => by
        have h := run_slice_string (P := Tryz.prog) (w := w) 9 ⟨#[48, 49, 50, 51, 52, 53, 54, 55, 56, 57, 97, 98, 99, 100, 101, 102]⟩ .i64 .i64 (n : Int) ((n : Int) + 1) Tryz.underlying9 (by omega) (by omega) (by show (n : Int) + 1 ≤ 16; omega)
        have e := Cf.digit_cut n hn
        simpa [e] using h
      have hs1 := cut hi hi16
      have hs2 := cut lo lo16
      clear cut
      obtain ⟨u1, hu1⟩ : ∃ u1 : ByteArray, u1 = ⟨#[Cf.hexc hi]⟩ := ⟨_, rfl⟩
      obtain ⟨u2, hu2⟩ : ∃ u2 : ByteArray, u2 = ⟨#[Cf.hexc lo]⟩ := ⟨_, rfl⟩
      rw [← hu1] at hs1
      rw [← hu2] at hs2
      have z1 : u1.size = 1 := by rw [hu1]; rfl
      have z2 : u2.size = 1 := by rw [hu2]; rfl
      have y1 : ¬ 9223372036854775807 < tx.size + u1.size := by omega
      have y2 : ¬ 9223372036854775807 < tx.size + u1.size + u2.size := by omega
      have HU : Hid ((tx ++ u1 ++ u2).data.toList = Cf.hexTo s.data.toList (k + 1)) := by
        show _ = _
        unfold Cf.hexTo
        rw [STEP.out]
        have := HT.out
        unfold Cf.hexTo at this
        rw [← this, hu1, hu2]
        simp [ByteArray.data_append]
      clear z1 z2 hu1 hu2 STEP hts
      go_upto_region 7 with fail
      refine wp_region_quiet_below (by kernel_rfl) (by kernel_rfl) ?_
      repeat (quiet_step (fail))
      refine wpQuiet_nil ?_
      intro _ hw'
      obtain ⟨⟨dq2, osdq2⟩, hw''⟩ := hw'
      subst hw''
      have b4 := below_regrown W3 dq2 osdq2
      generalize grow (redrawn W3 dq2) osdq2 = W4 at *
      have HBR := Lib.hid (HBR.out.trans (b4.mono HBR.out.size))
      clear b4 hw4 hw5 hs1 hs2 y1 y2
      go_wp2_with fail
      exact ⟨⟨k + 1, _, by omega, by go_num, rfl, HU, HBR⟩, by simp [intOf]; omega⟩
    · obtain rfl : k = s.size := by omega
      go_wp2_with fail
      go_ret
      refine ⟨?_, HBR.out⟩
      have e : tx = ⟨(Cf.hexOf s.data.toList).toArray⟩ := by
        apply ByteArray.ext
        apply Array.toList_inj.1
        rw [HT.out]
        unfold Cf.hexTo
        rw [List.take_of_length_le (by omega)]
      rw [e]
      rfl
end Go.Proofs.YthfckdnennfnoaaGreatDoor
