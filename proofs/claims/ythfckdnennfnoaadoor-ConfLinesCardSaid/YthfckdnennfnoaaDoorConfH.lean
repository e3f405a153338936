/- A configuration's lines, and a line more among them: plain laws; awake. By an AI agent. -/
import Derived.Test.YthfckdnennfnoaaDoorConfG
namespace Go.Proofs.YthfckdnennfnoaaDoor
open Go.RowKit Go.WideShapes Go.Sort Grow
namespace Cf
/-- where the lines end -/
def ends : Nat → List UInt8 → List Nat
  | _, [] => []
  | i, a :: l => if a = 10 then (i + 1) :: ends (i + 1) l else ends (i + 1) l
theorem ends_shift : ∀ (l : List UInt8) (i : Nat), ends i l = (ends 0 l).map (· + i)
  | [], _ => rfl
  | a :: l, i => by
    unfold ends
    rw [ends_shift l (i + 1), ends_shift l (0 + 1)]
    by_cases h : a = 10
    · rw [if_pos h, if_pos h, List.map_cons, List.map_map]
      congr 1
      · omega
      · exact List.map_congr_left fun x _ => by show x + (i + 1) = x + (0 + 1) + i; omega
    · rw [if_neg h, if_neg h, List.map_map]
      exact List.map_congr_left fun x _ => by show x + (i + 1) = x + (0 + 1) + i; omega
theorem lines_nil : ∀ l : List UInt8, lines l = [] → l = []
  | [], _ => rfl
  | a :: l, h => by
    unfold lines at h
    by_cases e : a = 10
    · rw [if_pos e] at h; cases h
    · rw [if_neg e] at h
      cases hl : lines l with
      | nil => rw [hl] at h; cases h
      | cons p ps => rw [hl] at h; cases h
theorem lines_some : ∀ l : List UInt8, ∀ p ∈ lines l, p ≠ []
  | [], p, h => by cases h
  | a :: l, p, h => by
    unfold lines at h
    by_cases e : a = 10
    · rw [if_pos e] at h
      rcases List.mem_cons.1 h with rfl | h
      · simp
      · exact lines_some l p h
    · rw [if_neg e] at h
      cases hl : lines l with
      | nil => rw [hl] at h; simp at h; simp [h]
      | cons q qs =>
        rw [hl] at h
        rcases List.mem_cons.1 h with rfl | h
        · simp
        · exact lines_some l p (by rw [hl]; exact List.mem_cons_of_mem _ h)
theorem ends_count : ∀ (l : List UInt8), (∀ p ∈ lines l, p.getLast? = some 10) → (ends 0 l).length = (lines l).length
  | [], _ => rfl
  | a :: l, h => by
    unfold ends
    rw [ends_shift l (0 + 1)]
    unfold lines at h ⊢
    by_cases e : a = 10
    · rw [if_pos e] at h ⊢
      rw [if_pos e, List.length_cons, List.length_map, List.length_cons, ends_count l (fun p hp => h p (List.mem_cons_of_mem _ hp))]
    · rw [if_neg e] at h ⊢
      rw [if_neg e, List.length_map]
      cases hl : lines l with
      | nil =>
        rw [hl] at h
        have := h [a] (by simp)
        simp at this
        exact absurd this e
      | cons q qs =>
        rw [hl] at h
        rw [ends_count l, hl]
        · rfl
        · intro p hp
          rw [hl] at hp
          rcases List.mem_cons.1 hp with rfl | hp
          · have hne := lines_some l p (by rw [hl]; simp)
            have := h (a :: p) (by simp)
            cases p with
            | nil => exact absurd rfl hne
            | cons b p => rw [List.getLast?_cons_cons] at this; exact this
          · exact h p (by simp [hp])
/-- a line more -/
theorem lines_put : ∀ (l : List UInt8) (k e : Nat), (ends 0 l)[k]? = some e → e ≤ l.length ∧ lines (l.take e ++ ([63, 10] ++ l.drop e)) = (lines l).take (k + 1) ++ ([63, 10] :: (lines l).drop (k + 1))
  | [], k, e, h => by cases h
  | a :: l, k, e, h => by
    unfold ends at h
    rw [ends_shift l (0 + 1)] at h
    by_cases ha : a = 10
    · rw [if_pos ha] at h
      subst ha
      cases k with
      | zero =>
        obtain rfl : 0 + 1 = e := by simpa using h
        refine ⟨by simp, ?_⟩
        show lines (10 :: 63 :: 10 :: l) = _
        have h1 : lines (10 :: l) = [10] :: lines l := by rw [lines, if_pos rfl]
        have h2 : lines (63 :: 10 :: l) = [63, 10] :: lines l := by rw [lines, if_neg (by decide), h1]
        rw [h1, lines, if_pos rfl, h2]
        rfl
      | succ k =>
        rw [List.getElem?_cons_succ, List.getElem?_map] at h
        obtain ⟨e', he', rfl⟩ := Option.map_eq_some_iff.1 h
        obtain ⟨i1, i2⟩ := lines_put l k e' he'
        refine ⟨by simp; omega, ?_⟩
        show lines (10 :: (l.take e' ++ ([63, 10] ++ l.drop e'))) = _
        have h1 : lines (10 :: l) = [10] :: lines l := by rw [lines, if_pos rfl]
        rw [h1, lines, if_pos rfl, i2]
        rfl
    · rw [if_neg ha, List.getElem?_map] at h
      obtain ⟨e', he', rfl⟩ := Option.map_eq_some_iff.1 h
      obtain ⟨i1, i2⟩ := lines_put l k e' he'
      refine ⟨by simp; omega, ?_⟩
      show lines (a :: (l.take e' ++ ([63, 10] ++ l.drop e'))) = _
      rw [lines, if_neg ha, i2, lines, if_neg ha]
      cases hl : lines l with
      | nil =>
        have := lines_nil l hl
        subst this
        cases he'
      | cons p ps => rfl
theorem scan_len (b : Br) : ∀ (L : List ByteArray) (ps : List Pt) (n : Nat) (r : Br × List Pt), scan b ps n L = .inr r → r.1 = b ∧ r.2.length = ps.length + L.length ∧ ∀ l ∈ L, (linePt l).isSome = true
  | [], ps, n, r, h => by
    cases h
    exact ⟨rfl, rfl, fun l hl => by cases hl⟩
  | l :: L, ps, n, r, h => by
    unfold scan at h
    cases hl : linePt l with
    | none => rw [hl] at h; cases h
    | some p =>
      rw [hl] at h
      obtain ⟨h1, h2, h3⟩ := scan_len b L (ps ++ [p]) (n + 1) r h
      refine ⟨h1, by rw [h2]; simp; omega, fun x hx => ?_⟩
      rcases List.mem_cons.1 hx with rfl | hx
      · rw [hl]; rfl
      · exact h3 x hx
theorem scan_put (b : Br) (q : ByteArray) (M : List ByteArray) (hq : linePt q = none) : ∀ (L : List ByteArray) (ps : List Pt) (n j : Nat) (r : Br × List Pt), scan b ps n L = .inr r → j ≤ L.length → scan b ps n (L.take j ++ q :: M) = .inl (n + j + 1)
  | [], ps, n, j, r, h, hj => by
    obtain rfl : j = 0 := by simpa using hj
    show scan b ps n (q :: M) = _
    unfold scan
    rw [hq]
  | l :: L, ps, n, 0, r, h, _ => by
    show scan b ps n (q :: M) = _
    unfold scan
    rw [hq]
  | l :: L, ps, n, j + 1, r, h, hj => by
    show scan b ps n (l :: (L.take j ++ q :: M)) = _
    unfold scan at h ⊢
    cases hl : linePt l with
    | none => rw [hl] at h; cases h
    | some p =>
      rw [hl] at h
      show scan b (ps ++ [p]) (n + 1) (L.take j ++ q :: M) = _
      rw [scan_put b q M hq L (ps ++ [p]) (n + 1) j r h (by simpa using hj)]
      congr 1
      omega
theorem linePt_ended {l : ByteArray} (h : (linePt l).isSome = true) : l.data.toList.getLast? = some 10 := by
  unfold linePt cut at h
  by_cases hc : l.data.toList.getLast? = some 10
  · exact hc
  · rw [if_neg hc] at h; cases h
theorem lineBr_ended {l : ByteArray} (h : (lineBr l).isSome = true) : l.data.toList.getLast? = some 10 := by
  unfold lineBr cut at h
  by_cases hc : l.data.toList.getLast? = some 10
  · exact hc
  · rw [if_neg hc] at h; cases h
/-- a text that is read: its lines' ends are one more than its ports -/
theorem read_ends {s : ByteArray} {r : Br × List Pt} (h : scan0 (linesB s) = .inr r) : (ends 0 s.data.toList).length = r.2.length + 1 ∧ (linesB s).length = r.2.length + 1 := by
  cases hL : linesB s with
  | nil => rw [hL] at h; cases h
  | cons l L =>
    rw [hL, scan0_cons] at h
    cases hl : lineBr l with
    | none => rw [hl] at h; cases h
    | some b =>
      rw [hl] at h
      obtain ⟨_, h2, h3⟩ := scan_len b L [] 1 r h
      have hlen : (linesB s).length = r.2.length + 1 := by rw [hL, h2]; simp
      rw [hL] at hlen
      refine ⟨?_, hlen⟩
      rw [ends_count, ← hlen, ← hL]
      · unfold linesB; rw [List.length_map]
      · intro p hp
        have hm : (⟨p.toArray⟩ : ByteArray) ∈ linesB s := by unfold linesB; exact List.mem_map.2 ⟨p, hp, rfl⟩
        rw [hL] at hm
        rcases List.mem_cons.1 hm with e | hm
        · have := lineBr_ended (l := l) (by rw [hl]; rfl)
          rw [← e] at this
          exact this
        · exact linePt_ended (h3 _ hm)
theorem read_put {s t : ByteArray} {r : Br × List Pt} {k e : Nat} (h : scan0 (linesB s) = .inr r) (hk : (ends 0 s.data.toList)[k]? = some e) (ht : t.data.toList = s.data.toList.take e ++ ([63, 10] ++ s.data.toList.drop e)) : e ≤ s.size ∧ scan0 (linesB t) = .inl (k + 2) := by
  obtain ⟨h1, h2⟩ := lines_put _ _ _ hk
  have hl : s.data.toList.length = s.size := by simp
  refine ⟨by omega, ?_⟩
  have hq : linePt ⟨#[63, 10]⟩ = none := by kernel_rfl
  have hLB : linesB t = (linesB s).take (k + 1) ++ (⟨#[63, 10]⟩ :: (linesB s).drop (k + 1)) := by
    unfold linesB
    rw [ht, h2, List.map_append, List.map_cons, List.map_take, List.map_drop]
  have hkl := (List.getElem?_eq_some_iff.1 hk).1
  obtain ⟨hc, hc2⟩ := read_ends h
  rw [hLB]
  cases hL : linesB s with
  | nil => rw [hL] at h; cases h
  | cons l L =>
    rw [hL, scan0_cons] at h
    rw [hL] at hc2
    show scan0 (l :: (L.take k ++ _)) = _
    rw [scan0_cons]
    cases hl : lineBr l with
    | none => rw [hl] at h; cases h
    | some b =>
      rw [hl] at h
      show scan b [] 1 (L.take k ++ _) = _
      rw [scan_put b _ _ hq L [] 1 k r h (by rw [List.length_cons] at hc2; omega)]
      congr 1
      omega
end Cf
/-- a text that is read: as much as a law sees of it -/
theorem parse_len {s : ByteArray} {b : Cf.Br} {ps : List Cf.Pt} (hs : s.size ≤ 8192) (h : Cf.scan0 (Cf.linesB s) = .inr (b, ps)) (hc : Cf.cOk b ps = true) (w : World) :
    Calls Tryd.prog 6 #[.string s] w fun e w' => (∃ (x : Id8) (ao : Option Addr) (cap : Nat), e = .returned (.tuple #[.agg #[.int .u8 ((x.f 0).toNat : Int), .int .u8 ((x.f 1).toNat : Int), .int .u8 ((x.f 2).toNat : Int), .int .u8 ((x.f 3).toNat : Int), .int .u8 ((x.f 4).toNat : Int), .int .u8 ((x.f 5).toNat : Int), .int .u8 ((x.f 6).toNat : Int), .int .u8 ((x.f 7).toNat : Int), .int .i64 (b.maxAge), .int .i64 (b.hello), .int .i64 (b.delay), .int .i64 (b.ageing), .slice ao ps.length cap], .int .i64 0, .int .i64 0])) ∧ Below w.heap.size w w' := by
  refine (parse_any s hs w).mono ?_
  rintro e w' ⟨ha, hb⟩
  refine ⟨?_, hb⟩
  unfold Cf.ParseAns at ha
  rw [h] at ha
  replace ha : if Cf.cOk b ps = true then ∃ pv psv base, e = .returned (.tuple #[.agg (Cf.bcells b pv), .int .i64 0, .int .i64 0]) ∧ psv.map Prod.fst = ps ∧ w.heap.size ≤ base ∧ Cf.Ports w' base pv psv ∧ b.id.length = 8 else e = .returned (.tuple #[.agg Cf.zconf, .int .i64 0, .int .i64 1]) := ha
  rw [if_pos hc] at ha
  obtain ⟨pv, psv, base, rfl, rfl, _, hp, hid⟩ := ha
  obtain ⟨x, hx⟩ := Cf.id8_of _ hid
  obtain ⟨ao, g, cap, rfl, _⟩ : ∃ (ao : Option Addr) (g cap : Nat), pv = .slice ao psv.length cap ∧ True := by
    rcases hp.1.2 with ⟨rfl, h0⟩ | ⟨g, cap, cur, rfl, _⟩
    · exact ⟨none, 0, 0, by rw [h0], trivial⟩
    · exact ⟨_, g, cap, rfl, trivial⟩
  refine ⟨x, ao, cap, ?_⟩
  rw [Cf.bcells_id hx, List.length_map]
theorem parse_bad {s : ByteArray} {k : Nat} (hs : s.size ≤ 8192) (h : Cf.scan0 (Cf.linesB s) = .inl k) (w : World) :
    Calls Tryd.prog 6 #[.string s] w fun e w' => e = .returned (.tuple #[.agg Cf.zconf, .int .i64 k, .int .i64 11]) ∧ Below w.heap.size w w' := by
  refine (parse_any s hs w).mono ?_
  rintro e w' ⟨ha, hb⟩
  refine ⟨?_, hb⟩
  unfold Cf.ParseAns at ha
  rw [h] at ha
  exact ha
theorem parse_arg {s : ByteArray} {b : Cf.Br} {ps : List Cf.Pt} (hs : s.size ≤ 8192) (h : Cf.scan0 (Cf.linesB s) = .inr (b, ps)) (hc : Cf.cOk b ps = false) (w : World) :
    Calls Tryd.prog 6 #[.string s] w fun e w' => e = .returned (.tuple #[.agg Cf.zconf, .int .i64 0, .int .i64 1]) ∧ Below w.heap.size w w' := by
  refine (parse_any s hs w).mono ?_
  rintro e w' ⟨ha, hb⟩
  refine ⟨?_, hb⟩
  unfold Cf.ParseAns at ha
  rw [h] at ha
  replace ha : if Cf.cOk b ps = true then ∃ pv psv base, e = .returned (.tuple #[.agg (Cf.bcells b pv), .int .i64 0, .int .i64 0]) ∧ psv.map Prod.fst = ps ∧ w.heap.size ≤ base ∧ Cf.Ports w' base pv psv ∧ b.id.length = 8 else e = .returned (.tuple #[.agg Cf.zconf, .int .i64 0, .int .i64 1]) := ha
  rw [if_neg (by rw [hc]; decide)] at ha
  exact ha
namespace Cf
def lit : ByteArray := ⟨#[98, 114, 105, 100, 103, 101, 32, 56, 48, 48, 48, 48, 48, 48, 48, 48, 48, 48, 48, 48, 48, 48, 49, 32, 50, 48, 32, 50, 32, 49, 53, 32, 51, 48, 48, 10, 116, 97, 112, 32, 49, 32, 45, 32, 48, 32, 49, 54, 10]⟩
def litL : List ByteArray := [⟨#[98, 114, 105, 100, 103, 101, 32, 56, 48, 48, 48, 48, 48, 48, 48, 48, 48, 48, 48, 48, 48, 48, 49, 32, 50, 48, 32, 50, 32, 49, 53, 32, 51, 48, 48, 10]⟩, ⟨#[116, 97, 112, 32, 49, 32, 45, 32, 48, 32, 49, 54, 10]⟩]
def litB : Br := ⟨[128, 0, 0, 0, 0, 0, 0, 1], 20, 2, 15, 300⟩
def litP : Pt := ⟨false, 0, false, zeros 32, 1, [], 0, 16⟩
theorem lit_lines : linesB lit = litL := by kernel_rfl
theorem lit_br : lineBr ⟨#[98, 114, 105, 100, 103, 101, 32, 56, 48, 48, 48, 48, 48, 48, 48, 48, 48, 48, 48, 48, 48, 48, 49, 32, 50, 48, 32, 50, 32, 49, 53, 32, 51, 48, 48, 10]⟩ = some litB := by kernel_rfl
theorem lit_pt : linePt ⟨#[116, 97, 112, 32, 49, 32, 45, 32, 48, 32, 49, 54, 10]⟩ = some litP := by kernel_rfl
theorem lit_scan : scan0 (linesB lit) = .inr (litB, [litP]) := by
  rw [lit_lines]
  unfold litL
  rw [scan0_cons, lit_br]
  show scan litB [] 1 [_] = _
  unfold scan
  rw [lit_pt]
  rfl
theorem lit_ok : cOk litB [litP] = true := by kernel_rfl
end Cf
set_option maxRecDepth 20000 in
set_option maxHeartbeats 2000000 in
theorem awake_any (w : World) : Calls Tryd.prog 5 #[] w fun e w' => e = .returned (.bool true) ∧ Below w.heap.size w w' := by
  have hp := parse_len (by show 49 ≤ 8192; decide) Cf.lit_scan Cf.lit_ok w
  have HP : Hid (Calls Tryd.prog 6 #[.string ⟨#[98, 114, 105, 100, 103, 101, 32, 56, 48, 48, 48, 48, 48, 48, 48, 48, 48, 48, 48, 48, 48, 48, 49, 32, 50, 48, 32, 50, 32, 49, 53, 32, 51, 48, 48, 10, 116, 97, 112, 32, 49, 32, 45, 32, 48, 32, 49, 54, 10]⟩] w fun e w' => (∃ (x : Id8) (ao : Option Addr) (cap : Nat), e = .returned (.tuple #[.agg #[.int .u8 ((x.f 0).toNat : Int), .int .u8 ((x.f 1).toNat : Int), .int .u8 ((x.f 2).toNat : Int), .int .u8 ((x.f 3).toNat : Int), .int .u8 ((x.f 4).toNat : Int), .int .u8 ((x.f 5).toNat : Int), .int .u8 ((x.f 6).toNat : Int), .int .u8 ((x.f 7).toNat : Int), .int .i64 (20), .int .i64 (2), .int .i64 (15), .int .i64 (300), .slice ao 1 cap], .int .i64 0, .int .i64 0])) ∧ Below w.heap.size w w') := hp
  clear hp
  go_enter Tryd.func5, Tryd.ntmps5
  go_wp2_with fail
  refine HP.out.mono ?_
  rintro e w1 ⟨⟨x, ao, cap, rfl⟩, hb⟩
  go_wp2_with ((with_reducible refine at_store 29 (.tmp 1) (.tmp 6) ?_); refine wpList_store_own rfl 29 (.tmp 1) (.tmp 6) rfl w1.heap.size #[.int .u8 ((x.f 0).toNat : Int), .int .u8 ((x.f 1).toNat : Int), .int .u8 ((x.f 2).toNat : Int), .int .u8 ((x.f 3).toNat : Int), .int .u8 ((x.f 4).toNat : Int), .int .u8 ((x.f 5).toNat : Int), .int .u8 ((x.f 6).toNat : Int), .int .u8 ((x.f 7).toNat : Int), .int .i64 (20), .int .i64 (2), .int .i64 (15), .int .i64 (300), .slice ao 1 cap] rfl rfl 29 _ (rowIs_new w1 _ _) Cf.info_conf rfl (by simp [Value.oneCell']) w1.heap.size (Nat.le_refl _) ?_)
  intro w2 hR _ _ hb2
  have c12 : w2.cell? ⟨w1.heap.size, 12, none⟩ = some (.slice ao 1 cap) := hR.cell 12
  have c11 : w2.cell? ⟨w1.heap.size, 11, none⟩ = some (.int .i64 300) := hR.cell 11
  have hb3 := hb.trans ((((Below.refl _ w1).alloc (Nat.le_refl _) _).trans hb2).mono hb.size)
  clear hR hb2
  go_wp2_with fail
  go_ret
  exact ⟨rfl, hb3⟩
end Go.Proofs.YthfckdnennfnoaaDoor
