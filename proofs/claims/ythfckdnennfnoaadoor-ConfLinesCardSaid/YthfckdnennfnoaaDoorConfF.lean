/- conf.Parse: what it answers. By an AI agent. -/
import Derived.Test.YthfckdnennfnoaaDoorConfE
import Derived.Test.YthfckdnennfnoaaDoorConfA
import Derived.Test.YthfckdnennfnoaaDoorConfB
namespace Go.Proofs.YthfckdnennfnoaaDoor
open Go.RowKit Go.WideShapes Go.Sort Grow
theorem flat_getIn {α : Type} {enc : α → List Value} {k : Nat} : ∀ (ds : List α), (∀ a ∈ ds, (enc a).length = k) → ∀ (i j : Nat) (hi : i < ds.length), j < k → (ds.flatMap enc)[i * k + j]? = (enc ds[i])[j]?
  | [], _, i, j, hi, _ => absurd hi (Nat.not_lt_zero _)
  | d :: ds, hk, 0, j, _, hj => by
    rw [List.flatMap_cons, Nat.zero_mul, Nat.zero_add, List.getElem?_append_left (by rw [hk d (by simp)]; exact hj)]
    rfl
  | d :: ds, hk, i + 1, j, hi, hj => by
    have e : (i + 1) * k + j = (enc d).length + (i * k + j) := by rw [hk d (by simp), Nat.succ_mul]; omega
    rw [List.flatMap_cons, e, List.getElem?_append_right (by omega), Nat.add_sub_cancel_left, flat_getIn ds (fun a ha => hk a (by simp [ha])) i j (by simpa using hi) hj]
    rfl

namespace Cf
def zconf : Array Value := #[.int .u8 0, .int .u8 0, .int .u8 0, .int .u8 0, .int .u8 0, .int .u8 0, .int .u8 0, .int .u8 0, .int .i64 0, .int .i64 0, .int .i64 0, .int .i64 0, .slice none 0 0]
/-- the lines behind the first, read one by one; a number: that line can't be read -/
def scan (b : Br) : List Pt → Nat → List ByteArray → Nat ⊕ (Br × List Pt)
  | ps, _, [] => .inr (b, ps)
  | ps, k, l :: ls => match linePt l with
    | none => .inl (k + 1)
    | some p => scan b (ps ++ [p]) (k + 1) ls
def scan0 : List ByteArray → Nat ⊕ (Br × List Pt)
  | [] => .inl 1
  | l :: ls => match lineBr l with
    | none => .inl 1
    | some b => scan b [] 1 ls
def pv0 (p : Pt) : Pv := ⟨p.native, none, ints p.tags, 0, p.horizon, p.limit, p.link, p.rate, p.greets, p.psk⟩
def cOk (b : Br) (ps : List Pt) : Bool := confOk (ps.map pv0) b.ageing b.maxAge b.hello b.delay
def Pv.bare (p : Pv) : Pv := { p with ta := none, tc := 0 }
theorem confOk_bare (L : List Pv) (ag ma he de : Int) : confOk (L.map Pv.bare) ag ma he de = confOk L ag ma he de := by
  unfold confOk relayOk lims
  simp only [List.all_map, List.map_map, List.length_map]
  rfl
/-- a port with its tags in memory -/
def pvT (q : Pt × Value) : Pv := match q.2 with
  | .slice ta _ tc => ⟨q.1.native, ta, ints q.1.tags, tc, q.1.horizon, q.1.limit, q.1.link, q.1.rate, q.1.greets, q.1.psk⟩
  | _ => pv0 q.1
theorem pvT_bare (q : Pt × Value) : (pvT q).bare = pv0 q.1 := by
  unfold pvT
  split <;> rfl
theorem cOk_of (b : Br) (psv : List (Pt × Value)) : confOk (psv.map pvT) b.ageing b.maxAge b.hello b.delay = cOk b (psv.map Prod.fst) := by
  unfold cOk
  rw [← confOk_bare, List.map_map, List.map_map]
  congr 1
  exact List.map_congr_left fun q _ => pvT_bare q
theorem ints_len (l : List Nat) : (ints l).length = l.length := by unfold ints; rw [List.length_map]
theorem pvT_cells {w : World} {base : Nat} {q : Pt × Value} (h : OutInts w base q.2 (ints q.1.tags)) : pvc (pvT q) = (pcells q.1 q.2).toList ∧ IntsAt w (pvT q).ta (pvT q).tags := by
  obtain ⟨p, v⟩ := q
  obtain ⟨ao, cap, hv, hi⟩ := outInts_form h
  simp only at hv
  subst hv
  exact ⟨rfl, hi⟩
/-- the ports that there are, as Right takes them -/
theorem pin_of {w : World} {base : Nat} {pv : Value} {psv : List (Pt × Value)} (h : Ports w base pv psv) (hn : ∀ q ∈ psv, q.1.tags.length ≤ 1000000) : ∃ ao b off cap, pv = .slice ao (psv.map pvT).length cap ∧ (ao = some ⟨b, off, none⟩ ∨ psv.map pvT = []) ∧ PIn w b off (psv.map pvT) := by
  have hP : ∀ p ∈ psv.map pvT, IntsAt w p.ta p.tags ∧ p.tags.length ≤ 1000000 ∧ p.psk.length = 32 := fun p hp => by
    obtain ⟨q, hq, rfl⟩ := List.mem_map.1 hp
    obtain ⟨h1, h2⟩ := h.2 q hq
    have h3 := (pvT_cells h1).2
    refine ⟨h3, ?_, ?_⟩
    · have : (pvT q).tags = ints q.1.tags := by unfold pvT; split <;> rfl
      rw [this, ints_len]
      exact hn q hq
    · have : (pvT q).psk = q.1.psk := by unfold pvT; split <;> rfl
      rw [this]
      exact h2
  rcases h.1.2 with ⟨rfl, h0⟩ | ⟨g, cap, cur, rfl, hb, hc, _⟩
  · have hn : psv = [] := List.length_eq_zero_iff.1 h0
    subst hn
    exact ⟨none, 0, 0, 0, rfl, .inr rfl, fun i hi => absurd hi (Nat.not_lt_zero _), fun h => absurd h (Nat.lt_irrefl _), fun p hp => (by cases hp)⟩
  · refine ⟨some ⟨g, 0, none⟩, g, 0, cap, by rw [List.length_map], .inl rfl, fun i hi j v hj => ?_, fun _ => (Array.getElem?_eq_some_iff.1 hc).1, hP⟩
    rw [List.length_map] at hi
    have hm := List.getElem_mem hi
    obtain ⟨h1, h2⟩ := h.2 _ hm
    have he := (pvT_cells h1).1
    have hlen : ∀ q ∈ psv, (pcells q.1 q.2).toList.length = 39 := fun q hq => by
      have := (h.2 q hq).2
      simp [pcells, byteVals_length, this]
    have hg : (psv.map pvT).getD i .zero = pvT psv[i] := by
      rw [List.getD_eq_getElem?_getD, List.getElem?_map, List.getElem?_eq_getElem hi]
      rfl
    rw [hg, he] at hj
    have hj39 : j < 39 := by
      have := (List.getElem?_eq_some_iff.1 hj).1
      rwa [hlen _ hm] at this
    rw [World.ownsRow.cellAt h.1 (0 + i * 39 + j) (by omega), Nat.zero_add]
    have e := flat_getIn (enc := fun q : Pt × Value => (pcells q.1 q.2).toList) (k := 39) psv hlen i j hi hj39
    exact e.trans hj
/-- what a text is parsed as -/
def ParseAns (s : ByteArray) (B : Nat) (e : Ending) (w : World) : Prop := match scan0 (linesB s) with
  | .inl k => e = .returned (.tuple #[.agg zconf, .int .i64 k, .int .i64 11])
  | .inr (b, ps) => if cOk b ps = true then ∃ pv psv base, e = .returned (.tuple #[.agg (bcells b pv), .int .i64 0, .int .i64 0]) ∧ psv.map Prod.fst = ps ∧ B ≤ base ∧ Ports w base pv psv ∧ b.id.length = 8 else e = .returned (.tuple #[.agg zconf, .int .i64 0, .int .i64 1])
theorem parseAns_bad {s : ByteArray} {B k : Nat} {w : World} (h : scan0 (linesB s) = .inl k) : ParseAns s B (.returned (.tuple #[.agg zconf, .int .i64 k, .int .i64 11])) w := by unfold ParseAns; rw [h]
theorem parseAns_arg {s : ByteArray} {B : Nat} {w : World} {b : Br} {ps : List Pt} (h : scan0 (linesB s) = .inr (b, ps)) (hc : cOk b ps = false) : ParseAns s B (.returned (.tuple #[.agg zconf, .int .i64 0, .int .i64 1])) w := by
  unfold ParseAns
  rw [h]
  show if cOk b ps = true then _ else _
  rw [if_neg (by rw [hc]; decide)]
theorem parseAns_good {s : ByteArray} {B base : Nat} {w : World} {b : Br} {pv : Value} {psv : List (Pt × Value)} (h : scan0 (linesB s) = .inr (b, psv.map Prod.fst)) (hc : cOk b (psv.map Prod.fst) = true) (hB : B ≤ base) (hp : Ports w base pv psv) (hi : b.id.length = 8) : ParseAns s B (.returned (.tuple #[.agg (bcells b pv), .int .i64 0, .int .i64 0])) w := by
  unfold ParseAns
  rw [h]
  show if cOk b _ = true then _ else _
  rw [if_pos hc]
  exact ⟨pv, psv, base, rfl, rfl, hB, hp, hi⟩
theorem lineBr_id {s : ByteArray} {b : Br} (h : lineBr s = some b) : b.id.length = 8 := by
  unfold lineBr at h
  cases hc : cut s with
  | none => rw [hc] at h; cases h
  | some t =>
    rw [hc] at h
    have h : bridgeOf (lists (Oct.pieces 32 t)) = some b := h
    by_cases hl : (Oct.pieces 32 t).length = 6
    · rw [bridge_is hl] at h
      by_cases hw : part (Oct.pieces 32 t) 0 = wBridge
      · rw [if_pos hw] at h
        cases h1 : bytesOf (part (Oct.pieces 32 t) 1) 8 with
        | none => rw [h1] at h; cases h
        | some i =>
          have hi := bytesOf_length h1
          rw [h1] at h
          cases h2 : numOf (part (Oct.pieces 32 t) 2) <;> cases h3 : numOf (part (Oct.pieces 32 t) 3) <;> cases h4 : numOf (part (Oct.pieces 32 t) 4) <;> cases h5 : numOf (part (Oct.pieces 32 t) 5) <;> rw [h2, h3, h4, h5] at h <;> first | (cases h; done) | (obtain rfl := Option.some.inj h; exact hi)
      · rw [if_neg hw] at h; cases h
    · rw [bridge_len hl] at h; cases h
theorem id8_of (l : List UInt8) (h : l.length = 8) : ∃ x : Id8, l = x.l := by
  match l, h with
  | [a, b, c, d, e, f, g, i], _ => exact ⟨⟨a, b, c, d, e, f, g, i⟩, rfl⟩
end Cf
end Go.Proofs.YthfckdnennfnoaaDoor
