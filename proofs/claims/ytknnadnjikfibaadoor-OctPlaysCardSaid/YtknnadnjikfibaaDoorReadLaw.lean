/- What is laid is read as it was; what is read is what is laid. Plain laws; then the two readers over laid texts. By an AI agent. -/
import Derived.Test.YtknnadnjikfibaaDoorReadIp
import Derived.Test.YtknnadnjikfibaaDoorOctLaws
namespace Go.Proofs.YtknnadnjikfibaaDoor
open Go.RowKit

namespace Oct
theorem parts_end {c : UInt8} : ∀ {l : List UInt8}, c ∉ l → parts c l = [l]
  | [], _ => rfl
  | a :: l, h => by
    rw [List.mem_cons, not_or] at h
    rw [parts, if_neg (fun e => h.1 e.symm), parts_end h.2]
theorem parts_cut {c : UInt8} {r : List UInt8} : ∀ {l : List UInt8}, c ∉ l → parts c (l ++ c :: r) = l :: parts c r
  | [], _ => by rw [List.nil_append, parts, if_pos rfl]
  | a :: l, h => by
    rw [List.mem_cons, not_or] at h
    rw [List.cons_append, parts, if_neg (fun e => h.1 e.symm), parts_cut h.2]
def glue (c : UInt8) : List (List UInt8) → List UInt8
  | [] => []
  | [p] => p
  | p :: q :: ps => p ++ c :: glue c (q :: ps)
theorem glue_parts (c : UInt8) : ∀ l : List UInt8, parts c l ≠ [] ∧ glue c (parts c l) = l
  | [] => ⟨by simp [parts], rfl⟩
  | a :: l => by
    obtain ⟨h1, h2⟩ := glue_parts c l
    by_cases e : a = c
    · rw [parts, if_pos e]
      refine ⟨by simp, ?_⟩
      match hp : parts c l with
      | [] => exact absurd hp h1
      | q :: ps =>
        rw [hp] at h2
        rw [glue, h2, e]
        rfl
    · rw [parts, if_neg e]
      match hp : parts c l with
      | [] => exact absurd hp h1
      | [q] =>
        rw [hp] at h2
        refine ⟨by simp, ?_⟩
        show a :: q = a :: l
        rw [← h2]
        rfl
      | q :: q2 :: ps =>
        rw [hp] at h2
        refine ⟨by simp, ?_⟩
        show (a :: q) ++ c :: glue c (q2 :: ps) = a :: l
        rw [← h2]
        rfl
theorem hexv_hexd : ∀ n, n < 16 → hexv (hexd n) = (n : Int) := by decide
theorem hexd_58 : ∀ n, n < 16 → hexd n ≠ 58 := by decide
set_option maxRecDepth 20000 in
theorem hexd_hexv8 : ∀ n, n < 256 → 0 ≤ hexv (UInt8.ofNat n) → hexd (hexv (UInt8.ofNat n)).toNat = UInt8.ofNat n := by decide
theorem hexd_hexv (b : UInt8) (h : 0 ≤ hexv b) : hexd (hexv b).toNat = b := by
  have := hexd_hexv8 b.toNat b.toNat_lt
  rw [UInt8.ofNat_toNat] at this
  exact this h
theorem pairOf_hex (a : UInt8) : pairOf (hex2 a) = some a.toNat := by
  have ha := a.toNat_lt
  have h1 := hexv_hexd (a.toNat / 16) (by omega)
  have h2 := hexv_hexd (a.toNat % 16) (by omega)
  show (if 0 ≤ hexv (hexd (a.toNat / 16)) ∧ 0 ≤ hexv (hexd (a.toNat % 16)) then some (16 * (hexv (hexd (a.toNat / 16))).toNat + (hexv (hexd (a.toNat % 16))).toNat) else none) = _
  rw [h1, h2, if_pos ⟨by omega, by omega⟩]
  simp only [Int.toNat_natCast, Option.some.injEq]
  omega
theorem pairOf_of {l : List UInt8} {v : Nat} (h : pairOf l = some v) : ∃ a : UInt8, v = a.toNat ∧ l = hex2 a := by
  match l, h with
  | [x, y], h =>
    have h : (if 0 ≤ hexv x ∧ 0 ≤ hexv y then some (16 * (hexv x).toNat + (hexv y).toNat) else none) = some v := h
    have h1 := hexv_bd x
    have h2 := hexv_bd y
    by_cases hc : 0 ≤ hexv x ∧ 0 ≤ hexv y
    · rw [if_pos hc] at h
      have h := Option.some.inj h
      have e : (UInt8.ofNat v).toNat = v := by rw [UInt8.toNat_ofNat']; omega
      refine ⟨UInt8.ofNat v, e.symm, ?_⟩
      unfold hex2
      rw [e, show v / 16 = (hexv x).toNat by omega, show v % 16 = (hexv y).toNat by omega, hexd_hexv x hc.1, hexd_hexv y hc.2]
    · rw [if_neg hc] at h
      cases h
theorem numP_dec (a : UInt8) : numP (dec8 a.toNat) = some a.toNat := by
  have ha := a.toNat_lt
  have h := numOf_decF 2 a.toNat (by omega)
  have h : numOf (dec8 a.toNat) = a.toNat := h
  unfold numP
  rw [h, if_pos ⟨ha, rfl⟩]
theorem numP_of {l : List UInt8} {v : Nat} (h : numP l = some v) : ∃ a : UInt8, v = a.toNat ∧ l = dec8 a.toNat := by
  unfold numP at h
  by_cases hc : numOf l < 256 ∧ dec8 (numOf l) = l
  · rw [if_pos hc] at h
    have h := Option.some.inj h
    have e : (UInt8.ofNat v).toNat = v := by rw [UInt8.toNat_ofNat']; omega
    refine ⟨UInt8.ofNat v, e.symm, ?_⟩
    rw [e, ← h, hc.2]
  · rw [if_neg hc] at h
    cases h
theorem reads_list {f : List UInt8 → Option Nat} {c : UInt8} {s : ByteArray} {vals : List Nat} : reads f (pieces c s) vals ↔ (parts c s.data.toList).map f = vals.map some := by
  unfold reads pieces
  rw [List.map_map]
  rfl
theorem reads_all {f : List UInt8 → Option Nat} {g : UInt8 → List UInt8} (hfg : ∀ l v, f l = some v → ∃ a : UInt8, v = a.toNat ∧ l = g a) : ∀ {ps : List (List UInt8)} {vals : List Nat}, ps.map f = vals.map some → ∃ us : List UInt8, vals = us.map (·.toNat) ∧ ps = us.map g
  | [], [], _ => ⟨[], rfl, rfl⟩
  | [], _ :: _, h => by simp at h
  | _ :: _, [], h => by simp at h
  | p :: ps, v :: vs, h => by
    simp only [List.map_cons, List.cons.injEq] at h
    obtain ⟨a, rfl, rfl⟩ := hfg _ _ h.1
    obtain ⟨us, rfl, rfl⟩ := reads_all hfg h.2
    exact ⟨a :: us, rfl, rfl⟩
theorem reads_one {f : List UInt8 → Option Nat} {ps : List ByteArray} {v1 v2 : List Nat} (h1 : reads f ps v1) (h2 : reads f ps v2) : v1 = v2 := by
  unfold reads at h1 h2
  rw [h1] at h2
  have h3 := congrArg (List.map (fun o : Option Nat => o.getD 0)) h2
  have h4 : ∀ l : List Nat, (l.map some).map (fun o : Option Nat => o.getD 0) = l := fun l => by
    induction l with
    | nil => rfl
    | cons a l ih => simp only [List.map_cons, ih, Option.getD_some]
  rwa [h4, h4] at h3
theorem no58 (a : UInt8) : (58 : UInt8) ∉ hex2 a := by
  have ha := a.toNat_lt
  unfold hex2
  simp only [List.mem_cons, List.not_mem_nil, or_false, not_or]
  exact ⟨fun h => hexd_58 _ (by omega) h.symm, fun h => hexd_58 _ (by omega) h.symm⟩
theorem no46 (a : UInt8) : (46 : UInt8) ∉ dec8 a.toNat := fun h => by
  have := (decF_digits 2 a.toNat 46 h).1
  exact absurd this (by decide)
theorem macText_six (a b c d e f : UInt8) : macText [a, b, c, d, e, f] = hex2 a ++ 58 :: (hex2 b ++ 58 :: (hex2 c ++ 58 :: (hex2 d ++ 58 :: (hex2 e ++ 58 :: hex2 f)))) := rfl
theorem reads_mac (a b c d e f : UInt8) : Reads 58 pairOf 6 ⟨(macText [a, b, c, d, e, f]).toArray⟩ [a.toNat, b.toNat, c.toNat, d.toNat, e.toNat, f.toNat] := by
  refine ⟨rfl, reads_list.2 ?_⟩
  rw [macText_six, List.toList_toArray, parts_cut (no58 a), parts_cut (no58 b), parts_cut (no58 c), parts_cut (no58 d), parts_cut (no58 e), parts_end (no58 f)]
  simp only [List.map_cons, List.map_nil, pairOf_hex]
theorem reads_ip (a b c d : UInt8) : Reads 46 numP 4 ⟨(ipText a b c d).toArray⟩ [a.toNat, b.toNat, c.toNat, d.toNat] := by
  refine ⟨rfl, reads_list.2 ?_⟩
  rw [ipText, List.toList_toArray, parts_cut (no46 a), parts_cut (no46 b), parts_cut (no46 c), parts_end (no46 d)]
  simp only [List.map_cons, List.map_nil, numP_dec]
theorem mac_of {s : ByteArray} {vals : List Nat} (h : Reads 58 pairOf 6 s vals) : ∃ a b c d e f : UInt8, vals = [a.toNat, b.toNat, c.toNat, d.toNat, e.toNat, f.toNat] ∧ s.data.toList = macText [a, b, c, d, e, f] := by
  obtain ⟨us, h1, h2⟩ := reads_all (fun l v => pairOf_of) (reads_list.1 h.2)
  have h3 := h.1
  rw [h1, List.length_map] at h3
  match us, h3, h1, h2 with
  | [a, b, c, d, e, f], _, h1, h2 =>
    refine ⟨a, b, c, d, e, f, h1, ?_⟩
    rw [← (glue_parts 58 s.data.toList).2, h2]
    rfl
theorem ip_of {s : ByteArray} {vals : List Nat} (h : Reads 46 numP 4 s vals) : ∃ a b c d : UInt8, vals = [a.toNat, b.toNat, c.toNat, d.toNat] ∧ s.data.toList = ipText a b c d := by
  obtain ⟨us, h1, h2⟩ := reads_all (g := fun a => dec8 a.toNat) (fun l v => numP_of) (reads_list.1 h.2)
  have h3 := h.1
  rw [h1, List.length_map] at h3
  match us, h3, h1, h2 with
  | [a, b, c, d], _, h1, h2 =>
    refine ⟨a, b, c, d, h1, ?_⟩
    rw [← (glue_parts 46 s.data.toList).2, h2]
    rfl
end Oct

/-- what ReadMac answers: an address whose text it is, or none -/
theorem macAns_two {s : ByteArray} {e : Ending} (h : MacAns s e) : (∃ a b c d x y : UInt8, s.data.toList = Oct.macText [a, b, c, d, x, y] ∧ e = .returned (.tuple #[.agg #[.int .u8 (a.toNat : Int), .int .u8 (b.toNat : Int), .int .u8 (c.toNat : Int), .int .u8 (d.toNat : Int), .int .u8 (x.toNat : Int), .int .u8 (y.toNat : Int)], .int .i64 0])) ∨
    ((∀ a b c d x y : UInt8, s.data.toList ≠ Oct.macText [a, b, c, d, x, y]) ∧ e = .returned (.tuple #[.agg #[.int .u8 0, .int .u8 0, .int .u8 0, .int .u8 0, .int .u8 0, .int .u8 0], .int .i64 3])) := by
  rcases h with ⟨vals, hr, rfl⟩ | ⟨hno, rfl⟩
  · obtain ⟨a, b, c, d, x, y, rfl, hs⟩ := Oct.mac_of hr
    exact .inl ⟨a, b, c, d, x, y, hs, rfl⟩
  · refine .inr ⟨fun a b c d x y hs => hno _ (?_ : Oct.Reads 58 Oct.pairOf 6 s [a.toNat, b.toNat, c.toNat, d.toNat, x.toNat, y.toNat]), rfl⟩
    have e : s = ⟨(Oct.macText [a, b, c, d, x, y]).toArray⟩ := by
      apply ByteArray.ext
      apply Array.toList_inj.1
      rw [hs]
    rw [e]
    exact Oct.reads_mac a b c d x y
theorem ipAns_two {s : ByteArray} {e : Ending} (h : IpAns s e) : (∃ a b c d : UInt8, s.data.toList = Oct.ipText a b c d ∧ e = .returned (.tuple #[.agg #[.int .u8 (a.toNat : Int), .int .u8 (b.toNat : Int), .int .u8 (c.toNat : Int), .int .u8 (d.toNat : Int)], .int .i64 0])) ∨
    ((∀ a b c d : UInt8, s.data.toList ≠ Oct.ipText a b c d) ∧ e = .returned (.tuple #[.agg #[.int .u8 0, .int .u8 0, .int .u8 0, .int .u8 0], .int .i64 3])) := by
  rcases h with ⟨vals, hr, rfl⟩ | ⟨hno, rfl⟩
  · obtain ⟨a, b, c, d, rfl, hs⟩ := Oct.ip_of hr
    exact .inl ⟨a, b, c, d, hs, rfl⟩
  · refine .inr ⟨fun a b c d hs => hno _ (?_ : Oct.Reads 46 Oct.numP 4 s [a.toNat, b.toNat, c.toNat, d.toNat]), rfl⟩
    have e : s = ⟨(Oct.ipText a b c d).toArray⟩ := by
      apply ByteArray.ext
      apply Array.toList_inj.1
      rw [hs]
    rw [e]
    exact Oct.reads_ip a b c d
theorem macText_inj6 {a b c d x y a' b' c' d' x' y' : UInt8} (h : Oct.macText [a, b, c, d, x, y] = Oct.macText [a', b', c', d', x', y']) : [a, b, c, d, x, y] = [a', b', c', d', x', y'] := Oct.macText_inj _ _ (by simp) (by simp) h
/-- what is laid is read -/
theorem readMac_laid (a b c d x y : UInt8) (w : World) : Calls Tryd.prog 7 #[.string ⟨(Oct.macText [a, b, c, d, x, y]).toArray⟩] w fun e w' => e = .returned (.tuple #[.agg #[.int .u8 (a.toNat : Int), .int .u8 (b.toNat : Int), .int .u8 (c.toNat : Int), .int .u8 (d.toNat : Int), .int .u8 (x.toNat : Int), .int .u8 (y.toNat : Int)], .int .i64 0]) ∧ Below w.heap.size w w' := by
  have hz : (⟨(Oct.macText [a, b, c, d, x, y]).toArray⟩ : ByteArray).size ≤ 100000 := by
    have := Oct.macText_length [a, b, c, d, x, y]
    show (Oct.macText [a, b, c, d, x, y]).toArray.size ≤ _
    rw [List.size_toArray, this]
    show 3 * 6 - 1 ≤ 100000
    decide
  refine (readMac_any _ hz w).mono ?_
  rintro e w' ⟨h, hb⟩
  refine ⟨?_, hb⟩
  rcases macAns_two h with ⟨a', b', c', d', x', y', hs, rfl⟩ | ⟨hno, _⟩
  · have := macText_inj6 hs
    simp only [List.cons.injEq, and_true] at this
    obtain ⟨rfl, rfl, rfl, rfl, rfl, rfl⟩ := this
    rfl
  · exact absurd rfl (hno a b c d x y)
theorem readIp_laid (a b c d : UInt8) (w : World) : Calls Tryd.prog 8 #[.string ⟨(Oct.ipText a b c d).toArray⟩] w fun e w' => e = .returned (.tuple #[.agg #[.int .u8 (a.toNat : Int), .int .u8 (b.toNat : Int), .int .u8 (c.toNat : Int), .int .u8 (d.toNat : Int)], .int .i64 0]) ∧ Below w.heap.size w w' := by
  have hz : (⟨(Oct.ipText a b c d).toArray⟩ : ByteArray).size ≤ 100000 := by
    have := Oct.ipText_length a b c d
    show (Oct.ipText a b c d).toArray.size ≤ _
    rw [List.size_toArray]
    omega
  refine (readIp_any _ hz w).mono ?_
  rintro e w' ⟨h, hb⟩
  refine ⟨?_, hb⟩
  rcases ipAns_two h with ⟨a', b', c', d', hs, rfl⟩ | ⟨hno, _⟩
  · obtain ⟨rfl, rfl, rfl, rfl⟩ := Oct.ipText_inj _ _ _ _ _ _ _ _ hs
    rfl
  · exact absurd rfl (hno a b c d)
end Go.Proofs.YtknnadnjikfibaaDoor
