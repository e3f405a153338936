/- The walk of TunPieces. By an AI agent. -/
import Derived.Test.YtmipdbmmhoacpaaPieces
import Derived.Test.YtmipdbmmhoacpaaTunAwake
namespace Go.Proofs.Ytmipdbmmhoacpaa
open Go.RowKit Go.Sort Grow

theorem held_any (B J : Nat) (L : List Ab) (w : World) (h : JIs B J w L) :
    Calls Try.prog 18 #[.pointer (some ⟨J, 0, none⟩)] w fun e w' => e = .returned (.int .i64 (L.length : Nat)) ∧ w = w' := by
  obtain ⟨l, ⟨ord, mv, hJ, hBJ, hown, _⟩, rfl⟩ := h
  have hlen : ∀ (w : World) (ty : TypeId), (Builtin.len_ #[45] ty #[ord]).run Try.prog w = .ok (.int .i64 ((l.map Tx.ab).length : Nat)) w := fun w ty => by
    rw [List.length_map]
    rcases hown.2 with ⟨rfl, h0⟩ | ⟨g, cap, cur, rfl, _⟩
    · rw [h0]; rfl
    · rfl
  have c0 : w.cell? ⟨J, 0, none⟩ = some ord := hJ.cell 0
  clear hown hJ
  generalize (l.map Tx.ab).length = m at *
  go_enter Try.func18, Try.ntmps18
  go_wp2_with fail
  go_ret
  exact ⟨rfl, rfl⟩

namespace Tun
/-- the places, turned -/
def at' (c q i : Nat) : Nat := (i + q) % c

theorem fore_ok (c q : Nat) (h1 : 1 ≤ c) (h3 : c ≤ 3) : ∀ i, i < c → at' c q i < c ∧ ∀ j, j < i → at' c q j ≠ at' c q i := by
  intro i hi
  refine ⟨Nat.mod_lt _ (by omega), fun j hj => ?_⟩
  unfold at'
  have : c = 1 ∨ c = 2 ∨ c = 3 := by omega
  rcases this with rfl | rfl | rfl <;> omega
theorem back_ok (c q : Nat) (h1 : 1 ≤ c) (h3 : c ≤ 3) : ∀ i, i < c → c - 1 - at' c q i < c ∧ ∀ j, j < i → c - 1 - at' c q j ≠ c - 1 - at' c q i := by
  intro i hi
  obtain ⟨a, b⟩ := fore_ok c q h1 h3 i hi
  refine ⟨by omega, fun j hj => ?_⟩
  have := b j hj
  have := (fore_ok c q h1 h3 j (by omega)).1
  omega

/-- what is kept behind i pieces of one text -/
def kept (n : Nat) (s : ByteArray) (kk : Nat → Nat) (i : Nat) : List Ab := if i = 0 then [] else [(n, count s.size, ((List.range i).map kk).map (partKV s))]
def kept' (n : Nat) (s : ByteArray) (c : Nat) (kk : Nat → Nat) (i : Nat) : List Ab := if i = c then [] else kept n s kk i

theorem kept_open (n : Nat) (s : ByteArray) (kk : Nat → Nat) (i : Nat) : openA (kept n s kk i) n (count s.size) = [] ++ (n, count s.size, ((List.range i).map kk).map (partKV s)) :: [] := by
  unfold kept openA
  split
  · rename_i h
    subst h
    rfl
  · simp
theorem kept_length (n : Nat) (s : ByteArray) (kk : Nat → Nat) (i : Nat) : (kept n s kk i).length ≤ 8 := by
  unfold kept
  split <;> simp

theorem places (i : Nat) (s : ByteArray) (kk : Nat → Nat) (hkk : ∀ i, i < count s.size → kk i < count s.size ∧ ∀ j, j < i → kk j ≠ kk i) (hi : i < count s.size) : kk i ∉ (List.range i).map kk ∧ ((List.range i).map kk).Nodup ∧ ∀ x ∈ (List.range i).map kk, x < count s.size := by
  refine ⟨fun hm => ?_, ?_, fun x hx => ?_⟩
  · obtain ⟨j, hj, e⟩ := List.mem_map.1 hm
    exact (hkk i hi).2 j (List.mem_range.1 hj) e
  · induction i with
    | zero => simp
    | succ i ih =>
      rw [List.range_succ, List.map_append]
      refine List.nodup_append.2 ⟨ih (by omega), by simp, ?_⟩
      intro a ha b hb e
      obtain ⟨j, hj, rfl⟩ := List.mem_map.1 ha
      simp at hb
      subst hb
      exact (hkk i (by omega)).2 j (List.mem_range.1 hj) e
  · obtain ⟨j, hj, rfl⟩ := List.mem_map.1 hx
    exact (hkk j (by have := List.mem_range.1 hj; omega)).1

section
variable (B J n i : Nat) (s : ByteArray) (kk : Nat → Nat) (w : World) (hB : B ≤ w.heap.size) (hn : n < 4294967296) (h2 : s.size ≤ 1536) (hkk : ∀ i, i < count s.size → kk i < count s.size ∧ ∀ j, j < i → kk j ≠ kk i)
include hB hn h2 hkk

theorem step (hi : i + 1 < count s.size) (h : JIs B J w (kept n s kk i)) :
    Calls Try.prog 17 #[.pointer (some ⟨J, 0, none⟩), .string (piece n (count s.size) s (kk i))] w fun e w' => e = .returned (.tuple #[.string ⟨#[]⟩, .bool false, .int .i64 0]) ∧ JIs B J w' (kept n s kk (i + 1)) ∧ Below B w w' ∧ Others w w' := by
  obtain ⟨p1, p2, p3⟩ := places i s kk hkk (by omega)
  have H := take_place B J n (kk i) s ((List.range i).map kk) [] [] _ w h (kept_length n s kk i) hB hn h2 (hkk i (by omega)).1 p1 p2 p3 (kept_open n s kk i) (by simpa using hi)
  rw [show kept n s kk (i + 1) = [] ++ (n, count s.size, ((List.range i).map kk ++ [kk i]).map (partKV s)) :: [] by
    unfold kept
    rw [if_neg (by omega), List.range_succ, List.map_append]
    rfl]
  exact H

theorem last (hi : i + 1 = count s.size) (h : JIs B J w (kept n s kk i)) :
    Calls Try.prog 17 #[.pointer (some ⟨J, 0, none⟩), .string (piece n (count s.size) s (kk i))] w fun e w' => e = .returned (.tuple #[.string s, .bool true, .int .i64 0]) ∧ JIs B J w' [] ∧ Below B w w' ∧ Others w w' := by
  obtain ⟨p1, p2, p3⟩ := places i s kk hkk (by omega)
  exact take_place_whole B J n (kk i) s ((List.range i).map kk) [] [] _ w h (kept_length n s kk i) hB hn h2 (hkk i (by omega)).1 p1 p2 p3 (kept_open n s kk i) (by simpa using hi) (by simp)

theorem again (hi : i + 1 < count s.size) (h : JIs B J w (kept n s kk (i + 1))) :
    Calls Try.prog 17 #[.pointer (some ⟨J, 0, none⟩), .string (piece n (count s.size) s (kk i))] w fun e w' => e = .returned (.tuple #[.string ⟨#[]⟩, .bool false, .int .i64 10]) ∧ JIs B J w' (kept n s kk (i + 1)) ∧ Below B w w' ∧ Others w w' := by
  have H := take_place_twice B J n (kk i) s ((List.range (i + 1)).map kk) [] [] _ w h (kept_length n s kk (i + 1)) hB hn h2 (hkk i (by omega)).1 (List.mem_map.2 ⟨i, by simp, rfl⟩) (by simp; unfold count at hi; omega) (kept_open n s kk (i + 1))
  have e : kept n s kk (i + 1) = [] ++ (n, count s.size, ((List.range (i + 1)).map kk).map (partKV s)) :: [] := by
    unfold kept
    rw [if_neg (by omega)]
    rfl
  rw [e]
  exact H
end
end Tun

set_option maxRecDepth 20000 in
set_option maxHeartbeats 4000000 in
theorem tunPieces_fore (n q : Nat) (s : ByteArray) (w : World) (h1 : 1 ≤ s.size) (h2 : s.size ≤ 1536) (hn : n < 4294967296) (hq : q < 256) :
    Calls Try.prog 5 #[.int .u32 n, .string s, .int .u8 q, .bool false] w fun e w' => e = .returned (.bool true) ∧ Below w.heap.size w w' := by
  have HC := Lib.hid (fun w => cut_any n s w hn h1 h2)
  have hc1 : 1 ≤ Tun.count s.size := by unfold Tun.count; omega
  have hc3 : Tun.count s.size ≤ 3 := by unfold Tun.count; omega
  obtain ⟨kk, HKK⟩ : ∃ kk : Nat → Nat, Hid (kk = fun i => Tun.at' (Tun.count s.size) q i) := ⟨_, rfl⟩
  have HPL : Hid (∀ i, i < Tun.count s.size → kk i < Tun.count s.size ∧ ∀ j, j < i → kk j ≠ kk i) := by
    rw [show kk = _ from HKK.out]
    exact Tun.fore_ok _ q hc1 hc3
  have HSTEP := Lib.hid (fun (B J i : Nat) (w' : World) (hB : B ≤ w'.heap.size) (hi : i + 1 < Tun.count s.size) (h : JIs B J w' (Tun.kept n s kk i)) => Tun.step B J n i s kk w' hB hn h2 HPL.out hi h)
  have HLAST := Lib.hid (fun (B J i : Nat) (w' : World) (hB : B ≤ w'.heap.size) (hi : i + 1 = Tun.count s.size) (h : JIs B J w' (Tun.kept n s kk i)) => Tun.last B J n i s kk w' hB hn h2 HPL.out hi h)
  have HAGAIN := Lib.hid (fun (B J i : Nat) (w' : World) (hB : B ≤ w'.heap.size) (hi : i + 1 < Tun.count s.size) (h : JIs B J w' (Tun.kept n s kk (i + 1))) => Tun.again B J n i s kk w' hB hn h2 HPL.out hi h)
  have HPS : Hid (∀ i (h : i < Tun.count s.size), ∃ hh, (Tun.pieces n s)[i]'hh = Tun.piece n (Tun.count s.size) s i) := fun i h => ⟨by simpa [Tun.pieces] using h, by simp [Tun.pieces]⟩
  have HPN : Hid (Tun.pieces n s ≠ []) := by
    intro e
    have := congrArg List.length e
    simp [Tun.pieces] at this
    omega
  have hss : ¬ (2000 < s.size) := by omega
  generalize hcc : Tun.count s.size = c at *
  have HCC := Lib.hid hcc
  clear hcc hn
  go_enter Try.func5, Try.ntmps5
  go_wp2_with fail
  refine (awake_any _).mono ?_
  rintro e w1 ⟨rfl, hb1⟩
  go_wp2_with fail
  refine (HC.out _).mono ?_
  rintro e w2 ⟨ao, cap, rfl, hat, hb2⟩
  have hbW := hb1.trans (hb2.mono hb1.size)
  obtain ⟨ab, off, rfl, habl, hcell⟩ : ∃ b off, ao = some ⟨b, off, none⟩ ∧ b < w2.heap.size ∧ ∀ i, i < c → w2.cell? ⟨b, off + i, none⟩ = some (.string (Tun.piece n c s i)) := by
    rcases hat with h | ⟨b, off, e, h1, h2⟩
    · exact absurd h HPN.out
    · refine ⟨b, off, e, h1, fun i hi => ?_⟩
      obtain ⟨hh, e⟩ := HPS.out i hi
      rw [h2 i hh, e]
  have HCELL := Lib.hid hcell
  clear hat hb1 hb2 hcell HC HPN HPS
  go_upto_region 7 with fail
  clear h1 h2 hss
  have hJ0 := joinIs_new w2 w2.heap.size (Nat.le_refl _)
  have HJ0 : Hid (JIs w2.heap.size w2.heap.size (w2.alloc (.cells #[.slice none 0 0, .map none] 48)) []) := ⟨[], hJ0, rfl⟩
  have hb3 : Below w2.heap.size w2 (w2.alloc (.cells #[.slice none 0 0, .map none] 48)) := (Below.refl _ _).alloc (Nat.le_refl _) _
  clear hJ0
  generalize (w2.alloc (.cells #[.slice none 0 0, .map none] 48)) = w3 at *
  generalize hB : w2.heap.size = B at *
  go_wp2_with fail
  go_loopw [12, 13] (fun o i wr => ∃ k : Nat, k ≤ c ∧ i = .int .i64 k ∧ o = .int .i64 (if k = c then 1 else 0) ∧ Hid (JIs B B wr (Tun.kept' n s c kk k)) ∧ Below B w2 wr) (fun _ i _ => c - (intOf i).toNat)
  case atStart => exact ⟨0, Nat.zero_le _, rfl, by rw [if_neg (by omega)], by
    show JIs _ _ _ _
    have e : Tun.kept' n s c kk 0 = [] := by unfold Tun.kept' Tun.kept; split <;> simp
    rw [e]
    exact HJ0.out, hb3⟩
  case round =>
    rename_i wr
    obtain ⟨k, hk, rfl, ho, HJ, hbr⟩ := hrel
    have hBr : B ≤ wr.heap.size := by rw [← hB]; exact hbr.size
    by_cases hlt : k < c
    · rw [if_neg (by omega)] at ho
      subst ho
      have hkc := (HPL.out k hlt).1
      have HJ : Hid (JIs B B wr (Tun.kept n s kk k)) := by
        have h := HJ.out
        unfold Tun.kept' at h
        rwa [if_neg (by omega)] at h
      have c0 : wr.cell? ⟨ab, off + kk k, none⟩ = some (.string (Tun.piece n c s (kk k))) := (hbr.cell (p := ⟨ab, off + kk k, none⟩) habl).trans (HCELL.out _ hkc)
      have hkv : ((kk k : Nat) : Int) = ((k : Int) + (q : Int)) % (c : Int) := by rw [show kk = _ from HKK.out]; simp [Tun.at']
      go_upto_region 14 with fail
      rw [← hkv]
      clear hkv
      rcases Nat.lt_or_ge (k + 1) c with hlt1 | hlt1
      · have H1 := Lib.hid (HSTEP.out B B k wr hBr hlt1 HJ.out)
        go_wp2_with fail
        refine H1.out.mono ?_
        rintro e w4 ⟨rfl, hj4, hb4, ho4⟩
        have HJ4 := Lib.hid hj4
        have hbr4 := hbr.trans hb4
        have hBr4 := Nat.le_trans hBr hb4.size
        have c1 : w4.cell? ⟨ab, off + kk k, none⟩ = some (.string (Tun.piece n c s (kk k))) := (hbr4.cell (p := ⟨ab, off + kk k, none⟩) habl).trans (HCELL.out _ hkc)
        clear hj4 hb4 ho4 c0 H1
        have H2 := Lib.hid (HAGAIN.out B B k w4 hBr4 hlt1 HJ4.out)
        have hne : ((k : Int) == (c : Int) - 1) = false := by simp; omega
        go_wp2_with fail
        refine H2.out.mono ?_
        rintro e w5 ⟨rfl, hj5, hb5, ho5⟩
        have HJ5 := Lib.hid hj5
        have hbr5 := hbr4.trans hb5
        clear hj5 hb5 ho5 c1 H2
        go_wp2_with fail
        refine ⟨⟨k + 1, by omega, by go_num, by rw [if_neg (by omega)], ?_, hbr5⟩, by simp [intOf]; omega⟩
        show JIs _ _ _ _
        unfold Tun.kept'
        rw [if_neg (by omega)]
        exact HJ5.out
      · have hlt2 : k + 1 = c := by omega
        have H1 := Lib.hid (HLAST.out B B k wr hBr hlt2 HJ.out)
        go_wp2_with fail
        refine H1.out.mono ?_
        rintro e w4 ⟨rfl, hj4, hb4, ho4⟩
        have HJ4 := Lib.hid hj4
        have hbr4 := hbr.trans hb4
        clear hj4 hb4 ho4 c0 H1
        have heq : ((k : Int) == (c : Int) - 1) = true := by simp; omega
        go_wp2_with fail
        refine ⟨⟨k + 1, by omega, by go_num, by rw [if_pos (by omega)], ?_, hbr4⟩, by simp [intOf]; omega⟩
        show JIs _ _ _ _
        unfold Tun.kept'
        rw [if_pos (by omega)]
        exact HJ4.out
    · obtain rfl : k = c := by omega
      rw [if_pos rfl] at ho
      subst ho
      have HJ : Hid (JIs B B wr []) := by
        have h := HJ.out
        unfold Tun.kept' at h
        rwa [if_pos rfl] at h
      have HH := Lib.hid (held_any B B [] wr HJ.out)
      go_wp2_with fail
      refine HH.out.mono ?_
      rintro e w4 ⟨rfl, rfl⟩
      go_wp2_with fail
      go_ret
      exact ⟨rfl, hbW.trans (hbr.mono (by rw [← hB]; exact hbW.size))⟩

set_option maxRecDepth 20000 in
set_option maxHeartbeats 4000000 in
theorem tunPieces_back (n q : Nat) (s : ByteArray) (w : World) (h1 : 1 ≤ s.size) (h2 : s.size ≤ 1536) (hn : n < 4294967296) (hq : q < 256) :
    Calls Try.prog 5 #[.int .u32 n, .string s, .int .u8 q, .bool true] w fun e w' => e = .returned (.bool true) ∧ Below w.heap.size w w' := by
  have HC := Lib.hid (fun w => cut_any n s w hn h1 h2)
  have hc1 : 1 ≤ Tun.count s.size := by unfold Tun.count; omega
  have hc3 : Tun.count s.size ≤ 3 := by unfold Tun.count; omega
  obtain ⟨kk, HKK⟩ : ∃ kk : Nat → Nat, Hid (kk = fun i => Tun.count s.size - 1 - Tun.at' (Tun.count s.size) q i) := ⟨_, rfl⟩
  have HPL : Hid (∀ i, i < Tun.count s.size → kk i < Tun.count s.size ∧ ∀ j, j < i → kk j ≠ kk i) := by
    rw [show kk = _ from HKK.out]
    exact Tun.back_ok _ q hc1 hc3
  have HSTEP := Lib.hid (fun (B J i : Nat) (w' : World) (hB : B ≤ w'.heap.size) (hi : i + 1 < Tun.count s.size) (h : JIs B J w' (Tun.kept n s kk i)) => Tun.step B J n i s kk w' hB hn h2 HPL.out hi h)
  have HLAST := Lib.hid (fun (B J i : Nat) (w' : World) (hB : B ≤ w'.heap.size) (hi : i + 1 = Tun.count s.size) (h : JIs B J w' (Tun.kept n s kk i)) => Tun.last B J n i s kk w' hB hn h2 HPL.out hi h)
  have HAGAIN := Lib.hid (fun (B J i : Nat) (w' : World) (hB : B ≤ w'.heap.size) (hi : i + 1 < Tun.count s.size) (h : JIs B J w' (Tun.kept n s kk (i + 1))) => Tun.again B J n i s kk w' hB hn h2 HPL.out hi h)
  have HPS : Hid (∀ i (h : i < Tun.count s.size), ∃ hh, (Tun.pieces n s)[i]'hh = Tun.piece n (Tun.count s.size) s i) := fun i h => ⟨by simpa [Tun.pieces] using h, by simp [Tun.pieces]⟩
  have HPN : Hid (Tun.pieces n s ≠ []) := by
    intro e
    have := congrArg List.length e
    simp [Tun.pieces] at this
    omega
  have hss : ¬ (2000 < s.size) := by omega
  generalize hcc : Tun.count s.size = c at *
  have HCC := Lib.hid hcc
  clear hcc hn
  go_enter Try.func5, Try.ntmps5
  go_wp2_with fail
  refine (awake_any _).mono ?_
  rintro e w1 ⟨rfl, hb1⟩
  go_wp2_with fail
  refine (HC.out _).mono ?_
  rintro e w2 ⟨ao, cap, rfl, hat, hb2⟩
  have hbW := hb1.trans (hb2.mono hb1.size)
  obtain ⟨ab, off, rfl, habl, hcell⟩ : ∃ b off, ao = some ⟨b, off, none⟩ ∧ b < w2.heap.size ∧ ∀ i, i < c → w2.cell? ⟨b, off + i, none⟩ = some (.string (Tun.piece n c s i)) := by
    rcases hat with h | ⟨b, off, e, h1, h2⟩
    · exact absurd h HPN.out
    · refine ⟨b, off, e, h1, fun i hi => ?_⟩
      obtain ⟨hh, e⟩ := HPS.out i hi
      rw [h2 i hh, e]
  have HCELL := Lib.hid hcell
  clear hat hb1 hb2 hcell HC HPN HPS
  go_upto_region 7 with fail
  clear h1 h2 hss
  have hJ0 := joinIs_new w2 w2.heap.size (Nat.le_refl _)
  have HJ0 : Hid (JIs w2.heap.size w2.heap.size (w2.alloc (.cells #[.slice none 0 0, .map none] 48)) []) := ⟨[], hJ0, rfl⟩
  have hb3 : Below w2.heap.size w2 (w2.alloc (.cells #[.slice none 0 0, .map none] 48)) := (Below.refl _ _).alloc (Nat.le_refl _) _
  clear hJ0
  generalize (w2.alloc (.cells #[.slice none 0 0, .map none] 48)) = w3 at *
  generalize hB : w2.heap.size = B at *
  go_wp2_with fail
  go_loopw [12, 13] (fun o i wr => ∃ k : Nat, k ≤ c ∧ i = .int .i64 k ∧ o = .int .i64 (if k = c then 1 else 0) ∧ Hid (JIs B B wr (Tun.kept' n s c kk k)) ∧ Below B w2 wr) (fun _ i _ => c - (intOf i).toNat)
  case atStart => exact ⟨0, Nat.zero_le _, rfl, by rw [if_neg (by omega)], by
    show JIs _ _ _ _
    have e : Tun.kept' n s c kk 0 = [] := by unfold Tun.kept' Tun.kept; split <;> simp
    rw [e]
    exact HJ0.out, hb3⟩
  case round =>
    rename_i wr
    obtain ⟨k, hk, rfl, ho, HJ, hbr⟩ := hrel
    have hBr : B ≤ wr.heap.size := by rw [← hB]; exact hbr.size
    by_cases hlt : k < c
    · rw [if_neg (by omega)] at ho
      subst ho
      have hkc := (HPL.out k hlt).1
      have HJ : Hid (JIs B B wr (Tun.kept n s kk k)) := by
        have h := HJ.out
        unfold Tun.kept' at h
        rwa [if_neg (by omega)] at h
      have c0 : wr.cell? ⟨ab, off + kk k, none⟩ = some (.string (Tun.piece n c s (kk k))) := (hbr.cell (p := ⟨ab, off + kk k, none⟩) habl).trans (HCELL.out _ hkc)
      have hkv : ((kk k : Nat) : Int) = (c : Int) - 1 - ((k : Int) + (q : Int)) % (c : Int) := by
        rw [show kk = _ from HKK.out]
        have := (Tun.fore_ok c q hc1 hc3 k hlt).1
        have e : ((Tun.at' c q k : Nat) : Int) = ((k : Int) + (q : Int)) % (c : Int) := by simp [Tun.at']
        rw [← e]
        show ((c - 1 - Tun.at' c q k : Nat) : Int) = _
        omega
      go_upto_region 14 with fail
      rw [← hkv]
      clear hkv
      rcases Nat.lt_or_ge (k + 1) c with hlt1 | hlt1
      · have H1 := Lib.hid (HSTEP.out B B k wr hBr hlt1 HJ.out)
        go_wp2_with fail
        refine H1.out.mono ?_
        rintro e w4 ⟨rfl, hj4, hb4, ho4⟩
        have HJ4 := Lib.hid hj4
        have hbr4 := hbr.trans hb4
        have hBr4 := Nat.le_trans hBr hb4.size
        have c1 : w4.cell? ⟨ab, off + kk k, none⟩ = some (.string (Tun.piece n c s (kk k))) := (hbr4.cell (p := ⟨ab, off + kk k, none⟩) habl).trans (HCELL.out _ hkc)
        clear hj4 hb4 ho4 c0 H1
        have H2 := Lib.hid (HAGAIN.out B B k w4 hBr4 hlt1 HJ4.out)
        have hne : ((k : Int) == (c : Int) - 1) = false := by simp; omega
        go_wp2_with fail
        refine H2.out.mono ?_
        rintro e w5 ⟨rfl, hj5, hb5, ho5⟩
        have HJ5 := Lib.hid hj5
        have hbr5 := hbr4.trans hb5
        clear hj5 hb5 ho5 c1 H2
        go_wp2_with fail
        refine ⟨⟨k + 1, by omega, by go_num, by rw [if_neg (by omega)], ?_, hbr5⟩, by simp [intOf]; omega⟩
        show JIs _ _ _ _
        unfold Tun.kept'
        rw [if_neg (by omega)]
        exact HJ5.out
      · have hlt2 : k + 1 = c := by omega
        have H1 := Lib.hid (HLAST.out B B k wr hBr hlt2 HJ.out)
        go_wp2_with fail
        refine H1.out.mono ?_
        rintro e w4 ⟨rfl, hj4, hb4, ho4⟩
        have HJ4 := Lib.hid hj4
        have hbr4 := hbr.trans hb4
        clear hj4 hb4 ho4 c0 H1
        have heq : ((k : Int) == (c : Int) - 1) = true := by simp; omega
        go_wp2_with fail
        refine ⟨⟨k + 1, by omega, by go_num, by rw [if_pos (by omega)], ?_, hbr4⟩, by simp [intOf]; omega⟩
        show JIs _ _ _ _
        unfold Tun.kept'
        rw [if_pos (by omega)]
        exact HJ4.out
    · obtain rfl : k = c := by omega
      rw [if_pos rfl] at ho
      subst ho
      have HJ : Hid (JIs B B wr []) := by
        have h := HJ.out
        unfold Tun.kept' at h
        rwa [if_pos rfl] at h
      have HH := Lib.hid (held_any B B [] wr HJ.out)
      go_wp2_with fail
      refine HH.out.mono ?_
      rintro e w4 ⟨rfl, rfl⟩
      go_wp2_with fail
      go_ret
      exact ⟨rfl, hbW.trans (hbr.mono (by rw [← hB]; exact hbW.size))⟩

set_option maxHeartbeats 1000000 in
theorem tunPieces_walk (n : Int) (hn : (Lit.int .u32 n).wf = true) (s : ByteArray) (q : Int) (hq : (Lit.int .u8 q).wf = true) (b : Bool) (w : World) :
    Calls Try.prog 5 #[.int .u32 n, .string s, .int .u8 q, .bool b] w fun e w' => e = .returned (.bool true) ∧ Below w.heap.size w w' := by
  simp only [Lit.wf, Bool.and_eq_true, decide_eq_true_eq] at hn hq
  have hn : 0 ≤ n ∧ n ≤ 4294967295 := hn
  have hq : 0 ≤ q ∧ q ≤ 255 := hq
  obtain ⟨n, rfl⟩ := Int.eq_ofNat_of_zero_le hn.1
  obtain ⟨q, rfl⟩ := Int.eq_ofNat_of_zero_le hq.1
  by_cases h : 2000 < s.size
  · clear hn hq
    go_enter Try.func5, Try.ntmps5
    go_wp2_with fail
    refine (awake_any _).mono ?_
    rintro e w1 ⟨rfl, hb⟩
    go_wp2_with fail
    refine (awake_any _).mono ?_
    rintro e w2 ⟨rfl, hb2⟩
    have hbW := hb.trans (hb2.mono hb.size)
    clear hb hb2
    go_wp2_with fail
    go_ret
    exact ⟨rfl, hbW⟩
  · by_cases h1 : s.size < 1 ∨ 1 ≤ s.size ∧ 1536 < s.size
    · have HC := Lib.hid (fun w => cut_bad n s w h1)
      clear hn hq
      rcases h1 with h1 | ⟨h1, h2⟩
      all_goals
        go_enter Try.func5, Try.ntmps5
        go_wp2_with fail
        refine (awake_any _).mono ?_
        rintro e w1 ⟨rfl, hb⟩
        go_wp2_with fail
        refine (HC.out _).mono ?_
        rintro e w2 ⟨rfl, rfl⟩
        go_wp2_with fail
        go_ret
        exact ⟨rfl, hb⟩
    · cases b
      · exact tunPieces_fore n q s w (by omega) (by omega) (by omega) (by omega)
      · exact tunPieces_back n q s w (by omega) (by omega) (by omega) (by omega)
end Go.Proofs.Ytmipdbmmhoacpaa
