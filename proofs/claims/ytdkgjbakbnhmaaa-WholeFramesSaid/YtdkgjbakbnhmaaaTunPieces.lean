/- The walk of TunPieces. By an AI agent. -/
import Derived.Test.YtdkgjbakbnhmaaaPieces
namespace Go.Proofs.Ytdkgjbakbnhmaaa
open Go.RowKit Go.Sort Grow

namespace Tun
/-- the places, turned -/
def at' (c q i : Nat) : Nat := (i + q) % c

theorem fore_ok (c q : Nat) (h1 : 1 ≤ c) (h3 : c ≤ 3) : ∀ i, i < c → at' c q i < c ∧ ∀ j, j < i → at' c q j ≠ at' c q i := by
  intro i hi
  refine ⟨Nat.mod_lt _ (by omega), fun j hj => ?_⟩
  unfold at'
  have : c = 1 ∨ c = 2 ∨ c = 3 := by omega
  rcases this with rfl | rfl | rfl <;> omega
theorem back_ok (c q : Nat) (h1 : 1 ≤ c) (h3 : c ≤ 3) : ∀ i, i < c → c - 1 - at' c q i < c ∧ ∀ j, j < i → c - 1 - at' c q j ≠ c - 1 - at' c q i := by
  intro i hi
  obtain ⟨a, b⟩ := fore_ok c q h1 h3 i hi
  refine ⟨by omega, fun j hj => ?_⟩
  have := b j hj
  have := (fore_ok c q h1 h3 j (by omega)).1
  omega

/-- what is kept behind i pieces of one text -/
def kept (n : Nat) (s : ByteArray) (kk : Nat → Nat) (i : Nat) : List Ab := if i = 0 then [] else [(n, count s.size, ((List.range i).map kk).map (partKV s))]
def kept' (n : Nat) (s : ByteArray) (c : Nat) (kk : Nat → Nat) (i : Nat) : List Ab := if i = c then [] else kept n s kk i

theorem kept_open (n : Nat) (s : ByteArray) (kk : Nat → Nat) (i : Nat) : openA (kept n s kk i) n (count s.size) = [] ++ (n, count s.size, ((List.range i).map kk).map (partKV s)) :: [] := by
  unfold kept openA
  split
  · rename_i h
    subst h
    rfl
  · simp
theorem kept_length (n : Nat) (s : ByteArray) (kk : Nat → Nat) (i : Nat) : (kept n s kk i).length ≤ 8 := by
  unfold kept
  split <;> simp

theorem places (i : Nat) (s : ByteArray) (kk : Nat → Nat) (hkk : ∀ i, i < count s.size → kk i < count s.size ∧ ∀ j, j < i → kk j ≠ kk i) (hi : i < count s.size) : kk i ∉ (List.range i).map kk ∧ ((List.range i).map kk).Nodup ∧ ∀ x ∈ (List.range i).map kk, x < count s.size := by
  refine ⟨fun hm => ?_, ?_, fun x hx => ?_⟩
  · obtain ⟨j, hj, e⟩ := List.mem_map.1 hm
    exact (hkk i hi).2 j (List.mem_range.1 hj) e
  · induction i with
    | zero => simp
    | succ i ih =>
      rw [List.range_succ, List.map_append]
      refine List.nodup_append.2 ⟨ih (by omega), by simp, ?_⟩
      intro a ha b hb e
      obtain ⟨j, hj, rfl⟩ := List.mem_map.1 ha
      simp at hb
      subst hb
      exact (hkk i (by omega)).2 j (List.mem_range.1 hj) e
  · obtain ⟨j, hj, rfl⟩ := List.mem_map.1 hx
    exact (hkk j (by have := List.mem_range.1 hj; omega)).1

section
variable (B J n i : Nat) (s : ByteArray) (kk : Nat → Nat) (w : World) (hB : B ≤ w.heap.size) (hn : n < 4294967296) (h2 : s.size ≤ 1536) (hkk : ∀ i, i < count s.size → kk i < count s.size ∧ ∀ j, j < i → kk j ≠ kk i)
include hB hn h2 hkk

theorem step (hi : i + 1 < count s.size) (h : JIs B J w (kept n s kk i)) :
    Calls Try.prog 8 #[.pointer (some ⟨J, 0, none⟩), .string (piece n (count s.size) s (kk i))] w fun e w' => e = .returned (.tuple #[.string ⟨#[]⟩, .bool false, .int .i64 0]) ∧ JIs B J w' (kept n s kk (i + 1)) ∧ Below B w w' ∧ Others w w' := by
  obtain ⟨p1, p2, p3⟩ := places i s kk hkk (by omega)
  have H := take_place B J n (kk i) s ((List.range i).map kk) [] [] _ w h (kept_length n s kk i) hB hn h2 (hkk i (by omega)).1 p1 p2 p3 (kept_open n s kk i) (by simpa using hi)
  rw [show kept n s kk (i + 1) = [] ++ (n, count s.size, ((List.range i).map kk ++ [kk i]).map (partKV s)) :: [] by
    unfold kept
    rw [if_neg (by omega), List.range_succ, List.map_append]
    rfl]
  exact H

theorem last (hi : i + 1 = count s.size) (h : JIs B J w (kept n s kk i)) :
    Calls Try.prog 8 #[.pointer (some ⟨J, 0, none⟩), .string (piece n (count s.size) s (kk i))] w fun e w' => e = .returned (.tuple #[.string s, .bool true, .int .i64 0]) ∧ JIs B J w' [] ∧ Below B w w' ∧ Others w w' := by
  obtain ⟨p1, p2, p3⟩ := places i s kk hkk (by omega)
  exact take_place_whole B J n (kk i) s ((List.range i).map kk) [] [] _ w h (kept_length n s kk i) hB hn h2 (hkk i (by omega)).1 p1 p2 p3 (kept_open n s kk i) (by simpa using hi) (by simp)

theorem again (hi : i + 1 < count s.size) (h : JIs B J w (kept n s kk (i + 1))) :
    Calls Try.prog 8 #[.pointer (some ⟨J, 0, none⟩), .string (piece n (count s.size) s (kk i))] w fun e w' => e = .returned (.tuple #[.string ⟨#[]⟩, .bool false, .int .i64 10]) ∧ JIs B J w' (kept n s kk (i + 1)) ∧ Below B w w' ∧ Others w w' := by
  have H := take_place_twice B J n (kk i) s ((List.range (i + 1)).map kk) [] [] _ w h (kept_length n s kk (i + 1)) hB hn h2 (hkk i (by omega)).1 (List.mem_map.2 ⟨i, by simp, rfl⟩) (by simp; unfold count at hi; omega) (kept_open n s kk (i + 1))
  have e : kept n s kk (i + 1) = [] ++ (n, count s.size, ((List.range (i + 1)).map kk).map (partKV s)) :: [] := by
    unfold kept
    rw [if_neg (by omega)]
    rfl
  rw [e]
  exact H
end
end Tun

end Go.Proofs.Ytdkgjbakbnhmaaa
