/- Slices of strings: append, read. By an AI agent. -/
import Derived.Test.YthfckdnennfnoaaGreatDoorGrowKit
import Derived.Deep.AppendLies
namespace Go.Proofs.YthfckdnennfnoaaGreatDoor
open Go.RowKit Go.Sort Grow

theorem info_str : ∃ i z, Tryz.prog.info? 9 = some i ∧ i.zero = some z ∧ i.size = 1 ∧ i.bytes = 16 ∧ z.cells.size = 1 := by
  have h : (Tryz.prog.info? 9).map (fun i => (i.zero.map (·.cells.size), i.size, i.bytes)) = some (some 1, 1, 16) := by kernel_rfl
  obtain ⟨i, hi, h⟩ := Option.map_eq_some_iff.1 h
  simp only [Prod.mk.injEq] at h
  obtain ⟨z, hz, h18⟩ := Option.map_eq_some_iff.1 h.1
  exact ⟨i, z, hi, hz, h.2.1, h.2.2, h18⟩

theorem owns_later {w w' : World} {base : Nat} {e : TypeId} {size : Nat} {v : Value} {n : Nat} {xs : List Value} (h : w.ownsRow base e size v n xs) (hb : Below w.heap.size w w') : w'.ownsRow base e size v n xs := by
  refine ⟨h.1, ?_⟩
  rcases h.2 with h | ⟨g, cap, cur, hv, hg, hc, h⟩
  · exact .inl h
  · exact .inr ⟨g, cap, cur, hv, hg, (hb.block g (Array.getElem?_eq_some_iff.1 hc).1).trans hc, h⟩

namespace Strs
def all (l : List ByteArray) : List Value := l.map Value.string
theorem all_length (l : List ByteArray) : (all l).length = l.length := by simp [all]
theorem all_snoc (l : List ByteArray) (s : ByteArray) : all (l ++ [s]) = all l ++ [.string s] := by simp [all]

/-- a slice of strings -/
def At (w : World) (ao : Option Addr) (l : List ByteArray) : Prop :=
  l = [] ∨ ∃ b off, ao = some ⟨b, off, none⟩ ∧ b < w.heap.size ∧ ∀ i (h : i < l.length), w.cell? ⟨b, off + i, none⟩ = some (.string l[i])

theorem At.later {w w' : World} {ao : Option Addr} {l : List ByteArray} (h : At w ao l) (hb : Below w.heap.size w w') : At w' ao l := by
  rcases h with h | ⟨b, off, ha, hlt, h⟩
  · exact .inl h
  · exact .inr ⟨b, off, ha, Nat.lt_of_lt_of_le hlt hb.size, fun i hi => ((bcell hb).1 b (off + i) hlt).trans (h i hi)⟩

theorem At.some_of {w : World} {ao : Option Addr} {l : List ByteArray} (h : At w ao l) (hp : 0 < l.length) : ∃ b off, ao = some ⟨b, off, none⟩ ∧ b < w.heap.size ∧ ∀ i (h : i < l.length), w.cell? ⟨b, off + i, none⟩ = some (.string l[i]) := by
  rcases h with rfl | ⟨b, off, h⟩
  · simp at hp
  · exact ⟨b, off, h⟩

theorem at_of_owns {w : World} {base : Nat} {v : Value} {l : List ByteArray} {n : Nat} (h : w.ownsRow base 9 1 v n (all l)) (hn : n = l.length) : ∃ ao cap, v = .slice ao l.length cap ∧ l.length ≤ cap ∧ cap ≤ maxLen ∧ At w ao l := by
  subst hn
  rcases h.2 with ⟨hv, hn⟩ | ⟨g, cap, cur, hv, hg, hc, hle, hm, hs, ht⟩
  · exact ⟨none, 0, by rw [hv, hn], by omega, by decide, .inl (List.length_eq_zero_iff.1 hn)⟩
  · refine ⟨some ⟨g, 0, none⟩, cap, hv, hle, hm, .inr ⟨g, 0, rfl, (Array.getElem?_eq_some_iff.1 hc).1, fun i hi => ?_⟩⟩
    rw [cell_of_row w g _ cur _ (0, 0) hc, ← Array.getElem?_toList, show 0 + i = i by omega]
    have e : (all l)[i]? = some (.string l[i]) := by simp [all, hi]
    rw [← ht, List.getElem?_take_of_lt (by omega)] at e
    exact e
end Strs
end Go.Proofs.YthfckdnennfnoaaGreatDoor
