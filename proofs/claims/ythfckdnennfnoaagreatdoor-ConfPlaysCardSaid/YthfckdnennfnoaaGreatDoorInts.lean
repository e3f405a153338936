/- Slices of ints that are only read; slices.Index and Contains over them. By an AI agent. -/
import Derived.Test.YthfckdnennfnoaaGreatDoorRow
namespace Go.Proofs.YthfckdnennfnoaaGreatDoor
open Go.RowKit

/-- the slice at ao holds the numbers zs -/
def IntsAt (w : World) (ao : Option Addr) (zs : List Int) : Prop :=
  zs = [] ∨ ∃ b off, ao = some ⟨b, off, none⟩ ∧ ∀ i, i < zs.length → w.cell? ⟨b, off + i, none⟩ = some (.int .i64 (zs.getD i 0))

theorem IntsAt.kept {w w' : World} {ao : Option Addr} {zs : List Int} (h : IntsAt w ao zs) {B : Nat} (hB : ∀ b off, ao = some ⟨b, off, none⟩ → 0 < zs.length → b < B) (hb : Below B w w') : IntsAt w' ao zs := by
  rcases h with h | ⟨b, off, rfl, h⟩
  · exact Or.inl h
  · cases zs with
    | nil => exact Or.inl rfl
    | cons z zs =>
      refine Or.inr ⟨b, off, rfl, fun i hi => ?_⟩
      rw [hb.cell (p := ⟨b, off + i, none⟩) (hB b off rfl (by simp))]
      exact h i hi

theorem IntsAt.lt {w : World} {ao : Option Addr} {zs : List Int} (h : IntsAt w ao zs) (b off : Nat) (ha : ao = some ⟨b, off, none⟩) (hz : 0 < zs.length) : b < w.heap.size := by
  rcases h with rfl | ⟨b', off', ha', h⟩
  · simp at hz
  · rw [ha] at ha'
    simp only [Option.some.injEq, Addr.mk.injEq, and_true] at ha'
    obtain ⟨rfl, rfl⟩ := ha'
    exact block_lt_of_cell (h 0 hz)

theorem IntsAt.after {w w' : World} {ao : Option Addr} {zs : List Int} (h : IntsAt w ao zs) (hb : Below w.heap.size w w') : IntsAt w' ao zs := h.kept h.lt hb

end Go.Proofs.YthfckdnennfnoaaGreatDoor
