/- Arguments opened: a port with its slice of numbers. By an AI agent. -/
import Derived.Test.YtcmokhpnooldgaaOpen
import Derived.Test.YtcmokhpnooldgaaInts
import Derived.Lib.SmallJoins
namespace Go.Proofs.Ytcmokhpnooldgaa
open Go.ChangeShapes Go.WideShapes Go.ChangeAt Go.RowKit Go.Joins

theorem open_ints_at {H : Type} {enc : TypeId × Value → H} {w : World} {held : Bool} {sp : Nat → Bool} {fuel : Nat} {v : Value} {x : DataW H × List MemPlace} (h : DataW.trod enc Try.prog w 0 sp held fuel 35 [v] = some x) :
    ∃ (ao : Option Addr) (zs : List Int) (cap : Nat), v = .slice ao zs.length cap ∧ zs.length ≤ 9223372036854775807 ∧ IntsAt w ao zs := by
  rcases open_ints Try.underlying35 Try.underlying3 (by kernel_rfl) h with ⟨hcs, _⟩ | ⟨a, len, cap, zs, hcs, _, hl, hm, hz, _, hcell, _⟩
  · simp only [List.cons.injEq, and_true] at hcs
    exact ⟨none, [], 0, hcs, by decide, Or.inl rfl⟩
  · simp only [List.cons.injEq, and_true] at hcs
    have hlen : len ≤ zs.length := by rw [hz]; split <;> omega
    have htl : (zs.take len).length = len := by rw [List.length_take]; omega
    refine ⟨some a, zs.take len, cap, by rw [htl]; exact hcs, by unfold maxLen at hm; omega, ?_⟩
    by_cases h0 : len = 0
    · left; rw [h0]; rfl
    · obtain ⟨b, off, rfl, hc⟩ := ints_at hcell (by omega)
      refine Or.inr ⟨b, off, rfl, fun i hi => ?_⟩
      rw [htl] at hi
      rw [hc i (by omega)]
      congr 2
      rw [List.getD, List.getD, List.getElem?_take, if_pos hi]

end Go.Proofs.Ytcmokhpnooldgaa
