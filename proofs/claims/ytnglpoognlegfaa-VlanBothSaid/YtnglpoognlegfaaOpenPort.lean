/- Arguments opened: a port with its slice of numbers; a slice without memory has no capacity. By an AI agent. -/
import Derived.Test.YtnglpoognlegfaaOpenInts
namespace Go.Proofs.Ytnglpoognlegfaa
open Go.ChangeShapes Go.WideShapes Go.ChangeAt Go.RowKit Go.Joins

theorem open_ints_cap {H : Type} {enc : TypeId × Value → H} {w : World} {held : Bool} {sp : Nat → Bool} {fuel : Nat} {v : Value} {x : DataW H × List MemPlace} (h : DataW.trod enc Try.prog w 0 sp held fuel 22 [v] = some x) :
    ∃ (ao : Option Addr) (zs : List Int) (cap : Nat), v = .slice ao zs.length cap ∧ zs.length ≤ 9223372036854775807 ∧ IntsAt w ao zs ∧ (ao = none → cap = 0) := by
  have h0 := h
  obtain ⟨ao, zs, cap, rfl, hz, hI⟩ := open_ints_at h
  refine ⟨ao, zs, cap, rfl, hz, hI, ?_⟩
  rcases open_ints Try.underlying22 Try.underlying3 (by kernel_rfl) h0 with ⟨hcs, _⟩ | ⟨a, len, cap', zs', hcs, _⟩
  · simp only [List.cons.injEq, and_true, Value.slice.injEq] at hcs
    exact fun _ => hcs.2.2
  · simp only [List.cons.injEq, and_true, Value.slice.injEq] at hcs
    intro e
    rw [e] at hcs
    cases hcs.1

theorem open_port_cap {H : Type} {enc : TypeId × Value → H} {w : World} {r : Reach} {base : Nat} {sp : Nat → Bool} {held : Bool} {v : Value} {d : DataW H} {p : List MemPlace} (hv : Value.okWide Try.prog w r base 24 v)
    (h : DataW.Trod enc Try.prog w 0 sp held 24 v d p) :
    ∃ (n : Int) (ao : Option Addr) (zs : List Int) (cap : Nat), v = .agg #[.int .i64 n, .slice ao zs.length cap] ∧ zs.length ≤ 9223372036854775807 ∧ IntsAt w ao zs ∧ (ao = none → cap = 0) := by
  obtain ⟨c0, c1, y0, y1, m, rfl, _, _, h0, h1⟩ := open_agg2 Try.underlying24 (by kernel_rfl) (by kernel_rfl) hv h
  obtain ⟨n, e0, _, _⟩ := DataW.trod_int Try.underlying3 h0
  simp only [List.cons.injEq, and_true] at e0
  subst e0
  obtain ⟨ao, zs, cap, rfl, hz, hI, hc⟩ := open_ints_cap h1
  exact ⟨n, ao, zs, cap, rfl, hz, hI, hc⟩
end Go.Proofs.Ytnglpoognlegfaa
