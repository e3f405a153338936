/- A list of booleans as an argument. By an AI agent. -/
import Derived.Test.YtfgbegnngpdnbaaOpenNet
namespace Go.Proofs.Ytfgbegnngpdnbaa
open Go.ChangeShapes Go.WideShapes Go.ChangeAt Go.RowKit Go.Deep Go.Joins

section
variable {H : Type} {enc : TypeId × Value → H} {w : World} {held : Bool} {sp : Nat → Bool}
set_option maxRecDepth 20000 in
theorem open_bools18 {r : Reach} {b0 : Nat} {v : Value} {d : DataW H} {p : List MemPlace} (hv : Value.okWide Try.prog w r b0 41 v) (h : DataW.Trod enc Try.prog w 0 sp held 41 v d p) :
    ∃ (ao : Option Addr) (bs : List Bool) (cap : Nat), v = .slice ao bs.length cap ∧ RowsAt w ao (fun b => [Value.bool b]) 1 bs := by
  obtain ⟨a0, len0, cap0, rfl⟩ := okWide_slice Try.underlying41 hv
  obtain ⟨fuel, hf⟩ := h
  have hc : (Value.slice a0 len0 cap0).cells.toList = [.slice a0 len0 cap0] := rfl
  rw [hc] at hf
  obtain ⟨ao, bs, cap, e, hR, -⟩ := open_rows18 (G := fun _ : Bool => True) (fun b => [Value.bool b]) 1 (by decide) (fun _ => rfl) Try.underlying41 (by kernel_rfl) (fun n l x h => by
    obtain ⟨b, e, _⟩ := DataW.trod_bool Try.underlying4 h
    exact ⟨b, e, trivial⟩) hf
  exact ⟨ao, bs, cap, e, hR⟩
end
end Go.Proofs.Ytfgbegnngpdnbaa
