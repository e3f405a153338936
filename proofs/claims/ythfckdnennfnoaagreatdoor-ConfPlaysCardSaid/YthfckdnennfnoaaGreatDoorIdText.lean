/- The text of an identifier's bytes. By an AI agent. -/
import Derived.Test.YthfckdnennfnoaaGreatDoorBytes
import Derived.Lib.Strings
namespace Go.Proofs.YthfckdnennfnoaaGreatDoor
open Go.RowKit

theorem toList_mk (l : List UInt8) : (⟨l.toArray⟩ : ByteArray).toList = l := by rw [Lib.toList_data]

/-- string(a[:]) of an array of eight bytes -/
theorem run_id_string (a : Nat → UInt8) (w : World) (n : Nat) (hc : ∀ i, i < 8 → w.cell? ⟨n, i, none⟩ = some (.int .u8 ((a i).toNat : Int))) :
    (convert 64 9 (.slice (some ⟨n, 0, none⟩) 8 8)).run Tryz.prog w = .ok (.string ⟨#[a 0, a 1, a 2, a 3, a 4, a 5, a 6, a 7]⟩) w := by
  refine run_convert_bytes_back w _ _ 5 ⟨n, 0, none⟩ 8 [a 0, a 1, a 2, a 3, a 4, a 5, a 6, a 7] Tryz.underlying64 Tryz.underlying5 Tryz.underlying9 ?_
  intro j hj
  rw [show (⟨n, 0, none⟩ : Addr).add j = ⟨n, j, none⟩ from by unfold Addr.add; split <;> simp_all]
  have hj8 : j < 8 := hj
  rw [hc j hj8]
  rcases (show j = 0 ∨ j = 1 ∨ j = 2 ∨ j = 3 ∨ j = 4 ∨ j = 5 ∨ j = 6 ∨ j = 7 from by omega) with rfl | rfl | rfl | rfl | rfl | rfl | rfl | rfl <;> rfl

end Go.Proofs.YthfckdnennfnoaaGreatDoor
