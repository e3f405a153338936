/- ether.Right, of a frame whose tag is right. By an AI agent. -/
import Derived.Test.YtnglpoognlegfaaVlanIn
namespace Go.Proofs.Ytnglpoognlegfaa
open Go.RowKit

namespace EthR
def typeOk (ty : Int) : Bool := ty == 0 || (decide (1536 ≤ ty) && decide (ty ≤ 65535) && ty != 33024)
def ok (ty : Int) (n : Nat) : Bool := typeOk ty && decide (n ≤ 1500)
end EthR

set_option maxHeartbeats 4000000 in
theorem ethRight_any (d s : Nat → UInt8) (ty v pr : Int) (body : ByteArray) (w : World) (hv : v = -1 ∧ pr = 0 ∨ 0 ≤ v ∧ v ≤ 4094 ∧ 0 ≤ pr ∧ pr ≤ 7) :
    Calls Try.prog 18 #[.agg #[.int .u8 ((d 0).toNat : Int), .int .u8 ((d 1).toNat : Int), .int .u8 ((d 2).toNat : Int), .int .u8 ((d 3).toNat : Int), .int .u8 ((d 4).toNat : Int), .int .u8 ((d 5).toNat : Int), .int .u8 ((s 0).toNat : Int), .int .u8 ((s 1).toNat : Int), .int .u8 ((s 2).toNat : Int), .int .u8 ((s 3).toNat : Int), .int .u8 ((s 4).toNat : Int), .int .u8 ((s 5).toNat : Int), .int .i64 ty, .string body, .int .i64 v, .int .i64 pr]] w
      fun e w' => e = .returned (.bool (EthR.ok ty body.size)) ∧ Below w.heap.size w w' := by
  have key : (((ty == 0) = true ∨ (ty == 0) = false ∧ 1536 ≤ ty ∧ ty ≤ 65535 ∧ (ty != 33024) = true) ∧ EthR.typeOk ty = true) ∨
      (((ty == 0) = false ∧ (ty < 1536 ∨ 1536 ≤ ty ∧ 65535 < ty ∨ 1536 ≤ ty ∧ ty ≤ 65535 ∧ (ty != 33024) = false)) ∧ EthR.typeOk ty = false) := by
    cases h : EthR.typeOk ty
    · refine Or.inr ⟨?_, rfl⟩
      simp [EthR.typeOk] at h
      obtain ⟨h1, h2⟩ := h
      refine ⟨by simpa using h1, ?_⟩
      by_cases a : ty < 1536
      · exact Or.inl a
      · by_cases b : 65535 < ty
        · exact Or.inr (Or.inl ⟨by omega, b⟩)
        · exact Or.inr (Or.inr ⟨by omega, by omega, by simpa using h2 (by omega) (by omega)⟩)
    · refine Or.inl ⟨?_, rfl⟩
      simp [EthR.typeOk] at h
      rcases h with h | ⟨⟨h1, h2⟩, h3⟩
      · exact Or.inl (by simpa using h)
      · exact Or.inr ⟨by simp; omega, h1, h2, by simpa using h3⟩
  have HB : ∀ A, Hid (Below w.heap.size w (w.alloc A)) := fun A => (Below.refl _ _).alloc (Nat.le_refl _) _
  unfold EthR.ok
  generalize EthR.typeOk ty = tk at key
  rcases key with ⟨h1 | ⟨h1, h2, h3, h4⟩, rfl⟩ | ⟨⟨h1, h2 | ⟨h2, h3⟩ | ⟨h2, h3, h4⟩⟩, rfl⟩
  all_goals
    rcases hv with ⟨rfl, rfl⟩ | ⟨v1, v2, v3, v4⟩
    all_goals
      go_enter Try.func18, Try.ntmps18
      go_wp2_with fail
      go_ret
      first
        | exact ⟨rfl, (HB _).out⟩
        | (refine ⟨ret_bool (a := decide ((body.size : Int) ≤ 1500)) ?_, (HB _).out⟩
           rw [Bool.true_and]
           exact decide_eq_decide.2 (by omega))
end Go.Proofs.Ytnglpoognlegfaa
