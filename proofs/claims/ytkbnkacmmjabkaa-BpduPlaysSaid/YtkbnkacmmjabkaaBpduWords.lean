/- Words and their texts: unlike words, unlike texts. By an AI agent. -/
import Derived.Test.YtkbnkacmmjabkaaBpduAgain
import Derived.Test.YtkbnkacmmjabkaaArrays
import Derived.Laws.StructEq
namespace Go.Proofs.Ytkbnkacmmjabkaa
open Go.RowKit

namespace Bpdu
/-- are two words the same? -/
def eqW (r b : Nat → UInt8) (co po ag ma he de : Int) (ch ak : Bool) (r' b' : Nat → UInt8) (co' po' ag' ma' he' de' : Int) (ch' ak' : Bool) : Bool :=
  eqB [r 0, r 1, r 2, r 3, r 4, r 5, r 6, r 7] [r' 0, r' 1, r' 2, r' 3, r' 4, r' 5, r' 6, r' 7] && (eqB [b 0, b 1, b 2, b 3, b 4, b 5, b 6, b 7] [b' 0, b' 1, b' 2, b' 3, b' 4, b' 5, b' 6, b' 7] && (co == co' && (po == po' && (ag == ag' && (ma == ma' && (he == he' && (de == de' && (ch == ch' && ak == ak'))))))))

theorem eqW_iff (r b : Nat → UInt8) (co po ag ma he de : Int) (ch ak : Bool) (r' b' : Nat → UInt8) (co' po' ag' ma' he' de' : Int) (ch' ak' : Bool) : eqW r b co po ag ma he de ch ak r' b' co' po' ag' ma' he' de' ch' ak' = true ↔
    [r 0, r 1, r 2, r 3, r 4, r 5, r 6, r 7] = [r' 0, r' 1, r' 2, r' 3, r' 4, r' 5, r' 6, r' 7] ∧ [b 0, b 1, b 2, b 3, b 4, b 5, b 6, b 7] = [b' 0, b' 1, b' 2, b' 3, b' 4, b' 5, b' 6, b' 7] ∧ co = co' ∧ po = po' ∧ ag = ag' ∧ ma = ma' ∧ he = he' ∧ de = de' ∧ ch = ch' ∧ ak = ak' := by
  unfold eqW
  simp only [Bool.and_eq_true, beq_iff_eq, eqB_true]

theorem four_inj (n m : Nat) (hn : n ≤ 4294967295) (hm : m ≤ 4294967295) (h1 : UInt8.ofNat (n / 16777216) = UInt8.ofNat (m / 16777216)) (h2 : UInt8.ofNat (n / 65536) = UInt8.ofNat (m / 65536)) (h3 : UInt8.ofNat (n / 256) = UInt8.ofNat (m / 256)) (h4 : UInt8.ofNat n = UInt8.ofNat m) : n = m := by
  have h := num_four n hn
  rw [h1, h2, h3, h4, num_four m hm] at h
  exact h.symm
theorem two_inj (n m : Nat) (hn : n ≤ 65535) (hm : m ≤ 65535) (h3 : UInt8.ofNat (n / 256) = UInt8.ofNat (m / 256)) (h4 : UInt8.ofNat n = UInt8.ofNat m) : n = m := by
  have h := num_two n hn
  rw [h3, h4, num_two m hm] at h
  exact h.symm
theorem fl_inj (ch ak ch' ak' : Bool) (h : fl ch ak = fl ch' ak') : ch = ch' ∧ ak = ak' := by
  revert h
  cases ch <;> cases ak <;> cases ch' <;> cases ak' <;> decide
theorem fl_flip (ch ak : Bool) : fl (!ch) ak ≠ fl ch ak := by cases ch <;> cases ak <;> decide

theorem lit_inj (r b r' b' : Nat → UInt8) (co po ag ma he de co' po' ag' ma' he' de' : Nat) (ch ak ch' ak' : Bool) (h1 : co ≤ 4294967295) (h2 : po ≤ 65535) (h3 : ag ≤ 65535) (h4 : ma ≤ 65535) (h5 : he ≤ 65535) (h6 : de ≤ 65535)
    (h1' : co' ≤ 4294967295) (h2' : po' ≤ 65535) (h3' : ag' ≤ 65535) (h4' : ma' ≤ 65535) (h5' : he' ≤ 65535) (h6' : de' ≤ 65535) (h : lit r b co po ag ma he de ch ak = lit r' b' co' po' ag' ma' he' de' ch' ak') :
    [r 0, r 1, r 2, r 3, r 4, r 5, r 6, r 7] = [r' 0, r' 1, r' 2, r' 3, r' 4, r' 5, r' 6, r' 7] ∧ [b 0, b 1, b 2, b 3, b 4, b 5, b 6, b 7] = [b' 0, b' 1, b' 2, b' 3, b' 4, b' 5, b' 6, b' 7] ∧ co = co' ∧ po = po' ∧ ag = ag' ∧ ma = ma' ∧ he = he' ∧ de = de' ∧ ch = ch' ∧ ak = ak' := by
  simp only [lit, List.cons.injEq, and_true, true_and] at h
  obtain ⟨ef, er0, er1, er2, er3, er4, er5, er6, er7, ec1, ec2, ec3, ec4, eb0, eb1, eb2, eb3, eb4, eb5, eb6, eb7, ep1, ep2, ea1, ea2, em1, em2, eh1, eh2, ed1, ed2⟩ := h
  obtain ⟨e1, e2⟩ := fl_inj _ _ _ _ ef
  refine ⟨by rw [er0, er1, er2, er3, er4, er5, er6, er7], by rw [eb0, eb1, eb2, eb3, eb4, eb5, eb6, eb7], four_inj _ _ h1 h1' ec1 ec2 ec3 ec4, two_inj _ _ h2 h2' ep1 ep2, two_inj _ _ h3 h3' ea1 ea2, two_inj _ _ h4 h4' em1 em2, two_inj _ _ h5 h5' eh1 eh2, two_inj _ _ h6 h6' ed1 ed2, e1, e2⟩

/-- what BpduFlags says of the texts -/
theorem flags_law (r b : Nat → UInt8) (co po ag ma he de : Int) (ch ak : Bool) (r' b' : Nat → UInt8) (co' po' ag' ma' he' de' : Int) (ch' ak' : Bool) (h : right co po ag ma he de = true) (h' : right co' po' ag' ma' he' de' = true) :
    ((text r b co po ag ma he de ch ak == text r' b' co' po' ag' ma' he' de' ch' ak') = eqW r b co po ag ma he de ch ak r' b' co' po' ag' ma' he' de' ch' ak') ∧
    (text r b co po ag ma he de ch ak).length = 38 ∧ (text r b co po ag ma he de (!ch) ak).length = 38 ∧ (text r b co po ag ma he de (!ch) ak).take 7 = (text r b co po ag ma he de ch ak).take 7 ∧ (text r b co po ag ma he de (!ch) ak).drop 8 = (text r b co po ag ma he de ch ak).drop 8 ∧ (text r b co po ag ma he de (!ch) ak).getD 7 0 ≠ (text r b co po ag ma he de ch ak).getD 7 0 := by
  obtain ⟨c0, c1, c2, c3, c4, c5, c6, c7, c8, c9, c10, c11, c12⟩ := right_bounds h
  obtain ⟨d0, d1, d2, d3, d4, d5, d6, d7, d8, d9, d10, d11, d12⟩ := right_bounds h'
  obtain ⟨co, rfl⟩ := Int.eq_ofNat_of_zero_le (show 0 ≤ co by omega)
  obtain ⟨po, rfl⟩ := Int.eq_ofNat_of_zero_le (show 0 ≤ po by omega)
  obtain ⟨ag, rfl⟩ := Int.eq_ofNat_of_zero_le (show 0 ≤ ag by omega)
  obtain ⟨ma, rfl⟩ := Int.eq_ofNat_of_zero_le (show 0 ≤ ma by omega)
  obtain ⟨he, rfl⟩ := Int.eq_ofNat_of_zero_le (show 0 ≤ he by omega)
  obtain ⟨de, rfl⟩ := Int.eq_ofNat_of_zero_le (show 0 ≤ de by omega)
  obtain ⟨co', rfl⟩ := Int.eq_ofNat_of_zero_le (show 0 ≤ co' by omega)
  obtain ⟨po', rfl⟩ := Int.eq_ofNat_of_zero_le (show 0 ≤ po' by omega)
  obtain ⟨ag', rfl⟩ := Int.eq_ofNat_of_zero_le (show 0 ≤ ag' by omega)
  obtain ⟨ma', rfl⟩ := Int.eq_ofNat_of_zero_le (show 0 ≤ ma' by omega)
  obtain ⟨he', rfl⟩ := Int.eq_ofNat_of_zero_le (show 0 ≤ he' by omega)
  obtain ⟨de', rfl⟩ := Int.eq_ofNat_of_zero_le (show 0 ≤ de' by omega)
  rw [text_lit r b co po ag ma he de ch ak (by omega) (by omega) (by omega) (by omega) (by omega) (by omega), text_lit r b co po ag ma he de (!ch) ak (by omega) (by omega) (by omega) (by omega) (by omega) (by omega), text_lit r' b' co' po' ag' ma' he' de' ch' ak' (by omega) (by omega) (by omega) (by omega) (by omega) (by omega)]
  refine ⟨?_, rfl, rfl, rfl, rfl, fl_flip ch ak⟩
  rw [Bool.eq_iff_iff, beq_iff_eq, eqW_iff]
  constructor
  · intro h
    obtain ⟨e1, e2, e3, e4, e5, e6, e7, e8, e9, e10⟩ := lit_inj r b r' b' co po ag ma he de co' po' ag' ma' he' de' ch ak ch' ak' (by omega) (by omega) (by omega) (by omega) (by omega) (by omega) (by omega) (by omega) (by omega) (by omega) (by omega) (by omega) h
    exact ⟨e1, e2, by rw [e3], by rw [e4], by rw [e5], by rw [e6], by rw [e7], by rw [e8], e9, e10⟩
  · rintro ⟨e1, e2, e3, e4, e5, e6, e7, e8, rfl, rfl⟩
    obtain rfl : co = co' := by omega
    obtain rfl : po = po' := by omega
    obtain rfl : ag = ag' := by omega
    obtain rfl : ma = ma' := by omega
    obtain rfl : he = he' := by omega
    obtain rfl : de = de' := by omega
    simp only [List.cons.injEq, and_true] at e1 e2
    obtain ⟨er0, er1, er2, er3, er4, er5, er6, er7⟩ := e1
    obtain ⟨eb0, eb1, eb2, eb3, eb4, eb5, eb6, eb7⟩ := e2
    simp only [lit, er0, er1, er2, er3, er4, er5, er6, er7, eb0, eb1, eb2, eb3, eb4, eb5, eb6, eb7]
end Bpdu
end Go.Proofs.Ytkbnkacmmjabkaa
