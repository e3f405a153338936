/- Slices of one-cell values as arguments: bools, strings. By an AI agent. -/
import Derived.Test.YtmipdbmmhoacpaaRows
import Derived.Test.YtmipdbmmhoacpaaOpen
import Derived.Test.YtmipdbmmhoacpaaStrs
import Derived.Deep.Slices
import Derived.ChangeMaps
namespace Go.Proofs.Ytmipdbmmhoacpaa
open Go.ChangeShapes Go.WideShapes Go.ChangeAt Go.RowKit Go.Deep

section
variable {H : Type} {enc : TypeId × Value → H} {w : World} {held : Bool} {sp : Nat → Bool} {base : Nat}

theorem open_ones {st et : TypeId} {P : Value → Prop} (hst : Try.prog.underlying st = some (.slice et)) (h1 : Try.prog.cellsOf et = 1) (hP : ∀ n l x, DataW.trod enc Try.prog w 0 sp held n et l = some x → ∃ v, l = [v] ∧ P v)
    {r : Reach} {b0 : Nat} {v : Value} {d : DataW H} {p : List MemPlace} (hv : Value.okWide Try.prog w r b0 st v) (h : DataW.Trod enc Try.prog w 0 sp held st v d p) :
    ∃ (ao : Option Addr) (len cap : Nat), v = .slice ao len cap ∧ len ≤ 9223372036854775807 ∧ (len = 0 ∨ ∃ b off, ao = some ⟨b, off, none⟩ ∧ b < w.heap.size ∧ ∀ i, i < len → ∃ v, w.cell? ⟨b, off + i, none⟩ = some v ∧ P v) := by
  obtain ⟨a0, len0, cap0, rfl⟩ := okWide_slice hst hv
  obtain ⟨fuel, hf⟩ := h
  have hc : (Value.slice a0 len0 cap0).cells.toList = [.slice a0 len0 cap0] := rfl
  rw [hc] at hf
  rcases open_slice hst hf with ⟨hcs, _⟩ | ⟨a, len, cap, m, n, D, Pl, hcs, _, hl, hm, hmm, _, hi⟩
  · simp only [List.cons.injEq, and_true] at hcs
    exact ⟨none, 0, 0, hcs, by decide, .inl rfl⟩
  · simp only [List.cons.injEq, and_true] at hcs
    have hlm : len ≤ m := by rw [hmm]; split <;> omega
    have each : ∀ i, i < len → ∃ v, w.cell? (a.add i) = some v ∧ P v := by
      intro i hil
      obtain ⟨cs', hc, ht⟩ := hi i (by omega)
      obtain ⟨v, e, h1'⟩ := hP _ _ _ ht
      rw [h1, Nat.mul_one] at hc
      obtain ⟨_, _, hcell⟩ := World.cells?_some hc
      have h0 := hcell 0 (by decide)
      have e0 : cs'[0]? = some v := by rw [e]; rfl
      have ea : (a.add i).add 0 = a.add i := by
        unfold Addr.add
        split <;> simp_all
      rw [e0, ea] at h0
      exact ⟨v, h0, h1'⟩
    refine ⟨some a, len, cap, hcs, by unfold maxLen at *; omega, ?_⟩
    by_cases h0 : len = 0
    · exact .inl h0
    · obtain ⟨v0, hc0, _⟩ := each 0 (by omega)
      obtain ⟨b, off, spot⟩ := a
      have hspot : spot = none := by simpa [Addr.add] using World.cell?_spot hc0
      subst hspot
      refine .inr ⟨b, off, rfl, by simpa [Addr.add] using block_lt_of_cell hc0, fun i hil => ?_⟩
      obtain ⟨v, hv, hp⟩ := each i hil
      exact ⟨v, by rw [← hv, Addr.add_mid], hp⟩

theorem open_bools {r : Reach} {b0 : Nat} {v : Value} {d : DataW H} {p : List MemPlace} (hv : Value.okWide Try.prog w r b0 53 v) (h : DataW.Trod enc Try.prog w 0 sp held 53 v d p) :
    ∃ (ao : Option Addr) (len cap : Nat) (f : Nat → Bool), v = .slice ao len cap ∧ len ≤ 9223372036854775807 ∧ (len = 0 ∨ ∃ b off, ao = some ⟨b, off, none⟩ ∧ b < w.heap.size ∧ ∀ i, i < len → w.cell? ⟨b, off + i, none⟩ = some (.bool (f i))) := by
  obtain ⟨ao, len, cap, rfl, hl, hc⟩ := open_ones (P := fun v => ∃ b, v = .bool b) Try.underlying53 (by kernel_rfl) (fun n l x h => by
    obtain ⟨b, rfl, _⟩ := DataW.trod_bool Try.underlying4 h
    exact ⟨_, rfl, b, rfl⟩) hv h
  rcases hc with h0 | ⟨b, off, rfl, hb, hc⟩
  · exact ⟨ao, len, cap, fun _ => false, rfl, hl, .inl h0⟩
  · have hc' : ∀ i, ∃ u : Bool, i < len → w.cell? ⟨b, off + i, none⟩ = some (.bool u) := fun i => by
      by_cases hi : i < len
      · obtain ⟨v, h1, u, rfl⟩ := hc i hi
        exact ⟨u, fun _ => h1⟩
      · exact ⟨false, fun h => absurd h hi⟩
    exact ⟨_, len, cap, fun i => (hc' i).choose, rfl, hl, .inr ⟨b, off, rfl, hb, fun i hi => (hc' i).choose_spec hi⟩⟩

theorem open_strs {r : Reach} {b0 : Nat} {v : Value} {d : DataW H} {p : List MemPlace} (hv : Value.okWide Try.prog w r b0 38 v) (h : DataW.Trod enc Try.prog w 0 sp held 38 v d p) :
    ∃ (ao : Option Addr) (ss : List ByteArray) (cap : Nat), v = .slice ao ss.length cap ∧ ss.length ≤ 9223372036854775807 ∧ Strs.At w ao ss ∧ ∀ s ∈ ss, s.size ≤ 9223372036854775807 := by
  obtain ⟨ao, len, cap, rfl, hl, hc⟩ := open_ones (P := fun v => ∃ s : ByteArray, v = .string s ∧ s.size ≤ 9223372036854775807) Try.underlying38 (by kernel_rfl) (fun n l x h => by
    obtain ⟨s, rfl, _, hs⟩ := DataW.trod_string Try.underlying9 h
    exact ⟨_, rfl, s, rfl, hs⟩) hv h
  rcases hc with h0 | ⟨b, off, rfl, hb, hc⟩
  · subst h0
    exact ⟨ao, [], cap, rfl, by decide, .inl rfl, fun s hs => by cases hs⟩
  · have hc' : ∀ i, ∃ u : ByteArray, i < len → w.cell? ⟨b, off + i, none⟩ = some (.string u) ∧ u.size ≤ 9223372036854775807 := fun i => by
      by_cases hi : i < len
      · obtain ⟨v, h1, u, rfl, h2⟩ := hc i hi
        exact ⟨u, fun _ => ⟨h1, h2⟩⟩
      · exact ⟨ByteArray.empty, fun h => absurd h hi⟩
    refine ⟨_, (List.range len).map fun i => (hc' i).choose, cap, by simp, by simpa using hl, .inr ⟨b, off, rfl, hb, fun i hi => ?_⟩, fun s hs => ?_⟩
    · have hi' : i < len := by simpa using hi
      rw [((hc' i).choose_spec hi').1]
      simp
    · obtain ⟨i, hi, rfl⟩ := List.mem_map.1 hs
      exact ((hc' i).choose_spec (List.mem_range.1 hi)).2
end
end Go.Proofs.Ytmipdbmmhoacpaa
