/- A slice of vectors as an argument. By an AI agent. -/
import Derived.Test.YthadlpiioabajaaOpenVec
import Derived.Test.YthadlpiioabajaaVecBest
import Derived.Deep.Slices
namespace Go.Proofs.Ythadlpiioabajaa
open Go.ChangeShapes Go.WideShapes Go.ChangeAt Go.RowKit Go.Deep

section
variable {H : Type} {enc : TypeId × Value → H} {w : World} {held : Bool} {sp : Nat → Bool} {base : Nat}
theorem trod_id8 {n : Nat} {l : List Value} {x : DataW H × List MemPlace} (h : DataW.trod enc Try.prog w base sp held n 27 l = some x) : ∃ r : Nat → UInt8, l = [.int .u8 ((r 0).toNat : Int), .int .u8 ((r 1).toNat : Int), .int .u8 ((r 2).toNat : Int), .int .u8 ((r 3).toNat : Int), .int .u8 ((r 4).toNat : Int), .int .u8 ((r 5).toNat : Int), .int .u8 ((r 6).toNat : Int), .int .u8 ((r 7).toNat : Int)] := by
  obtain ⟨xs, m, _, _, hl, hxl, hi⟩ := DataW.trod_array Try.underlying27 h
  have hl : l.length = 8 := hl.trans (by kernel_rfl)
  have key : ∀ i (h8 : i < 8), ∃ u : UInt8, l[i] = .int .u8 (u.toNat : Int) := by
    intro i h8
    have h := hi i h8
    rw [show Try.prog.cellsOf 5 = 1 from by kernel_rfl, List.getElem?_eq_getElem (show i < xs.length by omega), Nat.mul_one, List.drop_eq_getElem_cons (by omega)] at h
    obtain ⟨n, e, _, wf⟩ := DataW.trod_int Try.underlying5 h
    simp only [List.take_succ_cons, List.take_zero, List.cons.injEq, and_true] at e
    simp only [Lit.wf, Bool.and_eq_true, decide_eq_true_eq] at wf
    have wf : 0 ≤ n ∧ n ≤ 255 := wf
    refine ⟨UInt8.ofNat n.toNat, ?_⟩
    rw [e]
    congr 1
    rw [UInt8.toNat_ofNat']
    omega
  obtain ⟨a0, a1, a2, a3, a4, a5, a6, a7, rfl⟩ : ∃ a0 a1 a2 a3 a4 a5 a6 a7, l = [a0, a1, a2, a3, a4, a5, a6, a7] := by
    match l, hl with
    | [a0, a1, a2, a3, a4, a5, a6, a7], _ => exact ⟨a0, a1, a2, a3, a4, a5, a6, a7, rfl⟩
  obtain ⟨u0, h0⟩ := key 0 (by decide)
  obtain ⟨u1, h1⟩ := key 1 (by decide)
  obtain ⟨u2, h2⟩ := key 2 (by decide)
  obtain ⟨u3, h3⟩ := key 3 (by decide)
  obtain ⟨u4, h4⟩ := key 4 (by decide)
  obtain ⟨u5, h5⟩ := key 5 (by decide)
  obtain ⟨u6, h6⟩ := key 6 (by decide)
  obtain ⟨u7, h7⟩ := key 7 (by decide)
  have h0 : a0 = _ := h0
  have h1 : a1 = _ := h1
  have h2 : a2 = _ := h2
  have h3 : a3 = _ := h3
  have h4 : a4 = _ := h4
  have h5 : a5 = _ := h5
  have h6 : a6 = _ := h6
  have h7 : a7 = _ := h7
  subst h0 h1 h2 h3 h4 h5 h6 h7
  exact ⟨fun x => [u0, u1, u2, u3, u4, u5, u6, u7].getD x 0, rfl⟩

theorem trod_i64 {n : Nat} {v : Value} {x : DataW H × List MemPlace} (h : DataW.trod enc Try.prog w base sp held n 3 [v] = some x) : ∃ c : Int, v = .int .i64 c ∧ (-9223372036854775808 ≤ c ∧ c ≤ 9223372036854775807) := by
  obtain ⟨c, e, _, wf⟩ := DataW.trod_int Try.underlying3 h
  simp only [List.cons.injEq, and_true] at e
  simp only [Lit.wf, Bool.and_eq_true, decide_eq_true_eq] at wf
  exact ⟨c, e, wf⟩

theorem trod_vec {n : Nat} {l : List Value} {x : DataW H × List MemPlace} (h : DataW.trod enc Try.prog w base sp held n 29 l = some x) :
    ∃ v : Vec.D, l = v.cells ∧ (-9223372036854775808 ≤ v.c ∧ v.c ≤ 9223372036854775807) ∧ (-9223372036854775808 ≤ v.p ∧ v.p ≤ 9223372036854775807) := by
  obtain ⟨xs, m, _, _, hl, hxl, hf⟩ := DataW.trod_struct Try.underlying29 h
  have hl : l.length = 18 := hl.trans (by kernel_rfl)
  have h0 := hf 0 _ rfl
  have h1 := hf 1 _ rfl
  have h2 := hf 2 _ rfl
  have h3 := hf 3 _ rfl
  have hx : xs.length = 4 := hxl.trans rfl
  rw [List.getElem?_eq_getElem (by omega)] at h0 h1 h2 h3
  have e8 : Try.prog.cellsOf 27 = 8 := by kernel_rfl
  have e1 : Try.prog.cellsOf 3 = 1 := by kernel_rfl
  obtain ⟨a0, a1, a2, a3, a4, a5, a6, a7, a8, a9, a10, a11, a12, a13, a14, a15, a16, a17, rfl⟩ : ∃ a0 a1 a2 a3 a4 a5 a6 a7 a8 a9 a10 a11 a12 a13 a14 a15 a16 a17, l = [a0, a1, a2, a3, a4, a5, a6, a7, a8, a9, a10, a11, a12, a13, a14, a15, a16, a17] := by
    match l, hl with
    | [a0, a1, a2, a3, a4, a5, a6, a7, a8, a9, a10, a11, a12, a13, a14, a15, a16, a17], _ => exact ⟨a0, a1, a2, a3, a4, a5, a6, a7, a8, a9, a10, a11, a12, a13, a14, a15, a16, a17, rfl⟩
  change DataW.trod enc _ w base sp held m 27 (List.take (Program.cellsOf _ 27) (List.drop 0 _)) = _ at h0
  change DataW.trod enc _ w base sp held m 3 (List.take (Program.cellsOf _ 3) (List.drop 8 _)) = _ at h1
  change DataW.trod enc _ w base sp held m 27 (List.take (Program.cellsOf _ 27) (List.drop 9 _)) = _ at h2
  change DataW.trod enc _ w base sp held m 3 (List.take (Program.cellsOf _ 3) (List.drop 17 _)) = _ at h3
  rw [e8] at h0 h2
  rw [e1] at h1 h3
  obtain ⟨r, hr⟩ := trod_id8 h0
  obtain ⟨c, hc, wc⟩ := trod_i64 h1
  obtain ⟨b, hb⟩ := trod_id8 h2
  obtain ⟨p, hp, wp⟩ := trod_i64 h3
  refine ⟨⟨r, c, b, p⟩, ?_, wc, wp⟩
  simp only [List.drop_zero, List.drop_succ_cons, List.take_succ_cons, List.take_zero, List.cons.injEq, and_true] at hr hb
  obtain ⟨r0, r1, r2, r3, r4, r5, r6, r7⟩ := hr
  obtain ⟨b0, b1, b2, b3, b4, b5, b6, b7⟩ := hb
  unfold Vec.D.cells
  rw [r0, r1, r2, r3, r4, r5, r6, r7, b0, b1, b2, b3, b4, b5, b6, b7, hc, hp]

theorem open_vecs {r : Reach} {b0 : Nat} {v : Value} {d : DataW H} {p : List MemPlace} (hv : Value.okWide Try.prog w r b0 39 v) (h : DataW.Trod enc Try.prog w 0 sp held 39 v d p) :
    ∃ (ao : Option Addr) (vs : List Vec.D) (cap : Nat), v = .slice ao vs.length cap ∧ vs.length ≤ 9223372036854775807 ∧ Vec.At w ao vs ∧ (∀ u ∈ vs, (-9223372036854775808 ≤ u.c ∧ u.c ≤ 9223372036854775807) ∧ (-9223372036854775808 ≤ u.p ∧ u.p ≤ 9223372036854775807)) := by
  obtain ⟨a0, len0, cap0, rfl⟩ := okWide_slice Try.underlying39 hv
  obtain ⟨fuel, hf⟩ := h
  have hc : (Value.slice a0 len0 cap0).cells.toList = [.slice a0 len0 cap0] := rfl
  rw [hc] at hf
  rcases open_slice Try.underlying39 hf with ⟨hcs, _⟩ | ⟨a, len, cap, m, n, D, Pl, hcs, _, hl, hm, hmm, _, hi⟩
  · simp only [List.cons.injEq, and_true] at hcs
    exact ⟨none, [], 0, hcs, by decide, .inl rfl, fun u hu => by cases hu⟩
  · simp only [List.cons.injEq, and_true] at hcs
    have hlm : len ≤ m := by rw [hmm]; split <;> omega
    have e18 : Try.prog.cellsOf 29 = 18 := by kernel_rfl
    have each : ∀ i, i < len → ∃ v : Vec.D, w.cells? 0 (a.add (i * 18)) 18 = some v.cells ∧ (-9223372036854775808 ≤ v.c ∧ v.c ≤ 9223372036854775807) ∧ (-9223372036854775808 ≤ v.p ∧ v.p ≤ 9223372036854775807) := by
      intro i hil
      obtain ⟨cs', hc, ht⟩ := hi i (by omega)
      obtain ⟨v, rfl, h1, h2⟩ := trod_vec ht
      rw [e18] at hc
      exact ⟨v, hc, h1, h2⟩
    refine ⟨some a, (List.range len).attach.map fun i => (each i.1 (List.mem_range.1 i.2)).choose, cap, by rw [List.length_map, List.length_attach, List.length_range]; exact hcs, by rw [List.length_map, List.length_attach, List.length_range]; unfold maxLen at hm; omega, ?_, ?_⟩
    · by_cases h0 : len = 0
      · subst h0; exact .inl rfl
      · obtain ⟨_, _, hcell⟩ := World.cells?_some (each 0 (by omega)).choose_spec.1
        have hc0 := hcell 0 (by decide)
        obtain ⟨b, off, spot⟩ := a
        have hc0' : w.cell? (((⟨b, off, spot⟩ : Addr).add (0 * 18)).add 0) = some _ := hc0.trans (List.getElem?_eq_getElem (by simp [Vec.D.cells]))
        have hspot : spot = none := by simpa [Addr.add] using World.cell?_spot hc0'
        subst hspot
        refine .inr ⟨b, off, rfl, ?_, ?_⟩
        · have := block_lt_of_cell hc0'
          simpa [Addr.add] using this
        · intro i hil j v hj
          have hil' : i < len := by simpa using hil
          obtain ⟨_, _, hcell⟩ := World.cells?_some (each i hil').choose_spec.1
          have hj18 : j < 18 := by
            have := (List.getElem?_eq_some_iff.1 hj).1
            simpa [Vec.D.cells] using this
          have hq := hcell j hj18
          refine Eq.trans (congrArg w.cell? (show (⟨b, off + i * 18 + j, none⟩ : Addr) = ((⟨b, off, none⟩ : Addr).add (i * 18)).add j by rw [Addr.add_mid, Addr.add_mid])) (hq.trans ?_)
          simpa using hj
    · intro u hu
      obtain ⟨i, _, rfl⟩ := List.mem_map.1 hu
      exact (each i.1 (List.mem_range.1 i.2)).choose_spec.2
end
end Go.Proofs.Ythadlpiioabajaa
