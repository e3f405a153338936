/- Slices of stations, of acts, of numbers, as arguments. By an AI agent. -/
import Derived.Test.YtcdklbhfcfamnaaRows
import Derived.Test.YtcdklbhfcfamnaaOpen
import Derived.Test.YtcdklbhfcfamnaaLearnNew
import Derived.Deep.Slices
import Derived.ChangeMaps
import Derived.Lib.SmallJoins
namespace Go.Proofs.Ytcdklbhfcfamnaa
open Go.ChangeShapes Go.WideShapes Go.ChangeAt Go.RowKit Go.Deep Go.Joins

/-- the slice at ao holds these, each of k cells -/
def ManyAt {α : Type} (w : World) (ao : Option Addr) (encA : α → List Value) (k : Nat) (vs : List α) : Prop := vs = [] ∨ ∃ b off, ao = some ⟨b, off, none⟩ ∧ b < w.heap.size ∧ ∀ i (h : i < vs.length) j v, (encA vs[i])[j]? = some v → w.cell? ⟨b, off + i * k + j, none⟩ = some v

/-- an act -/
structure ActD where
  (x : UInt8) (v port n : Int) (m : Mac6)
def ActD.cells (a : ActD) : List Value := [.int .u8 (a.x.toNat : Int), .int .i64 a.v, .int .i64 a.port, .int .i64 a.n, .int .u8 (a.m.a.toNat : Int), .int .u8 (a.m.b.toNat : Int), .int .u8 (a.m.c.toNat : Int), .int .u8 (a.m.d.toNat : Int), .int .u8 (a.m.e.toNat : Int), .int .u8 (a.m.f.toNat : Int)]
def ActD.ok (a : ActD) : Prop := I64 a.v ∧ I64 a.port ∧ I64 a.n

section
variable {H : Type} {enc : TypeId × Value → H} {w : World} {held : Bool} {sp : Nat → Bool} {base : Nat}
set_option maxRecDepth 20000 in
theorem open_many {α : Type} {st et : TypeId} {G : α → Prop} (encA : α → List Value) (k : Nat) (hk0 : 0 < k) (hlen : ∀ a, (encA a).length = k) (hst : Try.prog.underlying st = some (.slice et)) (hke : Try.prog.cellsOf et = k) (hP : ∀ n l x, DataW.trod enc Try.prog w 0 sp held n et l = some x → ∃ a, l = encA a ∧ G a)
    {r : Reach} {b0 : Nat} {v : Value} {d : DataW H} {p : List MemPlace} (hv : Value.okWide Try.prog w r b0 st v) (h : DataW.Trod enc Try.prog w 0 sp held st v d p) :
    ∃ (ao : Option Addr) (vs : List α) (cap : Nat), v = .slice ao vs.length cap ∧ vs.length ≤ 9223372036854775807 ∧ ManyAt w ao encA k vs ∧ ∀ a ∈ vs, G a := by
  obtain ⟨a0, len0, cap0, rfl⟩ := okWide_slice hst hv
  obtain ⟨fuel, hf⟩ := h
  have hc : (Value.slice a0 len0 cap0).cells.toList = [.slice a0 len0 cap0] := rfl
  rw [hc] at hf
  rcases open_slice hst hf with ⟨hcs, _⟩ | ⟨a, len, cap, m, n, D, Pl, hcs, _, hl, hm, hmm, _, hi⟩
  · simp only [List.cons.injEq, and_true] at hcs
    exact ⟨none, [], 0, hcs, Nat.zero_le _, .inl rfl, fun u hu => by cases hu⟩
  · simp only [List.cons.injEq, and_true] at hcs
    have hlm : len ≤ m := by rw [hmm]; split <;> omega
    have each : ∀ i, i < len → ∃ v : α, w.cells? 0 (a.add (i * k)) k = some (encA v) ∧ G v := by
      intro i hil
      obtain ⟨cs', hc, ht⟩ := hi i (by omega)
      obtain ⟨v, rfl, h1⟩ := hP _ _ _ ht
      rw [hke] at hc
      exact ⟨v, hc, h1⟩
    refine ⟨some a, (List.range len).attach.map fun i => (each i.1 (List.mem_range.1 i.2)).choose, cap, by rw [List.length_map, List.length_attach, List.length_range]; exact hcs, by rw [List.length_map, List.length_attach, List.length_range]; unfold maxLen at hm; omega, ?_, ?_⟩
    · by_cases h0 : len = 0
      · subst h0; exact .inl rfl
      · obtain ⟨_, _, hcell⟩ := World.cells?_some (each 0 (by omega)).choose_spec.1
        have hc0 := hcell 0 hk0
        obtain ⟨b, off, spot⟩ := a
        have hc0' : w.cell? (((⟨b, off, spot⟩ : Addr).add (0 * k)).add 0) = some _ := hc0.trans (List.getElem?_eq_getElem (by rw [hlen]; exact hk0))
        have hspot : spot = none := by simpa [Addr.add] using World.cell?_spot hc0'
        subst hspot
        refine .inr ⟨b, off, rfl, ?_, ?_⟩
        · have := block_lt_of_cell hc0'
          simpa [Addr.add] using this
        · intro i hil j v hj
          have hil' : i < len := by simpa using hil
          obtain ⟨_, _, hcell⟩ := World.cells?_some (each i hil').choose_spec.1
          have hj18 : j < k := by
            have := (List.getElem?_eq_some_iff.1 hj).1
            rwa [hlen] at this
          have hq := hcell j hj18
          refine Eq.trans (congrArg w.cell? (show (⟨b, off + i * k + j, none⟩ : Addr) = ((⟨b, off, none⟩ : Addr).add (i * k)).add j by rw [Addr.add_mid, Addr.add_mid])) (hq.trans ?_)
          simpa using hj
    · intro u hu
      obtain ⟨i, _, rfl⟩ := List.mem_map.1 hu
      exact (each i.1 (List.mem_range.1 i.2)).choose_spec.2

set_option maxRecDepth 20000 in
theorem trod_u8 {n : Nat} {v : Value} {x : DataW H × List MemPlace} (h : DataW.trod enc Try.prog w base sp held n 5 [v] = some x) : ∃ u : UInt8, v = .int .u8 (u.toNat : Int) := by
  obtain ⟨n, e, _, wf⟩ := DataW.trod_int Try.underlying5 h
  simp only [List.cons.injEq, and_true] at e
  simp only [Lit.wf, Bool.and_eq_true, decide_eq_true_eq] at wf
  have wf : 0 ≤ n ∧ n ≤ 255 := wf
  refine ⟨UInt8.ofNat n.toNat, ?_⟩
  rw [e]
  congr 1
  rw [UInt8.toNat_ofNat']
  omega
set_option maxRecDepth 20000 in
theorem trod_i64 {n : Nat} {v : Value} {x : DataW H × List MemPlace} (h : DataW.trod enc Try.prog w base sp held n 3 [v] = some x) : ∃ c : Int, v = .int .i64 c ∧ I64 c := by
  obtain ⟨c, e, _, wf⟩ := DataW.trod_int Try.underlying3 h
  simp only [List.cons.injEq, and_true] at e
  simp only [Lit.wf, Bool.and_eq_true, decide_eq_true_eq] at wf
  exact ⟨c, e, wf⟩
set_option maxRecDepth 20000 in
theorem trod_mac {n : Nat} {l : List Value} {x : DataW H × List MemPlace} (h : DataW.trod enc Try.prog w base sp held n 23 l = some x) : ∃ m : Mac6, l = [.int .u8 (m.a.toNat : Int), .int .u8 (m.b.toNat : Int), .int .u8 (m.c.toNat : Int), .int .u8 (m.d.toNat : Int), .int .u8 (m.e.toNat : Int), .int .u8 (m.f.toNat : Int)] := by
  obtain ⟨xs, m, _, _, hl, hxl, hi⟩ := DataW.trod_array Try.underlying23 h
  have hl : l.length = 6 := hl.trans (by kernel_rfl)
  have key : ∀ i (h8 : i < 6), ∃ u : UInt8, l[i] = .int .u8 (u.toNat : Int) := by
    intro i h8
    have h := hi i h8
    rw [show Try.prog.cellsOf 5 = 1 from by kernel_rfl, List.getElem?_eq_getElem (show i < xs.length by omega), Nat.mul_one, List.drop_eq_getElem_cons (by omega)] at h
    simp only [List.take_succ_cons, List.take_zero] at h
    exact trod_u8 h
  obtain ⟨a0, a1, a2, a3, a4, a5, rfl⟩ : ∃ a0 a1 a2 a3 a4 a5, l = [a0, a1, a2, a3, a4, a5] := by
    match l, hl with
    | [a0, a1, a2, a3, a4, a5], _ => exact ⟨a0, a1, a2, a3, a4, a5, rfl⟩
  obtain ⟨u0, h0⟩ := key 0 (by decide)
  obtain ⟨u1, h1⟩ := key 1 (by decide)
  obtain ⟨u2, h2⟩ := key 2 (by decide)
  obtain ⟨u3, h3⟩ := key 3 (by decide)
  obtain ⟨u4, h4⟩ := key 4 (by decide)
  obtain ⟨u5, h5⟩ := key 5 (by decide)
  have h0 : a0 = _ := h0
  have h1 : a1 = _ := h1
  have h2 : a2 = _ := h2
  have h3 : a3 = _ := h3
  have h4 : a4 = _ := h4
  have h5 : a5 = _ := h5
  subst h0 h1 h2 h3 h4 h5
  exact ⟨⟨u0, u1, u2, u3, u4, u5⟩, rfl⟩

def macCells (m : Mac6) : List Value := [.int .u8 (m.a.toNat : Int), .int .u8 (m.b.toNat : Int), .int .u8 (m.c.toNat : Int), .int .u8 (m.d.toNat : Int), .int .u8 (m.e.toNat : Int), .int .u8 (m.f.toNat : Int)]
set_option maxRecDepth 20000 in
theorem open_macs {r : Reach} {b0 : Nat} {v : Value} {d : DataW H} {p : List MemPlace} (hv : Value.okWide Try.prog w r b0 45 v) (h : DataW.Trod enc Try.prog w 0 sp held 45 v d p) :
    ∃ (ao : Option Addr) (ms : List Mac6) (cap : Nat), v = .slice ao ms.length cap ∧ ms.length ≤ 9223372036854775807 ∧ ManyAt w ao macCells 6 ms := by
  obtain ⟨ao, ms, cap, rfl, hl, hm, _⟩ := open_many (G := fun _ => True) macCells 6 (by decide) (fun _ => rfl) Try.underlying45 (by kernel_rfl) (fun n l x h => by
    obtain ⟨m, rfl⟩ := trod_mac h
    exact ⟨m, rfl, trivial⟩) hv h
  exact ⟨ao, ms, cap, rfl, hl, hm⟩

set_option maxRecDepth 20000 in
theorem trod_act {n : Nat} {l : List Value} {x : DataW H × List MemPlace} (h : DataW.trod enc Try.prog w base sp held n 38 l = some x) : ∃ a : ActD, l = a.cells ∧ a.ok := by
  obtain ⟨xs, m, _, _, hl, hxl, hf⟩ := DataW.trod_struct Try.underlying38 h
  have hl : l.length = 10 := hl.trans (by kernel_rfl)
  have h0 := hf 0 _ rfl
  have h1 := hf 1 _ rfl
  have h2 := hf 2 _ rfl
  have h3 := hf 3 _ rfl
  have h4 := hf 4 _ rfl
  have hx : xs.length = 5 := hxl.trans rfl
  rw [List.getElem?_eq_getElem (by omega)] at h0 h1 h2 h3 h4
  have e6 : Try.prog.cellsOf 23 = 6 := by kernel_rfl
  have e1 : Try.prog.cellsOf 3 = 1 := by kernel_rfl
  have e8 : Try.prog.cellsOf 5 = 1 := by kernel_rfl
  obtain ⟨a0, a1, a2, a3, a4, a5, a6, a7, a8, a9, rfl⟩ : ∃ a0 a1 a2 a3 a4 a5 a6 a7 a8 a9, l = [a0, a1, a2, a3, a4, a5, a6, a7, a8, a9] := by
    match l, hl with
    | [a0, a1, a2, a3, a4, a5, a6, a7, a8, a9], _ => exact ⟨a0, a1, a2, a3, a4, a5, a6, a7, a8, a9, rfl⟩
  change DataW.trod enc _ w base sp held m 5 (List.take (Program.cellsOf _ 5) (List.drop 0 _)) = _ at h0
  change DataW.trod enc _ w base sp held m 3 (List.take (Program.cellsOf _ 3) (List.drop 1 _)) = _ at h1
  change DataW.trod enc _ w base sp held m 3 (List.take (Program.cellsOf _ 3) (List.drop 2 _)) = _ at h2
  change DataW.trod enc _ w base sp held m 3 (List.take (Program.cellsOf _ 3) (List.drop 3 _)) = _ at h3
  change DataW.trod enc _ w base sp held m 23 (List.take (Program.cellsOf _ 23) (List.drop 4 _)) = _ at h4
  rw [e8] at h0
  rw [e1] at h1 h2 h3
  rw [e6] at h4
  obtain ⟨u, hu⟩ := trod_u8 h0
  obtain ⟨v, hv, wv⟩ := trod_i64 h1
  obtain ⟨p, hp, wp⟩ := trod_i64 h2
  obtain ⟨q, hq, wq⟩ := trod_i64 h3
  obtain ⟨mm, hmm⟩ := trod_mac h4
  refine ⟨⟨u, v, p, q, mm⟩, ?_, wv, wp, wq⟩
  simp only [List.drop_zero, List.drop_succ_cons, List.take_succ_cons, List.take_zero, List.cons.injEq, and_true] at hmm
  obtain ⟨r0, r1, r2, r3, r4, r5⟩ := hmm
  unfold ActD.cells
  rw [hu, hv, hp, hq, r0, r1, r2, r3, r4, r5]
set_option maxRecDepth 20000 in
theorem open_acts {r : Reach} {b0 : Nat} {v : Value} {d : DataW H} {p : List MemPlace} (hv : Value.okWide Try.prog w r b0 36 v) (h : DataW.Trod enc Try.prog w 0 sp held 36 v d p) :
    ∃ (ao : Option Addr) (vs : List ActD) (cap : Nat), v = .slice ao vs.length cap ∧ vs.length ≤ 9223372036854775807 ∧ ManyAt w ao ActD.cells 10 vs ∧ ∀ a ∈ vs, a.ok :=
  open_many ActD.cells 10 (by decide) (fun _ => rfl) Try.underlying36 (by kernel_rfl) (fun n l x h => trod_act h) hv h
set_option maxRecDepth 20000 in
theorem open_lims {r : Reach} {b0 : Nat} {v : Value} {d : DataW H} {p : List MemPlace} (hv : Value.okWide Try.prog w r b0 30 v) (h : DataW.Trod enc Try.prog w 0 sp held 30 v d p) :
    ∃ (ao : Option Addr) (zs : List Int) (cap : Nat), v = .slice ao zs.length cap ∧ zs.length ≤ 9223372036854775807 ∧ IntsAt w ao zs := by
  obtain ⟨ao, zs, cap, rfl, hl, hm, _⟩ := open_many (G := I64) (fun z : Int => [Value.int .i64 z]) 1 (by decide) (fun _ => rfl) Try.underlying30 (by kernel_rfl) (fun n l x h => by
    obtain ⟨c, e, _, wf⟩ := DataW.trod_int Try.underlying3 h
    simp only [Lit.wf, Bool.and_eq_true, decide_eq_true_eq] at wf
    exact ⟨c, e, wf⟩) hv h
  refine ⟨ao, zs, cap, rfl, hl, ?_⟩
  rcases hm with h | ⟨b, off, rfl, hb, hc⟩
  · exact .inl h
  · refine .inr ⟨b, off, rfl, fun i hi => ?_⟩
    have := hc i hi 0 (.int .i64 zs[i]) rfl
    rw [List.getD, List.getElem?_eq_getElem hi]
    simpa using this
end
end Go.Proofs.Ytcdklbhfcfamnaa
