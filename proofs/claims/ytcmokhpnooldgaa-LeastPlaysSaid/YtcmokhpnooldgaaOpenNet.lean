/- A net as an argument. By an AI agent. -/
import Derived.Test.YtcmokhpnooldgaaLn1
import Derived.Test.YtcmokhpnooldgaaOpenInts
import Derived.Deep.Slices
import Derived.ChangeMaps
namespace Go.Proofs.Ytcmokhpnooldgaa
open Go.ChangeShapes Go.WideShapes Go.ChangeAt Go.RowKit Go.Deep Go.Joins

section
variable {H : Type} {enc : TypeId × Value → H} {w : World} {held : Bool} {sp : Nat → Bool}
set_option maxRecDepth 20000 in
theorem open_rows18 {α : Type} {st et : TypeId} {G : α → Prop} (encA : α → List Value) (k : Nat) (hk0 : 0 < k) (hlen : ∀ a, (encA a).length = k) (hst : Try.prog.underlying st = some (.slice et)) (hke : Try.prog.cellsOf et = k) (hP : ∀ n l x, DataW.trod enc Try.prog w 0 sp held n et l = some x → ∃ a, l = encA a ∧ G a)
    {fuel : Nat} {v : Value} {x : DataW H × List MemPlace} (hf : DataW.trod enc Try.prog w 0 sp held fuel st [v] = some x) :
    ∃ (ao : Option Addr) (vs : List α) (cap : Nat), v = .slice ao vs.length cap ∧ RowsAt w ao encA k vs ∧ ∀ a ∈ vs, G a := by
  rcases open_slice hst hf with ⟨hcs, _⟩ | ⟨a, len, cap, m, n, D, Pl, hcs, _, hl, hm, hmm, _, hi⟩
  · simp only [List.cons.injEq, and_true] at hcs
    exact ⟨none, [], 0, hcs, .inl rfl, fun u hu => by cases hu⟩
  · simp only [List.cons.injEq, and_true] at hcs
    have hlm : len ≤ m := by rw [hmm]; split <;> omega
    have each : ∀ i, i < len → ∃ v : α, w.cells? 0 (a.add (i * k)) k = some (encA v) ∧ G v := by
      intro i hil
      obtain ⟨cs', hc, ht⟩ := hi i (by omega)
      obtain ⟨v, rfl, h1⟩ := hP _ _ _ ht
      rw [hke] at hc
      exact ⟨v, hc, h1⟩
    refine ⟨some a, (List.range len).attach.map fun i => (each i.1 (List.mem_range.1 i.2)).choose, cap, by rw [List.length_map, List.length_attach, List.length_range]; exact hcs, ?_, ?_⟩
    · by_cases h0 : len = 0
      · subst h0; exact .inl rfl
      · obtain ⟨_, _, hcell⟩ := World.cells?_some (each 0 (by omega)).choose_spec.1
        have hc0 := hcell 0 hk0
        obtain ⟨b, off, spot⟩ := a
        have hc0' : w.cell? (((⟨b, off, spot⟩ : Addr).add (0 * k)).add 0) = some _ := hc0.trans (List.getElem?_eq_getElem (by rw [hlen]; exact hk0))
        have hspot : spot = none := by simpa [Addr.add] using World.cell?_spot hc0'
        subst hspot
        refine .inr ⟨b, off, rfl, ?_, ?_⟩
        · have := block_lt_of_cell hc0'
          simpa [Addr.add] using this
        · intro i hil j v hj
          have hil' : i < len := by simpa using hil
          obtain ⟨_, _, hcell⟩ := World.cells?_some (each i hil').choose_spec.1
          have hj18 : j < k := by
            have := (List.getElem?_eq_some_iff.1 hj).1
            rwa [hlen] at this
          have hq := hcell j hj18
          refine Eq.trans (congrArg w.cell? (show (⟨b, off + i * k + j, none⟩ : Addr) = ((⟨b, off, none⟩ : Addr).add (i * k)).add j by rw [Addr.add_mid, Addr.add_mid])) (hq.trans ?_)
          simpa using hj
    · intro u hu
      obtain ⟨i, _, rfl⟩ := List.mem_map.1 hu
      exact (each i.1 (List.mem_range.1 i.2)).choose_spec.2

set_option maxRecDepth 20000 in
theorem trod_u818 {n : Nat} {v : Value} {x : DataW H × List MemPlace} (h : DataW.trod enc Try.prog w 0 sp held n 5 [v] = some x) : ∃ u : UInt8, v = .int .u8 (u.toNat : Int) := by
  obtain ⟨n, e, _, wf⟩ := DataW.trod_int Try.underlying5 h
  simp only [List.cons.injEq, and_true] at e
  simp only [Lit.wf, Bool.and_eq_true, decide_eq_true_eq] at wf
  have wf : 0 ≤ n ∧ n ≤ 255 := wf
  refine ⟨UInt8.ofNat n.toNat, ?_⟩
  rw [e]
  congr 1
  rw [UInt8.toNat_ofNat']
  omega
set_option maxRecDepth 20000 in
theorem trod_id18 {n : Nat} {l : List Value} {x : DataW H × List MemPlace} (h : DataW.trod enc Try.prog w 0 sp held n 44 l = some x) : ∃ m : Id8, l = m.vals ∧ True := by
  obtain ⟨xs, m, _, _, hl, hxl, hi⟩ := DataW.trod_array Try.underlying44 h
  have hl : l.length = 8 := hl.trans (by kernel_rfl)
  have key : ∀ i (h8 : i < 8), ∃ u : UInt8, l[i] = .int .u8 (u.toNat : Int) := by
    intro i h8
    have h := hi i h8
    rw [show Try.prog.cellsOf 5 = 1 from by kernel_rfl, List.getElem?_eq_getElem (show i < xs.length by omega), Nat.mul_one, List.drop_eq_getElem_cons (by omega)] at h
    simp only [List.take_succ_cons, List.take_zero] at h
    exact trod_u818 h
  obtain ⟨a0, a1, a2, a3, a4, a5, a6, a7, rfl⟩ : ∃ a0 a1 a2 a3 a4 a5 a6 a7, l = [a0, a1, a2, a3, a4, a5, a6, a7] := by
    match l, hl with
    | [a0, a1, a2, a3, a4, a5, a6, a7], _ => exact ⟨a0, a1, a2, a3, a4, a5, a6, a7, rfl⟩
  obtain ⟨u0, h0⟩ := key 0 (by decide)
  obtain ⟨u1, h1⟩ := key 1 (by decide)
  obtain ⟨u2, h2⟩ := key 2 (by decide)
  obtain ⟨u3, h3⟩ := key 3 (by decide)
  obtain ⟨u4, h4⟩ := key 4 (by decide)
  obtain ⟨u5, h5⟩ := key 5 (by decide)
  obtain ⟨u6, h6⟩ := key 6 (by decide)
  obtain ⟨u7, h7⟩ := key 7 (by decide)
  have h0 : a0 = _ := h0
  have h1 : a1 = _ := h1
  have h2 : a2 = _ := h2
  have h3 : a3 = _ := h3
  have h4 : a4 = _ := h4
  have h5 : a5 = _ := h5
  have h6 : a6 = _ := h6
  have h7 : a7 = _ := h7
  subst h0 h1 h2 h3 h4 h5 h6 h7
  exact ⟨⟨u0, u1, u2, u3, u4, u5, u6, u7⟩, rfl, trivial⟩
set_option maxRecDepth 20000 in
theorem trod_lk18 {n : Nat} {l : List Value} {x : DataW H × List MemPlace} (h : DataW.trod enc Try.prog w 0 sp held n 37 l = some x) : ∃ m : Lk, l = m.vals ∧ True := by
  obtain ⟨xs, m, _, _, hl, hxl, hi⟩ := DataW.trod_array Try.underlying37 h
  have hl : l.length = 4 := hl.trans (by kernel_rfl)
  have key : ∀ i (h8 : i < 4), ∃ u : Int, l[i] = .int .i64 u := by
    intro i h8
    have h := hi i h8
    rw [show Try.prog.cellsOf 3 = 1 from by kernel_rfl, List.getElem?_eq_getElem (show i < xs.length by omega), Nat.mul_one, List.drop_eq_getElem_cons (by omega)] at h
    simp only [List.take_succ_cons, List.take_zero] at h
    obtain ⟨c, e, _, _⟩ := DataW.trod_int Try.underlying3 h
    simp only [List.cons.injEq, and_true] at e
    exact ⟨c, e⟩
  obtain ⟨a0, a1, a2, a3, rfl⟩ : ∃ a0 a1 a2 a3, l = [a0, a1, a2, a3] := by
    match l, hl with
    | [a0, a1, a2, a3], _ => exact ⟨a0, a1, a2, a3, rfl⟩
  obtain ⟨u0, h0⟩ := key 0 (by decide)
  obtain ⟨u1, h1⟩ := key 1 (by decide)
  obtain ⟨u2, h2⟩ := key 2 (by decide)
  obtain ⟨u3, h3⟩ := key 3 (by decide)
  have h0 : a0 = _ := h0
  have h1 : a1 = _ := h1
  have h2 : a2 = _ := h2
  have h3 : a3 = _ := h3
  subst h0 h1 h2 h3
  exact ⟨⟨u0, u1, u2, u3⟩, rfl, trivial⟩
def csEnc (t : Option Addr × List Int × Nat) : List Value := [.slice t.1 t.2.1.length t.2.2]
theorem trod_cs18 {n : Nat} {l : List Value} {x : DataW H × List MemPlace} (h : DataW.trod enc Try.prog w 0 sp held n 35 l = some x) : ∃ m : Option Addr × List Int × Nat, l = csEnc m ∧ IntsAt w m.1 m.2.1 := by
  obtain ⟨v, rfl⟩ : ∃ v, l = [v] := by
    rcases open_slice Try.underlying35 h with ⟨hcs, _⟩ | ⟨_, _, _, _, _, _, _, hcs, _⟩
    · exact ⟨_, hcs⟩
    · exact ⟨_, hcs⟩
  obtain ⟨ao, zs, cap, rfl, _, hI⟩ := open_ints_at h
  exact ⟨(ao, zs, cap), rfl, hI⟩

set_option maxRecDepth 20000 in
theorem open_net {r : Reach} {b0 : Nat} {v : Value} {d : DataW H} {p : List MemPlace} (hv : Value.okWide Try.prog w r b0 26 v) (h : DataW.Trod enc Try.prog w 0 sp held 26 v d p) :
    ∃ (nv : NV) (N : LN), v = .agg #[.slice nv.ai N.ids.length nv.ci, .slice nv.ac N.costs.length nv.cc, .slice nv.al N.links.length nv.cl] ∧ NetAt w nv N := by
  obtain ⟨c0, c1, c2, y0, y1, y2, m, rfl, _, _, h0, h1, h2⟩ := open_agg3 Try.underlying26 (by kernel_rfl) (by kernel_rfl) hv h
  obtain ⟨ai, ids, ci, rfl, hi, _⟩ := open_rows18 (G := fun _ => True) Id8.vals 8 (by decide) (fun _ => rfl) Try.underlying22 (by kernel_rfl) (fun n l x h => trod_id18 h) h0
  obtain ⟨ac, cs, cc, rfl, hc, hG⟩ := open_rows18 (G := fun m => IntsAt w m.1 m.2.1) csEnc 1 (by decide) (fun _ => rfl) Try.underlying23 (by kernel_rfl) (fun n l x h => trod_cs18 h) h1
  obtain ⟨al, lks, cl, rfl, hl, _⟩ := open_rows18 (G := fun _ => True) Lk.vals 4 (by decide) (fun _ => rfl) Try.underlying24 (by kernel_rfl) (fun n l x h => trod_lk18 h) h2
  refine ⟨⟨ai, ci, ac, cc, al, cl⟩, ⟨ids, cs.map fun t => t.2.1, lks⟩, by simp, hi, ?_, hl⟩
  rcases hc with rfl | ⟨b, off, rfl, hb, hc⟩
  · exact .inl rfl
  · refine .inr ⟨b, off, rfl, hb, fun i hi => ?_⟩
    rw [List.length_map] at hi
    have h3 := hc i hi 0 _ rfl
    have e : (cs.map fun t => t.2.1).getD i [] = cs[i].2.1 := by simp [List.getD, hi]
    refine ⟨cs[i].1, cs[i].2.2, ?_, ?_⟩
    · rw [e]
      simpa using h3
    · rw [e]
      exact hG _ (List.getElem_mem hi)
end
end Go.Proofs.Ytcmokhpnooldgaa
