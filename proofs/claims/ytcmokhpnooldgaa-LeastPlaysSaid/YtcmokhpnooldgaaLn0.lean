/- Nets: bridges and links, as they lie in memory; the law's Few, and the small functions of nets. By an AI agent. -/
import Derived.Test.YtcmokhpnooldgaaSpanEq
import Derived.Test.YtcmokhpnooldgaaRefBetter
import Derived.Test.YtcmokhpnooldgaaInts
import Derived.Test.YtcmokhpnooldgaaCell
import Derived.Test.YtcmokhpnooldgaaLess
namespace Go.Proofs.Ytcmokhpnooldgaa
open Go.RowKit Go.WideShapes Go.Sort Grow

/-- a link: its two bridges and ports -/
structure Lk where
  (a p b q : Int)
structure LN where
  (ids : List Id8) (costs : List (List Int)) (links : List Lk)
def Id8.vals (x : Id8) : List Value := [.int .u8 ((x.f 0).toNat : Int), .int .u8 ((x.f 1).toNat : Int), .int .u8 ((x.f 2).toNat : Int), .int .u8 ((x.f 3).toNat : Int), .int .u8 ((x.f 4).toNat : Int), .int .u8 ((x.f 5).toNat : Int), .int .u8 ((x.f 6).toNat : Int), .int .u8 ((x.f 7).toNat : Int)]
def Lk.vals (l : Lk) : List Value := [.int .i64 l.a, .int .i64 l.p, .int .i64 l.b, .int .i64 l.q]
def Lk.zero : Lk := ⟨0, 0, 0, 0⟩
def LN.id (N : LN) (i : Nat) : Id8 := N.ids.getD i .zero
def LN.cs (N : LN) (i : Nat) : List Int := N.costs.getD i []
def LN.lk (N : LN) (i : Nat) : Lk := N.links.getD i .zero
/-- the slice at ao holds these, each of k cells -/
def RowsAt {α : Type} (w : World) (ao : Option Addr) (enc : α → List Value) (k : Nat) (vs : List α) : Prop := vs = [] ∨ ∃ b off, ao = some ⟨b, off, none⟩ ∧ b < w.heap.size ∧ ∀ i (h : i < vs.length) j v, (enc vs[i])[j]? = some v → w.cell? ⟨b, off + i * k + j, none⟩ = some v
theorem RowsAt.kept {α : Type} {w w' : World} {ao : Option Addr} {enc : α → List Value} {k : Nat} {vs : List α} (h : RowsAt w ao enc k vs) (hb : Below w.heap.size w w') : RowsAt w' ao enc k vs := by
  rcases h with h | ⟨b, off, rfl, h1, h2⟩
  · exact .inl h
  · refine .inr ⟨b, off, rfl, Nat.lt_of_lt_of_le h1 hb.size, fun i hi j v hj => ?_⟩
    rw [hb.cell (p := ⟨b, off + i * k + j, none⟩) h1]
    exact h2 i hi j v hj
def CostsAt (w : World) (ao : Option Addr) (cs : List (List Int)) : Prop := cs = [] ∨ ∃ b off, ao = some ⟨b, off, none⟩ ∧ b < w.heap.size ∧ ∀ i, i < cs.length → ∃ ai ci, w.cell? ⟨b, off + i, none⟩ = some (.slice ai (cs.getD i []).length ci) ∧ IntsAt w ai (cs.getD i [])
theorem CostsAt.kept {w w' : World} {ao : Option Addr} {cs : List (List Int)} (h : CostsAt w ao cs) (hb : Below w.heap.size w w') : CostsAt w' ao cs := by
  rcases h with h | ⟨b, off, rfl, h1, h2⟩
  · exact .inl h
  · refine .inr ⟨b, off, rfl, Nat.lt_of_lt_of_le h1 hb.size, fun i hi => ?_⟩
    obtain ⟨ai, ci, h3, h4⟩ := h2 i hi
    refine ⟨ai, ci, ?_, h4.after hb⟩
    rw [hb.cell (p := ⟨b, off + i, none⟩) h1]
    exact h3
/-- where a net's three slices lie -/
structure NV where
  (ai : Option Addr) (ci : Nat) (ac : Option Addr) (cc : Nat) (al : Option Addr) (cl : Nat)
def NV.cells (v : NV) (N : LN) : Array Value := #[.slice v.ai N.ids.length v.ci, .slice v.ac N.costs.length v.cc, .slice v.al N.links.length v.cl]
structure NetAt (w : World) (v : NV) (N : LN) : Prop where
  ids : RowsAt w v.ai Id8.vals 8 N.ids
  costs : CostsAt w v.ac N.costs
  links : RowsAt w v.al Lk.vals 4 N.links
theorem NetAt.kept {w w' : World} {v : NV} {N : LN} (h : NetAt w v N) (hb : Below w.heap.size w w') : NetAt w' v N := ⟨h.ids.kept hb, h.costs.kept hb, h.links.kept hb⟩

/-- an identifier's cells -/
theorem NetAt.id {w : World} {v : NV} {N : LN} (h : NetAt w v N) {i : Nat} (hi : i < N.ids.length) : ∃ b off, v.ai = some ⟨b, off, none⟩ ∧ ∀ j x, (Id8.vals (N.id i))[j]? = some x → w.cell? ⟨b, off + i * 8 + j, none⟩ = some x := by
  rcases h.ids with h0 | ⟨b, off, e, _, h2⟩
  · rw [h0] at hi; cases hi
  · refine ⟨b, off, e, fun j x hj => h2 i hi j x ?_⟩
    unfold LN.id at hj
    rwa [List.getD, List.getElem?_eq_getElem hi] at hj
theorem NetAt.lk {w : World} {v : NV} {N : LN} (h : NetAt w v N) {i : Nat} (hi : i < N.links.length) : ∃ b off, v.al = some ⟨b, off, none⟩ ∧ ∀ j x, (Lk.vals (N.lk i))[j]? = some x → w.cell? ⟨b, off + i * 4 + j, none⟩ = some x := by
  rcases h.links with h0 | ⟨b, off, e, _, h2⟩
  · rw [h0] at hi; cases hi
  · refine ⟨b, off, e, fun j x hj => h2 i hi j x ?_⟩
    unfold LN.lk at hj
    rwa [List.getD, List.getElem?_eq_getElem hi] at hj
theorem NetAt.cs {w : World} {v : NV} {N : LN} (h : NetAt w v N) {i : Nat} (hi : i < N.costs.length) : ∃ b off ai ci, v.ac = some ⟨b, off, none⟩ ∧ w.cell? ⟨b, off + i, none⟩ = some (.slice ai (N.cs i).length ci) ∧ IntsAt w ai (N.cs i) := by
  rcases h.costs with h0 | ⟨b, off, e, _, h2⟩
  · rw [h0] at hi; cases hi
  · obtain ⟨ai, ci, h3, h4⟩ := h2 i hi
    exact ⟨b, off, ai, ci, e, h3, h4⟩
theorem ints_cell {w : World} {ai : Option Addr} {zs : List Int} (h : IntsAt w ai zs) {j : Nat} (hj : j < zs.length) : ∃ b off, ai = some ⟨b, off, none⟩ ∧ w.cell? ⟨b, off + j, none⟩ = some (.int .i64 (zs.getD j 0)) := by
  rcases h with h0 | ⟨b, off, e, h2⟩
  · rw [h0] at hj; cases hj
  · exact ⟨b, off, e, h2 j hj⟩

def LN.few (N : LN) : Bool := decide (N.ids.length ≤ 50) && (decide (N.costs.length ≤ 50) && (decide (N.links.length ≤ 300) && N.costs.all fun c => decide (c.length ≤ 100)))
def LN.few1 (N : LN) : Int := if N.few then 1 else 0
theorem LN.few1_no {N : LN} (h : N.few = false) : N.few1 = 0 := by unfold LN.few1; rw [h]; rfl
theorem LN.few1_yes {N : LN} (h : N.few = true) : N.few1 = 1 := by unfold LN.few1; rw [h]; rfl
theorem LN.cs_mem {N : LN} {i : Nat} (h : i < N.costs.length) : N.cs i ∈ N.costs := by unfold LN.cs; rw [List.getD, List.getElem?_eq_getElem h]; exact List.getElem_mem h
theorem LN.cs_all {N : LN} {f : List Int → Bool} (h : ∀ i, i < N.costs.length → f (N.cs i) = true) : N.costs.all f = true := by
  rw [List.all_eq_true]
  intro x hx
  obtain ⟨i, hi, rfl⟩ := List.mem_iff_getElem.1 hx
  have := h i hi
  unfold LN.cs at this
  rwa [List.getD, List.getElem?_eq_getElem hi] at this

abbrev TN := 32
abbrev RN := 26

set_option maxRecDepth 20000 in
set_option maxHeartbeats 2000000 in
theorem few18 (v : NV) (N : LN) (w : World) (h : NetAt w v N) : Calls Try.prog 10 #[.agg #[.slice v.ai N.ids.length v.ci, .slice v.ac N.costs.length v.cc, .slice v.al N.links.length v.cl]] w fun e w' => e = .returned (.int .i64 N.few1) ∧ Below w.heap.size w w' := by
  have HN := Lib.hid h
  have HF : Hid (N.few = (decide (N.ids.length ≤ 50) && (decide (N.costs.length ≤ 50) && (decide (N.links.length ≤ 300) && N.costs.all fun c => decide (c.length ≤ 100))))) := rfl
  clear h
  go_enter Try.func10, Try.ntmps10
  go_upto_region 1 with fail
  generalize hW : w.alloc _ = w1
  have hbW : Below w.heap.size w w1 := by rw [← hW]; exact (Below.refl _ _).alloc (Nat.le_refl _) _
  have R1 : Hid (RowIs w1 w.heap.size 26 #[.slice v.ai N.ids.length v.ci, .slice v.ac N.costs.length v.cc, .slice v.al N.links.length v.cl]) := by subst hW; exact rowIs_new w _ _
  clear hW
  have c0 : w1.cell? ⟨w.heap.size, 0, none⟩ = some (.slice v.ai N.ids.length v.ci) := R1.out.cell 0
  have c1 : w1.cell? ⟨w.heap.size, 1, none⟩ = some (.slice v.ac N.costs.length v.cc) := R1.out.cell 1
  have c2 : w1.cell? ⟨w.heap.size, 2, none⟩ = some (.slice v.al N.links.length v.cl) := R1.out.cell 2
  have HN1 := Lib.hid (HN.out.kept hbW)
  by_cases h0 : 50 < (N.ids.length : Int)
  · go_wp2_with fail
    go_ret
    rw [LN.few1_no <| show N.few = false from by rw [HF.out, decide_eq_false (p := N.ids.length ≤ 50) (by omega), Bool.false_and]]
    exact ⟨rfl, hbW⟩
  · have d0 : decide (50 < (N.ids.length : Int)) = false := decide_eq_false h0
    by_cases h1 : 50 < (N.costs.length : Int)
    · go_wp2_with fail
      go_ret
      rw [LN.few1_no <| show N.few = false from by rw [HF.out, decide_eq_false (p := N.costs.length ≤ 50) (by omega), Bool.false_and, Bool.and_false]]
      exact ⟨rfl, hbW⟩
    · have d1 : decide (50 < (N.costs.length : Int)) = false := decide_eq_false h1
      by_cases h2 : 300 < (N.links.length : Int)
      · go_wp2_with fail
        go_ret
        rw [LN.few1_no <| show N.few = false from by rw [HF.out, decide_eq_false (p := N.links.length ≤ 300) (by omega), Bool.false_and, Bool.and_false, Bool.and_false]]
        exact ⟨rfl, hbW⟩
      · have d2 : decide (300 < (N.links.length : Int)) = false := decide_eq_false h2
        go_wp2_with fail
        clear d0 d1 d2
        go_loop [3] (fun i => ∃ k : Nat, k ≤ N.costs.length ∧ i = .int .i64 k ∧ Hid (∀ j, j < k → (N.cs j).length ≤ 100)) (fun i => N.costs.length - (intOf i).toNat)
        case atStart => exact ⟨0, Nat.zero_le _, rfl, fun j hj => absurd hj (Nat.not_lt_zero _)⟩
        case round =>
          obtain ⟨k, hk, rfl, HK⟩ := hrel
          by_cases hlt : k < N.costs.length
          · obtain ⟨b, off, ai, ci, e, hc, -⟩ := HN1.out.cs hlt
            have HCM : Hid (N.cs k ∈ N.costs) := LN.cs_mem hlt
            have HS : Hid (∀ j, j < k + 1 → (N.cs k).length ≤ 100 → (N.cs j).length ≤ 100) := fun j hj h => by
              rcases Nat.lt_or_eq_of_le (Nat.le_of_lt_succ hj) with h1 | rfl
              · exact HK.out j h1
              · exact h
            rw [e] at c1
            generalize N.cs k = z at *
            by_cases h3 : 100 < (z.length : Int)
            · go_wp2_with fail
              go_ret
              rw [LN.few1_no <| show N.few = false from by
                rw [HF.out, show (N.costs.all fun c => decide (c.length ≤ 100)) = false from List.all_eq_false.2 ⟨z, HCM.out, by simp; omega⟩]
                simp]
              exact ⟨rfl, hbW⟩
            · have d3 : decide (100 < (z.length : Int)) = false := decide_eq_false h3
              go_wp2_with fail
              exact ⟨⟨k + 1, by omega, by go_num, fun j hj => HS.out j hj (by omega)⟩, by simp [intOf]; omega⟩
          · go_wp2_with fail
            go_ret
            rw [LN.few1_yes <| show N.few = true from by
              rw [HF.out, LN.cs_all (fun i hi => by have := HK.out i (by omega); simpa using this), decide_eq_true (p := N.ids.length ≤ 50) (by omega), decide_eq_true (p := N.costs.length ≤ 50) (by omega), decide_eq_true (p := N.links.length ≤ 300) (by omega)]
              rfl]
            exact ⟨rfl, hbW⟩
end Go.Proofs.Ytcmokhpnooldgaa
