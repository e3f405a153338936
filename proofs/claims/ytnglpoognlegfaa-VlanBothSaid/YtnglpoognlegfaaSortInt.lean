/- slices.Sort at a slice of numbers that the call itself made: the shelf's contract, laid. By an AI agent. -/
import Derived.Test.YtnglpoognlegfaaInts
import Derived.Shelf.SortM.Plain
import Derived.Shelf.SortM.SortNone
import Derived.Sort.OwnSortedInts
import Derived.Lib.SmallJoins
namespace Go.Proofs.Ytnglpoognlegfaa
open Go.RowKit Go.Shelf Go.Lib Go.Sort Go.Proofs

def sortInt_ren : Go.Shelf.Ren := ⟨fun | 5 => 23 | 8 => 27 | 7 => 26 | 19 => 37 | 20 => 38 | 10 => 28 | 11 => 29 | 12 => 30 | 13 => 31 | 14 => 32 | 15 => 33 | 16 => 34 | 17 => 35 | 18 => 36 | 30 => 39 | 31 => 40 | 32 => 41 | 33 => 42 | 34 => 43 | 35 => 44 | 40 => 45 | n => n, fun | 23 => 22 | 25 => 3 | 3 => 3 | 32 => 59 | 22 => 22 | 0 => 0 | 44 => 70 | 46 => 72 | 4 => 4 | 36 => 62 | 35 => 61 | 41 => 67 | 5 => 5 | 9 => 9 | 53 => 73 | 57 => 77 | 63 => 79 | 64 => 80 | n => n, fun n => n⟩
set_option maxRecDepth 100000 in
theorem sortInt : SlLaysM.n5 Try.prog sortInt_ren := {
  mixed := by kernel_rfl,
  f5 := ⟨Try.f23.name, by decide, Try.func23.trans (congrArg some (by kernel_rfl))⟩,
  f7 := ⟨Try.f26.name, by decide, Try.func26.trans (congrArg some (by kernel_rfl))⟩,
  f8 := Try.func27.trans (congrArg some (by kernel_rfl)),
  f10 := ⟨Try.f28.name, by decide, Try.func28.trans (congrArg some (by kernel_rfl))⟩,
  f11 := ⟨Try.f29.name, by decide, Try.func29.trans (congrArg some (by kernel_rfl))⟩,
  f12 := ⟨Try.f30.name, by decide, Try.func30.trans (congrArg some (by kernel_rfl))⟩,
  f13 := ⟨Try.f31.name, by decide, Try.func31.trans (congrArg some (by kernel_rfl))⟩,
  f14 := ⟨Try.f32.name, by decide, Try.func32.trans (congrArg some (by kernel_rfl))⟩,
  f15 := ⟨Try.f33.name, by decide, Try.func33.trans (congrArg some (by kernel_rfl))⟩,
  f16 := ⟨Try.f34.name, by decide, Try.func34.trans (congrArg some (by kernel_rfl))⟩,
  f17 := ⟨Try.f35.name, by decide, Try.func35.trans (congrArg some (by kernel_rfl))⟩,
  f18 := ⟨Try.f36.name, by decide, Try.func36.trans (congrArg some (by kernel_rfl))⟩,
  f19 := Try.func37.trans (congrArg some (by kernel_rfl)),
  f20 := Try.func38.trans (congrArg some (by kernel_rfl)),
  f30 := ⟨Try.f39.name, by decide, Try.func39.trans (congrArg some (by kernel_rfl))⟩,
  f31 := Try.func40.trans (congrArg some (by kernel_rfl)),
  f32 := Try.func41.trans (congrArg some (by kernel_rfl)),
  f33 := ⟨Try.f42.name, by decide, Try.func42.trans (congrArg some (by kernel_rfl))⟩,
  f34 := ⟨Try.f43.name, by decide, Try.func43.trans (congrArg some (by kernel_rfl))⟩,
  f35 := ⟨Try.f44.name, by decide, Try.func44.trans (congrArg some (by kernel_rfl))⟩,
  f40 := ⟨Try.f45.name, by decide, Try.func45.trans (congrArg some (by kernel_rfl))⟩,
  t0 := Try.underlying0,
  a0 := Try.isAgg0,
  z0 := Try.sizeOf0,
  v0 := Try.zeroValue0,
  t3 := Try.underlying3,
  a3 := Try.isAgg3,
  z3 := Try.sizeOf3,
  v3 := Try.zeroValue3,
  t4 := Try.underlying4,
  a4 := Try.isAgg4,
  z4 := Try.sizeOf4,
  v4 := Try.zeroValue4,
  t5 := Try.underlying5,
  a5 := Try.isAgg5,
  z5 := Try.sizeOf5,
  v5 := Try.zeroValue5,
  t9 := Try.underlying9,
  a9 := Try.isAgg9,
  z9 := Try.sizeOf9,
  v9 := Try.zeroValue9,
  t22 := Try.underlying22,
  a22 := Try.isAgg22,
  z22 := Try.sizeOf22,
  v22 := Try.zeroValue22,
  t23 := Try.underlying22,
  a23 := Try.isAgg22,
  z23 := Try.sizeOf22,
  v23 := Try.zeroValue22,
  t25 := Try.underlying3,
  a25 := Try.isAgg3,
  z25 := Try.sizeOf3,
  v25 := Try.zeroValue3,
  t32 := Try.underlying59,
  a32 := Try.isAgg59,
  z32 := Try.sizeOf59,
  v32 := Try.zeroValue59,
  t35 := Try.underlying61,
  a35 := Try.isAgg61,
  z35 := Try.sizeOf61,
  v35 := Try.zeroValue61,
  t36 := Try.underlying62,
  a36 := Try.isAgg62,
  z36 := Try.sizeOf62,
  v36 := Try.zeroValue62,
  t41 := Try.underlying67,
  a41 := Try.isAgg67,
  z41 := Try.sizeOf67,
  v41 := Try.zeroValue67,
  t44 := Try.underlying70,
  a44 := Try.isAgg70,
  z44 := Try.sizeOf70,
  v44 := Try.zeroValue70,
  t46 := Try.underlying72,
  a46 := Try.isAgg72,
  z46 := Try.sizeOf72,
  v46 := Try.zeroValue72,
  t53 := Try.underlying73,
  a53 := Try.isAgg73,
  z53 := Try.sizeOf73,
  v53 := Try.zeroValue73,
  t57 := Try.underlying77,
  a57 := Try.isAgg77,
  z57 := Try.sizeOf77,
  v57 := Try.zeroValue77,
  t63 := Try.underlying79,
  a63 := Try.isAgg79,
  z63 := Try.sizeOf79,
  v63 := Try.zeroValue79,
  t64 := Try.underlying80,
  a64 := Try.isAgg80,
  z64 := Try.sizeOf80,
  v64 := Try.zeroValue80 }

def sortZ (zs : List Int) : List Int := zs.mergeSort fun x y => decide (x ≤ y)
theorem sortZ_len (zs : List Int) : (sortZ zs).length = zs.length := List.length_mergeSort zs
theorem sortZ_perm (zs : List Int) : (sortZ zs).Perm zs := List.mergeSort_perm zs _
theorem sortZ_sorted (zs : List Int) : (sortZ zs).Pairwise (fun x y => x ≤ y) := by
  have h := List.pairwise_mergeSort (le := fun x y : Int => decide (x ≤ y)) (fun a b c h1 h2 => by simp at h1 h2 ⊢; omega) (fun a b => by simp; omega) zs
  exact h.imp fun {a b} h => by simpa using h

theorem below_sort {base g n : Nat} {w : World} {os : Array Obj} {d : Array Int} (hbg : base ≤ g) (hlt : g < w.heap.size) : Below base w (grow (putRow (Value.int .i64) (Sort.ahead w n) g 0 d) os) := by
  have hs : (putRow (Value.int .i64) (Sort.ahead w n) g 0 d).heap.size = w.heap.size := by rw [size_putRow]; rfl
  refine ⟨rfl, rfl, rfl, ?_, fun j hj => ?_⟩
  · show w.heap.size ≤ ((putRow (Value.int .i64) (Sort.ahead w n) g 0 d).heap ++ os).size
    rw [Array.size_append, hs]
    omega
  · show ((putRow (Value.int .i64) (Sort.ahead w n) g 0 d).heap ++ os)[j]? = w.heap[j]?
    rw [Array.getElem?_append_left (by rw [hs]; omega)]
    unfold putRow mapBlock
    show (w.heap.modify g _)[j]? = _
    rw [Array.getElem?_modify, if_neg (by omega)]

theorem sort_own (base : Nat) (v : Value) (zs : List Int) (w : World) (h : w.ownsRow base 3 1 v zs.length (zs.map (Value.int .i64))) (hz : zs.length ≤ 1000000) :
    Calls Try.prog 23 #[v] w fun e w' => e = .returned (.tuple #[]) ∧ w'.ownsRow base 3 1 v zs.length ((sortZ zs).map (Value.int .i64)) ∧ Below base w w' := by
  by_cases h0 : zs = []
  · subst h0
    obtain ⟨p, cap, rfl⟩ : ∃ p cap, v = .slice p 0 cap := by
      rcases h.2 with ⟨rfl, _⟩ | ⟨g, cap, _, rfl, _⟩
      · exact ⟨none, 0, rfl⟩
      · exact ⟨_, cap, rfl⟩
    have hcon := AnyM.slices_Sort_int_none sortInt p cap w
    change Calls Try.prog 23 _ _ _ at hcon
    refine hcon.mono ?_
    rintro e w' ⟨rfl, rfl⟩
    exact ⟨rfl, by simpa [sortZ] using h, Below.refl _ _⟩
  · have hn : 0 < zs.length := List.length_pos_iff.2 h0
    rcases h.2 with ⟨_, e0⟩ | ⟨g, cap, cur, rfl, hbg, hg, hle, hmax, hcs, htk⟩
    · omega
    have hlt : g < w.heap.size := (Array.getElem?_eq_some_iff.1 hg).1
    have hH : Holds (Value.int .i64) w g 0 zs.toArray := by
      intro j hj
      have hj' : j < zs.length := by simpa using hj
      refine ⟨?_, h.frozenAt _⟩
      rw [Nat.zero_add, h.cellAt j (by omega)]
      rw [getElem!_pos zs.toArray j (by simpa using hj)]
      simp [hj']
    have hcon := AnyM.slices_Sort_int sortInt g 0 cap zs w hH hlt (by omega)
    change Calls Try.prog 23 _ _ _ at hcon
    refine hcon.mono ?_
    rintro e w' ⟨rfl, n, os, rfl⟩
    refine ⟨rfl, ownsRow_sortedI (by simp) hbg hg hle hmax hcs, ?_⟩
    exact below_sort hbg hlt
end Go.Proofs.Ytnglpoognlegfaa
