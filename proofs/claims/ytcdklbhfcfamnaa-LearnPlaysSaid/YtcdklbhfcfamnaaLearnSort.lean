/- slices.SortFunc at a table's entries: the shelf's contract, laid; All. By an AI agent. -/
import Derived.Test.YtcdklbhfcfamnaaLearnAll
import Derived.Shelf.SlSortCmp.NoneTotal
namespace Go.Proofs.Ytcdklbhfcfamnaa
open Go.RowKit Go.Shelf Go.Lib Go.Sort Go.Proofs

def sortEnt_ren : Go.Shelf.Ren := ⟨fun | 6 => 32 | 15 => 43 | 14 => 42 | 28 => 55 | 29 => 56 | 20 => 47 | 21 => 48 | 22 => 49 | 23 => 50 | 24 => 51 | 25 => 52 | 26 => 53 | 27 => 54 | 46 => 57 | 47 => 58 | 48 => 59 | 49 => 60 | 50 => 61 | 57 => 62 | n => n, fun | 22 => 39 | 24 => 42 | 25 => 76 | 3 => 3 | 39 => 85 | 0 => 0 | 53 => 94 | 55 => 96 | 4 => 4 | 46 => 88 | 45 => 87 | 50 => 32 | 5 => 5 | 9 => 9 | 66 => 97 | 70 => 101 | 76 => 103 | 77 => 104 | n => n, fun n => n⟩
set_option maxRecDepth 100000 in
theorem sortEnt : SlLaysF0.n6 Try.prog sortEnt_ren := {
  mixed := by kernel_rfl,
  f6 := ⟨Try.f32.name, by decide, Try.func32.trans (congrArg some (by kernel_rfl))⟩,
  f14 := ⟨Try.f42.name, by decide, Try.func42.trans (congrArg some (by kernel_rfl))⟩,
  f15 := Try.func43.trans (congrArg some (by kernel_rfl)),
  f20 := ⟨Try.f47.name, by decide, Try.func47.trans (congrArg some (by kernel_rfl))⟩,
  f21 := ⟨Try.f48.name, by decide, Try.func48.trans (congrArg some (by kernel_rfl))⟩,
  f22 := ⟨Try.f49.name, by decide, Try.func49.trans (congrArg some (by kernel_rfl))⟩,
  f23 := ⟨Try.f50.name, by decide, Try.func50.trans (congrArg some (by kernel_rfl))⟩,
  f24 := ⟨Try.f51.name, by decide, Try.func51.trans (congrArg some (by kernel_rfl))⟩,
  f25 := ⟨Try.f52.name, by decide, Try.func52.trans (congrArg some (by kernel_rfl))⟩,
  f26 := ⟨Try.f53.name, by decide, Try.func53.trans (congrArg some (by kernel_rfl))⟩,
  f27 := ⟨Try.f54.name, by decide, Try.func54.trans (congrArg some (by kernel_rfl))⟩,
  f28 := Try.func55.trans (congrArg some (by kernel_rfl)),
  f29 := Try.func56.trans (congrArg some (by kernel_rfl)),
  f46 := ⟨Try.f57.name, by decide, Try.func57.trans (congrArg some (by kernel_rfl))⟩,
  f47 := Try.func58.trans (congrArg some (by kernel_rfl)),
  f48 := Try.func59.trans (congrArg some (by kernel_rfl)),
  f49 := ⟨Try.f60.name, by decide, Try.func60.trans (congrArg some (by kernel_rfl))⟩,
  f50 := ⟨Try.f61.name, by decide, Try.func61.trans (congrArg some (by kernel_rfl))⟩,
  f57 := ⟨Try.f62.name, by decide, Try.func62.trans (congrArg some (by kernel_rfl))⟩,
  t0 := Try.underlying0,
  a0 := Try.isAgg0,
  z0 := Try.sizeOf0,
  v0 := Try.zeroValue0,
  t3 := Try.underlying3,
  a3 := Try.isAgg3,
  z3 := Try.sizeOf3,
  v3 := Try.zeroValue3,
  t4 := Try.underlying4,
  a4 := Try.isAgg4,
  z4 := Try.sizeOf4,
  v4 := Try.zeroValue4,
  t5 := Try.underlying5,
  a5 := Try.isAgg5,
  z5 := Try.sizeOf5,
  v5 := Try.zeroValue5,
  t9 := Try.underlying9,
  a9 := Try.isAgg9,
  z9 := Try.sizeOf9,
  v9 := Try.zeroValue9,
  t22 := Try.underlying39,
  a22 := Try.isAgg39,
  z22 := Try.sizeOf39,
  v22 := Try.zeroValue39,
  t25 := Try.underlying76,
  a25 := Try.isAgg76,
  z25 := Try.sizeOf76,
  v25 := Try.zeroValue76,
  t39 := Try.underlying85,
  a39 := Try.isAgg85,
  z39 := Try.sizeOf85,
  v39 := Try.zeroValue85,
  t45 := Try.underlying87,
  a45 := Try.isAgg87,
  z45 := Try.sizeOf87,
  v45 := Try.zeroValue87,
  t46 := Try.underlying88,
  a46 := Try.isAgg88,
  z46 := Try.sizeOf88,
  v46 := Try.zeroValue88,
  t50 := Try.underlying32,
  a50 := Try.isAgg32,
  z50 := Try.sizeOf32,
  v50 := Try.zeroValue32,
  t53 := Try.underlying94,
  a53 := Try.isAgg94,
  z53 := Try.sizeOf94,
  v53 := Try.zeroValue94,
  t55 := Try.underlying96,
  a55 := Try.isAgg96,
  z55 := Try.sizeOf96,
  v55 := Try.zeroValue96,
  t66 := Try.underlying97,
  a66 := Try.isAgg97,
  z66 := Try.sizeOf97,
  v66 := Try.zeroValue97,
  t70 := Try.underlying101,
  a70 := Try.isAgg101,
  z70 := Try.sizeOf101,
  v70 := Try.zeroValue101,
  t76 := Try.underlying103,
  a76 := Try.isAgg103,
  z76 := Try.sizeOf103,
  v76 := Try.zeroValue103,
  t77 := Try.underlying104,
  a77 := Try.isAgg104,
  z77 := Try.sizeOf104,
  v77 := Try.zeroValue104 }

theorem swoE : SWO (ltOf ecmp) where
  irrefl x := by
    unfold ltOf
    exact decide_eq_false (fun h => by have := (ecmp_spec x x).1.1 h; omega)
  trans x y z h1 h2 := by
    unfold ltOf at *
    have h1 := (ecmp_spec x y).1.1 (of_decide_eq_true h1)
    have h2 := (ecmp_spec y z).1.1 (of_decide_eq_true h2)
    exact decide_eq_true ((ecmp_spec x z).1.2 (by omega))
  ntrans x y z h1 h2 := by
    unfold ltOf at *
    have h1 := of_decide_eq_false h1
    have h2 := of_decide_eq_false h2
    rw [(ecmp_spec x y).1] at h1
    rw [(ecmp_spec y z).1] at h2
    exact decide_eq_false (fun h => by have := (ecmp_spec x z).1.1 h; omega)

theorem sortE_any (b cap : Nat) (ds : List Ent) (w : World) (hn : 0 < ds.length) (hH : HoldsK encE 10 w b 0 ds.toArray) (hb : b < w.heap.size) (hl : ds.length ≤ 1000000) :
    Calls Try.prog 32 #[.slice (some ⟨b, 0, none⟩) ds.length cap, .func (.func 33) #[] #[]] w fun e w' => e = .returned (.tuple #[]) ∧ ∃ ds' : List Ent, ds'.Perm ds ∧ ds'.Pairwise (fun x y => x.key ≤ y.key) ∧ HoldsK encE 10 w' b 0 ds'.toArray ∧ (∀ B, B ≤ b → Below B w w') := by
  have aE : ∀ w, (isAgg (sortEnt_ren.t 24)).run Try.prog w = .ok true w := fun w => by kernel_rfl
  have zE : ∀ w, (Go.sizeOf (sortEnt_ren.t 24)).run Try.prog w = .ok 10 w := fun w => by kernel_rfl
  have hcon := AnyQ.slices_SortFunc sortEnt 10 aE zE encE (fun _ => rfl) (fun x v hv => by
    simp only [encE, List.mem_cons, List.not_mem_nil, or_false] at hv
    rcases hv with rfl | rfl | rfl | rfl | rfl | rfl | rfl | rfl | rfl | rfl <;> rfl) ecmp swoE 33 #[] b 0 cap ds.toArray w (enters_of Try.func33 (by kernel_rfl) rfl) (fun m os dk _ x y => all1_any x y _) hH hb (by simp; omega)
  simp only [List.size_toArray] at hcon
  change Calls Try.prog 32 _ _ _ at hcon
  refine hcon.mono ?_
  rintro e w' ⟨rfl, d', n, os, hp, hs, rfl⟩
  refine ⟨rfl, d'.toList, ?_, ?_, ?_, fun B hB => ?_⟩
  · have h1 := hp.2.2
    rw [Array.extract_eq_self_of_le (by rw [hp.1]; simp)] at h1
    simpa using h1
  · rw [List.pairwise_iff_getElem]
    intro i j hi hj hij
    have h := hs i j (Nat.zero_le _) hij (by have := hp.1; simp at this hj; omega)
    unfold ltOf at h
    have h := of_decide_eq_false h
    rw [(ecmp_spec _ _).1] at h
    have e1 : d'[i]! = d'.toList[i] := by rw [getElem!_pos d' i (by simpa using hi)]; simp
    have e2 : d'[j]! = d'.toList[j] := by rw [getElem!_pos d' j (by simpa using hj)]; simp
    rw [e1, e2] at h
    omega
  · exact holdsK_sortWorldK_c encE 10 w b 0 ds.toArray d'.toList.toArray n os hH hb (by have := hp.1; simpa using this)
  · have hd : d'.toList.toArray = d' := by simp
    refine ⟨rfl, rfl, rfl, size_sortWorldK_c encE 10 w b 0 n d' os, fun j hj => ?_⟩
    unfold sortWorldK
    have hjs : j < w.heap.size := by omega
    show ((putRowK encE 10 (Sort.ahead w n) b 0 d').heap ++ os)[j]? = w.heap[j]?
    have e : (putRowK encE 10 (Sort.ahead w n) b 0 d').heap[j]? = w.heap[j]? := by
      unfold putRowK putRow mapBlock
      show (w.heap.modify b _)[j]? = _
      rw [Array.getElem?_modify, if_neg (by omega)]
    rw [Array.getElem?_append_left (by rw [size_putRowK]; exact hjs), e]

theorem all_any (B T M : Nat) (ageing : Int) (lims : List Int) (L : List Ent) (w : World) (h : TabIs B T M w ageing lims L) (hL : L.length ≤ 1000) :
    Calls Try.prog 15 #[.pointer (some ⟨T, 0, none⟩)] w fun r w' => ∃ ao ds cap, r = .returned (.slice ao (List.length ds) cap) ∧ ds.Perm (L.map Ent.told) ∧ ds.Pairwise (fun x y => x.key ≤ y.key) ∧ (ds = [] ∨ ∃ b, ao = some ⟨b, 0, none⟩ ∧ w.heap.size ≤ b ∧ b < w'.heap.size ∧ HoldsK encE 10 w' b 0 ds.toArray) ∧ Below w.heap.size w w' :=
  all_of (fun b cap ds w h1 h2 h3 h4 => sortE_any b cap ds w h1 h2 h3 h4) (fun p cap fv w => AnyF.slices_SortFunc_none sortEnt p cap fv w) B T M ageing lims L w h hL
end Go.Proofs.Ytcdklbhfcfamnaa
