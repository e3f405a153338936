/- least.Ports. By an AI agent. -/
import Derived.Test.YtcmokhpnooldgaaLp2
namespace Go.Proofs.Ytcmokhpnooldgaa
open Go.RowKit Go.WideShapes Go.Sort Grow

section
variable {P : Program} {md : Region.Mode} {ops : Array Oper} {Q : Exit → Act → World → Prop} {S : World → Prop} {fuel : Nat} {listed : Array Bool} {a : Act} {w : World}
theorem ar_call18 {i : Nat} {o : Oper} {is : List Nat} (ho : ops[i]? = some o) (hw : Region.wanted o (yielded ops a.tmps) = true) {f : FuncId} {xs : List Operand} {vs : List Value} {ats : Array TypeId} {fn : Func} (hop : o.op = .call { callee := .value (.func f), args := xs.toArray, argTypes := ats }) (hv : xs.map a.eval = vs) (hf : P.funcs[f]? = some fn) (hname : (fn.name == "runtime.NumGoroutine") = false) (hb : fn.body.isNone = false)
    (h : Calls P f vs.toArray w fun e w' => ∃ u, e = .returned u ∧ S w' ∧ wpAnyH P md ops Q S fuel (listed.setIfInBounds i true) (a.put o.dst u) w') (more : AllReadyH P md ops Q S fuel listed a w is) : AllReadyH P md ops Q S fuel listed a w (i :: is) :=
  AllReadyH.cons ho (fun K hK => by
    rw [if_pos hw]
    have h1 : fn.name ≠ "runtime.NumGoroutine" := by simpa using hname
    have e : execOp a.eval o = callFunc f (#[] ++ (xs.toArray).map a.eval ++ #[]) := by
      unfold execOp
      rw [hop]
      rfl
    have h2 : fn.body ≠ none := fun h0 => by
      rw [h0] at hb
      cases hb
    have e2 : (execOp a.eval o).run P w = .ok (.enter f vs.toArray) w := by
      rw [e, ← hv]
      simp [callFunc, go_sem, hf, h1, h2]
    unfold Oper.wp
    rw [e2]
    refine Calls.mono h ?_
    rintro e w' ⟨u, rfl, hS, hW⟩
    exact hK.out _ _ hS (fun _ => hW)) more
theorem ar_alloc18 {i : Nat} {o : Oper} {is : List Nat} (ho : ops[i]? = some o) (hw : Region.wanted o (yielded ops a.tmps) = true) (t : TypeId) (hop : o.op = .alloc t) (cs : Array Value) (hi : ((P.info? t).bind fun i => i.zero.map (·.cells)) = some cs)
    (h : S (w.alloc (.cells cs t)) ∧ wpAnyH P md ops Q S fuel (listed.setIfInBounds i true) (a.put o.dst (.pointer (some ⟨w.heap.size, 0, none⟩))) (w.alloc (.cells cs t))) (more : AllReadyH P md ops Q S fuel listed a w is) : AllReadyH P md ops Q S fuel listed a w (i :: is) :=
  AllReadyH.cons ho (fun K hK => by
    rw [if_pos hw]
    obtain ⟨i, hi', hz'⟩ := Option.bind_eq_some_iff.1 hi
    obtain ⟨z, hz, rfl⟩ := Option.map_eq_some_iff.1 hz'
    clear hi hz'
    have hr : (Instr.alloc t true (.tuple #[])).run P w = .ok (.pointer (some ⟨w.heap.size, 0, none⟩)) (w.alloc (.cells z.cells t)) := by
      simp [Instr.alloc, zeroValue, typeInfo, hi', hz, newVar, newRow]
    unfold Oper.wp execOp
    simp only [hop, hr, Sem.run_bind, Sem.run_pure, Result.andThen_ok]
    exact hK.out _ _ h.1 (fun _ => h.2)) more
end

/-- -1 up to k, and 0 behind -/
def fillP (n k : Nat) : List Int := (List.range n).map fun i => if i < k then -1 else 0
theorem fillP_len (n k : Nat) : (fillP n k).length = n := by simp [fillP]
theorem fillP_zero (n : Nat) : List.replicate n (0 : Int) = fillP n 0 := by
  apply List.ext_getElem?
  intro i
  by_cases h : i < n <;> simp [fillP, h]
theorem fillP_all (n : Nat) : fillP n n = List.replicate n (-1) := by
  apply List.ext_getElem?
  intro i
  by_cases h : i < n <;> simp [fillP, h]
theorem fillP_set {n k : Nat} (hk : k < n) : (fillP n k).set k (-1) = fillP n (k + 1) := by
  apply List.ext_getElem?
  intro i
  rw [List.getElem?_set]
  by_cases h : i < n
  · by_cases e : k = i
    · subst e
      simp [fillP, h]
    · rw [if_neg e]
      simp only [fillP, List.getElem?_map, List.getElem?_range h, Option.map_some, Option.some.injEq]
      by_cases h1 : i < k
      · rw [if_pos h1, if_pos (by omega)]
      · rw [if_neg h1, if_neg (by omega)]
  · have : k ≠ i := by omega
    rw [if_neg this]
    simp [fillP, h]
theorem info_vec18 : ∃ i z, Try.prog.info? 73 = some i ∧ i.zero = some z ∧ i.size = 18 ∧ i.bytes = 32 ∧ z.cells = #[.int .u8 0, .int .u8 0, .int .u8 0, .int .u8 0, .int .u8 0, .int .u8 0, .int .u8 0, .int .u8 0, .int .i64 0, .int .u8 0, .int .u8 0, .int .u8 0, .int .u8 0, .int .u8 0, .int .u8 0, .int .u8 0, .int .u8 0, .int .i64 0] := by
  have h : (Try.prog.info? 73).map (fun i => (i.zero.map (·.cells), i.size, i.bytes)) = some (some #[.int .u8 0, .int .u8 0, .int .u8 0, .int .u8 0, .int .u8 0, .int .u8 0, .int .u8 0, .int .u8 0, .int .i64 0, .int .u8 0, .int .u8 0, .int .u8 0, .int .u8 0, .int .u8 0, .int .u8 0, .int .u8 0, .int .u8 0, .int .i64 0], 18, 32) := by kernel_rfl
  obtain ⟨i, hi, h⟩ := Option.map_eq_some_iff.1 h
  simp only [Prod.mk.injEq] at h
  obtain ⟨z, hz, h18⟩ := Option.map_eq_some_iff.1 h.1
  exact ⟨i, z, hi, hz, h.2.1, h.2.2, h18⟩
theorem zeros_get : ∀ (m i : Nat), i < m * 18 → ((List.replicate m SV.zero).flatMap SV.vals)[i]? = SV.zero.vals[i % 18]?
  | 0, i, h => by omega
  | m + 1, i, h => by
    rw [List.replicate_succ, List.flatMap_cons]
    by_cases h1 : i < 18
    · rw [List.getElem?_append_left (by exact h1), Nat.mod_eq_of_lt h1]
    · rw [List.getElem?_append_right (by show 18 ≤ i; omega), show SV.zero.vals.length = 18 from rfl, zeros_get m (i - 18) (by omega)]
      congr 1
      omega
theorem made_vecs (n : Nat) : madeCells #[.int .u8 0, .int .u8 0, .int .u8 0, .int .u8 0, .int .u8 0, .int .u8 0, .int .u8 0, .int .u8 0, .int .i64 0, .int .u8 0, .int .u8 0, .int .u8 0, .int .u8 0, .int .u8 0, .int .u8 0, .int .u8 0, .int .u8 0, .int .i64 0] (n * 18) = vecsA (List.replicate n SV.zero) := by
  have hl : ((List.replicate n SV.zero).flatMap SV.vals).length = n * 18 := by
    have := vecsA_size (List.replicate n SV.zero)
    unfold vecsA at this
    simp only [List.size_toArray, List.length_replicate] at this
    omega
  apply Array.ext_getElem?
  intro i
  unfold vecsA
  simp only [List.getElem?_toArray]
  by_cases h : i < n * 18
  · rw [zeros_get n i h]
    simp only [madeCells, Array.getElem?_map, Array.getElem?_range, h, if_pos, Option.map_some]
    have hm : i % 18 < 18 := Nat.mod_lt _ (by decide)
    have key : ∀ m, m < 18 → some ((#[.int .u8 0, .int .u8 0, .int .u8 0, .int .u8 0, .int .u8 0, .int .u8 0, .int .u8 0, .int .u8 0, .int .i64 0, .int .u8 0, .int .u8 0, .int .u8 0, .int .u8 0, .int .u8 0, .int .u8 0, .int .u8 0, .int .u8 0, .int .i64 0] : Array Value)[m]!) = SV.zero.vals[m]? := by
      intro m hm
      rcases (show m = 0 ∨ m = 1 ∨ m = 2 ∨ m = 3 ∨ m = 4 ∨ m = 5 ∨ m = 6 ∨ m = 7 ∨ m = 8 ∨ m = 9 ∨ m = 10 ∨ m = 11 ∨ m = 12 ∨ m = 13 ∨ m = 14 ∨ m = 15 ∨ m = 16 ∨ m = 17 by omega) with rfl | rfl | rfl | rfl | rfl | rfl | rfl | rfl | rfl | rfl | rfl | rfl | rfl | rfl | rfl | rfl | rfl | rfl <;> rfl
    exact key _ hm
  · rw [List.getElem?_eq_none (by rw [hl]; omega), Array.getElem?_eq_none (by rw [size_madeCells]; omega)]
theorem run_make_vecs (n : Nat) (hn : n ≤ 1000000) (w : World) : (Instr.makeSlice 71 (.int .i64 (n : Nat)) (.int .i64 (n : Nat))).run Try.prog w = .ok (.slice (some ⟨w.heap.size, 0, none⟩) (n : Nat) (n : Nat)) (w.alloc (.cells (vecsA (List.replicate n SV.zero)) 73)) := by
  obtain ⟨i, z, hi, hz, h1, h2, h3⟩ := info_vec18
  have h := Go.run_make (P := Try.prog) w 71 73 i z Try.underlying71 hi hz .i64 .i64 (n : Int) (n : Int) (by omega) (Int.le_refl _) (by rw [h2]; omega) (by omega)
  rw [h, h1, h3, Int.toNat_natCast, made_vecs]

/-- what holds within Ports' walk over the links -/
structure PJ (N : LN) (v : NV) (w : World) (R : List Nat) (D : List Int) (RO gr DO gd OO gq BO gb : Nat) (k : Nat) (w' : World) : Prop where
  ro : ArrAt w' RO gr (natI R)
  dd : ArrAt w' DO gd D
  arr : ArrAt w' OO gq (stPs N R D k).1
  bv : RowIs w' BO 71 #[.slice (some ⟨gb, 0, none⟩) N.ids.length N.ids.length]
  ba : RowIs w' gb 73 (vecsA (stPs N R D k).2)
  box : RowIs w' w.heap.size 32 #[.slice v.ai N.ids.length v.ci, .slice v.ac N.costs.length v.cc, .slice v.al N.links.length v.cl]
  bel : Below w.heap.size w w'

set_option maxRecDepth 20000 in
set_option maxHeartbeats 2000000 in
theorem ports_round (v : NV) (N : LN) (w w1 : World) (h : NetAt w v N) (hl : N.links.length ≤ 1000) (hok : N.Ok) (R : List Nat) (hR : IsRoots N R) (D : List Int) (hD : IsDist N R D) (RO gr DO gd OO gq BO gb : Nat)
    (h0 : PJ N v w R D RO gr DO gd OO gq BO gb 0 w1) (hgq : w.heap.size ≤ gq) (hgb : w.heap.size ≤ gb) (hne : gq ≠ gr ∧ gq ≠ gd) :
    Calls Try.prog 29 #[.agg #[.slice v.ai N.ids.length v.ci, .slice v.ac N.costs.length v.cc, .slice v.al N.links.length v.cl], .func (.func 32) #[] #[.pointer (some ⟨RO, 0, none⟩), .pointer (some ⟨w.heap.size, 0, none⟩), .pointer (some ⟨DO, 0, none⟩), .pointer (some ⟨OO, 0, none⟩), .pointer (some ⟨BO, 0, none⟩)]] w1
      fun e w' => e = .returned (.tuple #[]) ∧ PJ N v w R D RO gr DO gd OO gq BO gb N.dirs.length w' := by
  have hgqs := h0.arr.arr.lt
  have hgbs := h0.ba.lt
  refine both18 32 _ v N w1 (PJ N v w R D RO gr DO gd OO gq BO gb) [gq, gb] (enters_of Try.func32 (by kernel_rfl) rfl) (by simp; exact ⟨hgqs, hgbs⟩) (fun k w' hj => h.kept hj.bel)
    (fun k w' w'' hj hb => ⟨hj.ro.kept hb, hj.dd.kept hb, hj.arr.kept hb, hj.bv.kept hb, hj.ba.kept hb, hj.box.kept hb, hj.bel.trans (hb.mono hj.bel.size)⟩) ?_ h0 hl
  intro k d w' hd hj
  have hmem := List.mem_of_getElem? hd
  have hk : k < N.dirs.length := (List.getElem?_eq_some_iff.1 hd).1
  have hinv := stPs_inv hok R D k (by omega)
  have h1 := hok.from_lt hmem
  have h2 := hok.to_lt hmem
  have n1 : w.heap.size ≠ gq := rowIs_ne hj.box hj.arr.arr (by decide)
  have n2 : w.heap.size ≠ gb := rowIs_ne hj.box hj.ba (by decide)
  have n3 : RO ≠ gq := rowIs_ne hj.ro.ov hj.arr.arr (by decide)
  have n4 : RO ≠ gb := rowIs_ne hj.ro.ov hj.ba (by decide)
  have n5 : DO ≠ gq := rowIs_ne hj.dd.ov hj.arr.arr (by decide)
  have n6 : DO ≠ gb := rowIs_ne hj.dd.ov hj.ba (by decide)
  have n7 : gr ≠ gb := rowIs_ne hj.ro.arr hj.ba (by decide)
  have n8 : gd ≠ gb := rowIs_ne hj.dd.arr hj.ba (by decide)
  have hq : (d.q.toNat : Int) = d.q := Int.toNat_of_nonneg h2.2.2.1
  have hp : (d.p.toNat : Int) = d.p := Int.toNat_of_nonneg h1.2.2.1
  have hdd : d = ⟨(d.i : Nat), d.p, (d.j : Nat), (d.q.toNat : Nat)⟩ := by
    have := LN.dir_nat hok hmem
    rw [hq]
    exact this
  have hcs : (N.cs d.i).length ≤ 32 := by
    have h3 := hok.cost (N.cs d.i) (LN.cs_mem (by have := hok.len; omega))
    unfold okCosts at h3
    simp only [Bool.and_eq_true, decide_eq_true_eq] at h3
    exact h3.1
  refine (portsC v N w' w.heap.size RO gr DO gd OO gq BO gb R D (stPs N R D k).1 (stPs N R D k).2 (h.kept hj.bel) hj.box hj.ro hj.dd hj.arr (by rw [hinv.len]; exact hj.bv) hj.ba hR.len hD.len hinv.len hinv.len2 (fun x hx => ?_) (fun x hx => ?_) d.i d.j d.q.toNat d.p h1.2.1 h2.2.1 (by have := hok.len; omega) h2.2.2.2 (hok.cost_le hmem) (by omega) d hdd (hinv.new hok (fun d h => List.mem_of_mem_take h) hmem (dirs_new hok hd))).mono ?_
  · obtain ⟨m, hm, rfl⟩ := List.mem_iff_getElem.1 hx
    have := hR.lt m (by rw [← hR.len]; exact hm)
    rwa [List.getD, List.getElem?_eq_getElem hm] at this
  · obtain ⟨m, hm, rfl⟩ := List.mem_iff_getElem.1 hx
    have hm' : m < N.ids.length := by rw [← hD.len]; exact hm
    have hw := hD.walk m hm'
    obtain ⟨l, c', hp, hle⟩ := hw.path hok
    have h3 := hp.short hok (hR.lt m hm')
    have h4 := hD.least m c' hm' hp.walk
    have h5 := (hw.nonneg hok).1
    rw [List.getD, List.getElem?_eq_getElem hm] at h4 h5
    simp only [Option.getD_some] at h4 h5
    omega
  · rintro e w2 ⟨he, ha, hb1, hb2, ho, hb⟩
    have nn : ∀ x, x ≠ gq → x ≠ gb → x ∉ [gq, gb] := fun x h1 h2 => by simp; exact ⟨h1, h2⟩
    refine ⟨he, ⟨hj.ro.only ho (nn _ n3 n4) (nn _ (Ne.symm hne.1) n7), hj.dd.only ho (nn _ n5 n6) (nn _ (Ne.symm hne.2) n8), ?_, ?_, ?_, rowIs_same hj.box (ho.2 _ hj.box.lt (nn _ n1 n2)), ?_⟩, ho⟩
    · rw [stPs_succ hd]; exact ha
    · rw [hinv.len] at hb1; exact hb1
    · rw [stPs_succ hd]; exact hb2
    · exact hj.bel.trans (below_of_only ho hb hj.bel.size (by simp; exact ⟨hgq, hgb⟩))

set_option maxRecDepth 20000 in
set_option maxHeartbeats 4000000 in
theorem ports_yes (v : NV) (N : LN) (w : World) (h : NetAt w v N) (hl : N.links.length ≤ 1000) (hok : N.Ok) (R : List Nat) (hR : IsRoots N R) (D : List Int) (hD : IsDist N R D) (q : List Int) (hq : IsPorts N R D q) :
    Calls Try.prog 15 #[.agg #[.slice v.ai N.ids.length v.ci, .slice v.ac N.costs.length v.cc, .slice v.al N.links.length v.cl]] w fun e w' => (∃ g, e = .returned (.slice (some ⟨g, 0, none⟩) N.ids.length N.ids.length) ∧ RowIs w' g 3 (intsA q) ∧ w.heap.size ≤ g) ∧ Below w.heap.size w w' := by
  have HN := Lib.hid h
  have HOK := Lib.hid hok
  have HR := Lib.hid hR
  have HD := Lib.hid hD
  have HQQ := Lib.hid hq
  have hn16 := hok.n16
  have HRL : Hid ((natI R).length = N.ids.length) := by show _ = _; rw [natI_len, hR.len]
  have HDL : Hid (D.length = N.ids.length) := hD.len
  clear h hok hR hD hq
  go_enter Try.func15, Try.ntmps15
  go_upto_region 1 with fail
  generalize hW : w.alloc _ = w1
  have hbW : Below w.heap.size w w1 := by rw [← hW]; exact (Below.refl _ _).alloc (Nat.le_refl _) _
  have R0 : Hid (RowIs w1 w.heap.size 32 #[.slice v.ai N.ids.length v.ci, .slice v.ac N.costs.length v.cc, .slice v.al N.links.length v.cl]) := by subst hW; exact rowIs_new w _ _
  clear hW
  have HRY : Hid (∀ W, Below w1.heap.size w1 W → Calls Try.prog 13 #[.agg #[.slice v.ai N.ids.length v.ci, .slice v.ac N.costs.length v.cc, .slice v.al N.links.length v.cl]] W fun e w' => (∃ g, e = .returned (.slice (some ⟨g, 0, none⟩) N.ids.length N.ids.length) ∧ RowIs w' g 3 (intsA (natI R)) ∧ W.heap.size ≤ g) ∧ Below W.heap.size W w') := fun W hb => roots_yes v N W (HN.out.kept (hbW.trans (hb.mono hbW.size))) hl HOK.out R HR.out
  have HDY : Hid (∀ W, Below w1.heap.size w1 W → Calls Try.prog 14 #[.agg #[.slice v.ai N.ids.length v.ci, .slice v.ac N.costs.length v.cc, .slice v.al N.links.length v.cl]] W fun e w' => (∃ g, e = .returned (.slice (some ⟨g, 0, none⟩) N.ids.length N.ids.length) ∧ RowIs w' g 3 (intsA D) ∧ W.heap.size ≤ g) ∧ Below W.heap.size W w') := fun W hb => dist_yes v N W (HN.out.kept (hbW.trans (hb.mono hbW.size))) hl HOK.out R HR.out D HD.out
  go_cut [3, 4] (fun u3 u4 wx => ∃ RO DO gr gd, u3 = .pointer (some ⟨RO, 0, none⟩) ∧ u4 = .pointer (some ⟨DO, 0, none⟩) ∧ ArrAt wx RO gr (natI R) ∧ ArrAt wx DO gd D ∧ RowIs wx w.heap.size 32 #[.slice v.ai N.ids.length v.ci, .slice v.ac N.costs.length v.cc, .slice v.al N.links.length v.cl] ∧ Below w1.heap.size w1 wx)
  case first =>
    have hbd : Below w1.heap.size w1 w1.drew := (Below.refl _ _).drew
    have HB := Lib.hid (R0.out.kept hbd)
    have RD : (fun w' => w'.rangeAt w.heap.size 0 [.slice v.ai N.ids.length v.ci, .slice v.ac N.costs.length v.cc, .slice v.al N.links.length v.cl]) w1.drew := range_of_row HB.out rfl
    refine wp_region_held (S := fun w' => w'.rangeAt w.heap.size 0 [.slice v.ai N.ids.length v.ci, .slice v.ac N.costs.length v.cc, .slice v.al N.links.length v.cl]) (by kernel_rfl) ?_
    change wpAnyH _ _ _ _ _ _ _ _ w1.drew
    have hb : Below w1.heap.size w1 w1.drew := hbd
    clear hbd R0 hbW
    generalize w1.drew = wd at *
    refine wpAnyH_take (i := 0) (oi := { dst := some 8, op := Op.load 32 (Operand.tmp 1), type := 32, pos := "least.go:116", after := #[], guard := none }) (v := .agg #[.slice v.ai N.ids.length v.ci, .slice v.ac N.costs.length v.cc, .slice v.al N.links.length v.cl]) rfl (by kernel_rfl) (by kernel_rfl) (by kernel_rfl) (fun _ _ _ h => h) (yieldsIf_load_mid rfl _ _ rfl w.heap.size 0 rfl [.slice v.ai N.ids.length v.ci, .slice v.ac N.costs.length v.cc, .slice v.al N.links.length v.cl] _ (fun w' (hS' : (fun w' => w'.rangeAt w.heap.size 0 [.slice v.ai N.ids.length v.ci, .slice v.ac N.costs.length v.cc, .slice v.al N.links.length v.cl]) w') => hS') Try.underlying32 rfl (by kernel_rfl)) RD ?_
    (try simp only [Act.put, List.setIfInBounds_toArray, List.set_cons_zero, List.set_cons_succ])
    refine wpAnyH_take (i := 2) (oi := { dst := some 10, op := Op.load 32 (Operand.tmp 1), type := 32, pos := "least.go:116", after := #[], guard := none }) (v := .agg #[.slice v.ai N.ids.length v.ci, .slice v.ac N.costs.length v.cc, .slice v.al N.links.length v.cl]) rfl (by kernel_rfl) (by kernel_rfl) (by kernel_rfl) (fun _ _ _ h => h) (yieldsIf_load_mid rfl _ _ rfl w.heap.size 0 rfl [.slice v.ai N.ids.length v.ci, .slice v.ac N.costs.length v.cc, .slice v.al N.links.length v.cl] _ (fun w' (hS' : (fun w' => w'.rangeAt w.heap.size 0 [.slice v.ai N.ids.length v.ci, .slice v.ac N.costs.length v.cc, .slice v.al N.links.length v.cl]) w') => hS') Try.underlying32 rfl (by kernel_rfl)) RD ?_
    (try simp only [Act.put, List.setIfInBounds_toArray, List.set_cons_zero, List.set_cons_succ])
    refine wpAnyH_ready (rs := [1, 4, 5]) (by kernel_rfl) (by simp) ?_
    refine ar_call18 (i := 1) (o := { dst := some 9, op := Op.call { callee := Callee.value (Operand.func 13), args := #[Operand.tmp 8], argTypes := #[32] }, type := 35, pos := "least.go:116", after := #[{ on := 0, ground := Ground.data }], guard := none }) rfl (by kernel_rfl) (xs := [.tmp 8]) (vs := [.agg #[.slice v.ai N.ids.length v.ci, .slice v.ac N.costs.length v.cc, .slice v.al N.links.length v.cl]]) rfl rfl Try.func13 (by kernel_rfl) (by kernel_rfl) ?h1 ?more1
    case h1 =>
      refine (HRY.out wd hb).mono ?_
      rintro e v1 ⟨⟨gr, rfl, hres, hge⟩, hbk⟩
      have Hgr : Hid (RowIs v1 gr 3 (intsA (natI R))) := hres
      have HB := Lib.hid (HB.out.kept hbk)
      have hglgr : w1.heap.size ≤ gr := Nat.le_trans hb.size hge
      have hb := hb.trans (hbk.mono hb.size)
      have RD : (fun w' => w'.rangeAt w.heap.size 0 [.slice v.ai N.ids.length v.ci, .slice v.ac N.costs.length v.cc, .slice v.al N.links.length v.cl]) v1 := range_of_row HB.out rfl
      refine ⟨_, rfl, RD, ?_⟩
      clear hres hge hbk
      (try simp only [Act.put, List.setIfInBounds_toArray, List.set_cons_zero, List.set_cons_succ])
      refine wpAnyH_ready (rs := [3, 4, 5]) (by kernel_rfl) (by simp) ?_
      refine ar_call18 (i := 3) (o := { dst := some 11, op := Op.call { callee := Callee.value (Operand.func 14), args := #[Operand.tmp 10], argTypes := #[32] }, type := 35, pos := "least.go:116", after := #[{ on := 2, ground := Ground.data }, { on := 1, ground := Ground.chain }], guard := none }) rfl (by kernel_rfl) (xs := [.tmp 10]) (vs := [.agg #[.slice v.ai N.ids.length v.ci, .slice v.ac N.costs.length v.cc, .slice v.al N.links.length v.cl]]) rfl rfl Try.func14 (by kernel_rfl) (by kernel_rfl) ?h2 ?more2
      case h2 =>
        refine (HDY.out v1 hb).mono ?_
        rintro e v2 ⟨⟨gd, rfl, hres, hge⟩, hbk⟩
        have Hgr := Lib.hid (Hgr.out.kept hbk)
        have Hgd : Hid (RowIs v2 gd 3 (intsA D)) := hres
        have HB := Lib.hid (HB.out.kept hbk)
        have hglgd : w1.heap.size ≤ gd := Nat.le_trans hb.size hge
        have hb := hb.trans (hbk.mono hb.size)
        have RD : (fun w' => w'.rangeAt w.heap.size 0 [.slice v.ai N.ids.length v.ci, .slice v.ac N.costs.length v.cc, .slice v.al N.links.length v.cl]) v2 := range_of_row HB.out rfl
        refine ⟨_, rfl, RD, ?_⟩
        clear hres hge hbk
        (try simp only [Act.put, List.setIfInBounds_toArray, List.set_cons_zero, List.set_cons_succ])
        refine wpAnyH_ready (rs := [4, 5]) (by kernel_rfl) (by simp) ?_
        refine ar_alloc18 (i := 4) (o := { dst := some 3, op := Op.alloc 35, type := 0, pos := "least.go:116", after := #[], guard := none }) rfl (by kernel_rfl) 35 rfl #[.slice none 0 0] (by kernel_rfl) ?h3 ?more3
        case h3 =>
          have hbk : Below v2.heap.size v2 (v2.alloc (.cells #[.slice none 0 0] 35)) := (Below.refl _ _).alloc (Nat.le_refl _) _
          have Hgr := Lib.hid (Hgr.out.kept hbk)
          have Hgd := Lib.hid (Hgd.out.kept hbk)
          have HRO := Lib.hid (rowIs_new v2 35 #[.slice none 0 0])
          have HB := Lib.hid (HB.out.kept hbk)
          have hglRO : w1.heap.size ≤ v2.heap.size := hb.size
          have hb := hb.trans (hbk.mono hb.size)
          have RD : (fun w' => w'.rangeAt w.heap.size 0 [.slice v.ai N.ids.length v.ci, .slice v.ac N.costs.length v.cc, .slice v.al N.links.length v.cl]) (v2.alloc (.cells #[.slice none 0 0] 35)) := range_of_row HB.out rfl
          refine ⟨RD, ?_⟩
          clear hbk
          generalize v2.alloc (.cells #[.slice none 0 0] 35) = v3 at *
          generalize v2.heap.size = RO at *
          (try simp only [Act.put, List.setIfInBounds_toArray, List.set_cons_zero, List.set_cons_succ])
          refine wpAnyH_ready (rs := [5]) (by kernel_rfl) (by simp) ?_
          refine ar_alloc18 (i := 5) (o := { dst := some 4, op := Op.alloc 35, type := 0, pos := "least.go:116", after := #[], guard := none }) rfl (by kernel_rfl) 35 rfl #[.slice none 0 0] (by kernel_rfl) ?h4 AllReadyH.nil
          case h4 =>
            have hbk : Below v3.heap.size v3 (v3.alloc (.cells #[.slice none 0 0] 35)) := (Below.refl _ _).alloc (Nat.le_refl _) _
            have hne : RO ≠ v3.heap.size := by have := HRO.out.lt; omega
            have Hgr := Lib.hid (Hgr.out.kept hbk)
            have Hgd := Lib.hid (Hgd.out.kept hbk)
            have HRO := Lib.hid (HRO.out.kept hbk)
            have HDO := Lib.hid (rowIs_new v3 35 #[.slice none 0 0])
            have HB := Lib.hid (HB.out.kept hbk)
            have hglDO : w1.heap.size ≤ v3.heap.size := hb.size
            have hb := hb.trans (hbk.mono hb.size)
            have RD : (fun w' => w'.rangeAt w.heap.size 0 [.slice v.ai N.ids.length v.ci, .slice v.ac N.costs.length v.cc, .slice v.al N.links.length v.cl]) (v3.alloc (.cells #[.slice none 0 0] 35)) := range_of_row HB.out rfl
            refine ⟨RD, ?_⟩
            clear hbk
            generalize v3.alloc (.cells #[.slice none 0 0] 35) = v4 at *
            generalize v3.heap.size = DO at *
            (try simp only [Act.put, List.setIfInBounds_toArray, List.set_cons_zero, List.set_cons_succ])
            have hRD : RO ≠ DO := hne
            refine wpAnyH_ready (rs := [6]) (by kernel_rfl) (by simp) ?_
            refine ar_cell18 (i := 6) (o := { dst := none, op := Op.store 35 (Operand.tmp 3) (Operand.tmp 9), type := 0, pos := "least.go:116", after := #[{ on := 4, ground := Ground.data }, { on := 1, ground := Ground.data }, { on := 3, ground := Ground.chain }, { on := 0, ground := Ground.phase }, { on := 1, ground := Ground.phase }, { on := 2, ground := Ground.textOnly Departure.lateStores }, { on := 3, ground := Ground.textOnly Departure.lateStoresUnsure }, { on := 4, ground := Ground.phase }, { on := 5, ground := Ground.phase }], guard := none }) rfl (by kernel_rfl) 35 (.tmp 3) (.tmp 9) rfl RO 0 (.slice (some ⟨gr, 0, none⟩) N.ids.length N.ids.length) rfl rfl 35 _ HRO.out (show 0 < 1 from by decide) (by kernel_rfl) rfl ?_
            intro wa hRa hoa hsa hba
            have HRa : Hid (RowIs wa RO 35 #[.slice (some ⟨gr, 0, none⟩) N.ids.length N.ids.length]) := hRa
            have n1 : gr ≠ RO := rowIs_ne Hgr.out HRO.out (by decide)
            have n2 : gd ≠ RO := rowIs_ne Hgd.out HRO.out (by decide)
            have n3 : w.heap.size ≠ RO := rowIs_ne HB.out HRO.out (by decide)
            have n4 : gr ≠ DO := rowIs_ne Hgr.out HDO.out (by decide)
            have n5 : gd ≠ DO := rowIs_ne Hgd.out HDO.out (by decide)
            have n6 : w.heap.size ≠ DO := rowIs_ne HB.out HDO.out (by decide)
            have HB := Lib.hid (rowIs_same HB.out (hoa _ n3))
            have HDO := Lib.hid (rowIs_same HDO.out (hoa _ (Ne.symm hRD)))
            have Hgr := Lib.hid (rowIs_same Hgr.out (hoa _ n1))
            have Hgd := Lib.hid (rowIs_same Hgd.out (hoa _ n2))
            have hb := hb.trans (hba.mono hglRO)
            have RD : (fun w' => w'.rangeAt w.heap.size 0 [.slice v.ai N.ids.length v.ci, .slice v.ac N.costs.length v.cc, .slice v.al N.links.length v.cl]) wa := range_of_row HB.out rfl
            refine ⟨RD, ?_⟩
            clear hRa hoa hsa hba HRO n1 n2 n3
            (try simp only [Act.put, List.setIfInBounds_toArray, List.set_cons_zero, List.set_cons_succ])
            refine wpAnyH_ready (rs := [7]) (by kernel_rfl) (by simp) ?_
            refine ar_cell18 (i := 7) (o := { dst := none, op := Op.store 35 (Operand.tmp 4) (Operand.tmp 11), type := 0, pos := "least.go:116", after := #[{ on := 5, ground := Ground.data }, { on := 3, ground := Ground.data }, { on := 6, ground := Ground.chain }, { on := 0, ground := Ground.phase }, { on := 1, ground := Ground.phase }, { on := 2, ground := Ground.phase }, { on := 3, ground := Ground.phase }, { on := 4, ground := Ground.phase }, { on := 5, ground := Ground.phase }, { on := 6, ground := Ground.phase }], guard := none } ) rfl (by kernel_rfl) 35 (.tmp 4) (.tmp 11) rfl DO 0 (.slice (some ⟨gd, 0, none⟩) N.ids.length N.ids.length) rfl rfl 35 _ HDO.out (show 0 < 1 from by decide) (by kernel_rfl) rfl ?_
            intro wb hRb hob hsb hbb
            have HRb : Hid (RowIs wb DO 35 #[.slice (some ⟨gd, 0, none⟩) N.ids.length N.ids.length]) := hRb
            have HB := Lib.hid (rowIs_same HB.out (hob _ n6))
            have HRa := Lib.hid (rowIs_same HRa.out (hob _ hRD))
            have Hgr := Lib.hid (rowIs_same Hgr.out (hob _ n4))
            have Hgd := Lib.hid (rowIs_same Hgd.out (hob _ n5))
            have hb := hb.trans (hbb.mono hglDO)
            refine ⟨range_of_row HB.out rfl, ?_⟩
            clear hRb hob hsb hbb HDO n4 n5 n6 RD
            (try simp only [Act.put, List.setIfInBounds_toArray, List.set_cons_zero, List.set_cons_succ])
            refine wpAnyH_done (by kernel_rfl) ?_ _
            go_wp2_with fail
            go_meet
            exact ⟨RO, DO, gr, gd, rfl, rfl, ⟨HRL.out ▸ HRa.out, Hgr.out⟩, ⟨HDL.out ▸ HRb.out, Hgd.out⟩, HB.out, hb⟩
        case more3 =>
          refine ar_alloc18 (i := 5) (o := { dst := some 4, op := Op.alloc 35, type := 0, pos := "least.go:116", after := #[], guard := none }) rfl (by kernel_rfl) 35 rfl #[.slice none 0 0] (by kernel_rfl) ?h5 AllReadyH.nil
          case h5 =>
            have hbk : Below v2.heap.size v2 (v2.alloc (.cells #[.slice none 0 0] 35)) := (Below.refl _ _).alloc (Nat.le_refl _) _
            have Hgr := Lib.hid (Hgr.out.kept hbk)
            have Hgd := Lib.hid (Hgd.out.kept hbk)
            have HDO := Lib.hid (rowIs_new v2 35 #[.slice none 0 0])
            have HB := Lib.hid (HB.out.kept hbk)
            have hglDO : w1.heap.size ≤ v2.heap.size := hb.size
            have hb := hb.trans (hbk.mono hb.size)
            have RD : (fun w' => w'.rangeAt w.heap.size 0 [.slice v.ai N.ids.length v.ci, .slice v.ac N.costs.length v.cc, .slice v.al N.links.length v.cl]) (v2.alloc (.cells #[.slice none 0 0] 35)) := range_of_row HB.out rfl
            refine ⟨RD, ?_⟩
            clear hbk
            generalize v2.alloc (.cells #[.slice none 0 0] 35) = v5 at *
            generalize v2.heap.size = DO at *
            (try simp only [Act.put, List.setIfInBounds_toArray, List.set_cons_zero, List.set_cons_succ])
            refine wpAnyH_ready (rs := [4]) (by kernel_rfl) (by simp) ?_
            refine ar_alloc18 (i := 4) (o := { dst := some 3, op := Op.alloc 35, type := 0, pos := "least.go:116", after := #[], guard := none }) rfl (by kernel_rfl) 35 rfl #[.slice none 0 0] (by kernel_rfl) ?h6 AllReadyH.nil
            case h6 =>
              have hbk : Below v5.heap.size v5 (v5.alloc (.cells #[.slice none 0 0] 35)) := (Below.refl _ _).alloc (Nat.le_refl _) _
              have hne : DO ≠ v5.heap.size := by have := HDO.out.lt; omega
              have Hgr := Lib.hid (Hgr.out.kept hbk)
              have Hgd := Lib.hid (Hgd.out.kept hbk)
              have HDO := Lib.hid (HDO.out.kept hbk)
              have HRO := Lib.hid (rowIs_new v5 35 #[.slice none 0 0])
              have HB := Lib.hid (HB.out.kept hbk)
              have hglRO : w1.heap.size ≤ v5.heap.size := hb.size
              have hb := hb.trans (hbk.mono hb.size)
              have RD : (fun w' => w'.rangeAt w.heap.size 0 [.slice v.ai N.ids.length v.ci, .slice v.ac N.costs.length v.cc, .slice v.al N.links.length v.cl]) (v5.alloc (.cells #[.slice none 0 0] 35)) := range_of_row HB.out rfl
              refine ⟨RD, ?_⟩
              clear hbk
              generalize v5.alloc (.cells #[.slice none 0 0] 35) = v6 at *
              generalize v5.heap.size = RO at *
              (try simp only [Act.put, List.setIfInBounds_toArray, List.set_cons_zero, List.set_cons_succ])
              have hRD : RO ≠ DO := (Ne.symm hne)
              refine wpAnyH_ready (rs := [6]) (by kernel_rfl) (by simp) ?_
              refine ar_cell18 (i := 6) (o := { dst := none, op := Op.store 35 (Operand.tmp 3) (Operand.tmp 9), type := 0, pos := "least.go:116", after := #[{ on := 4, ground := Ground.data }, { on := 1, ground := Ground.data }, { on := 3, ground := Ground.chain }, { on := 0, ground := Ground.phase }, { on := 1, ground := Ground.phase }, { on := 2, ground := Ground.textOnly Departure.lateStores }, { on := 3, ground := Ground.textOnly Departure.lateStoresUnsure }, { on := 4, ground := Ground.phase }, { on := 5, ground := Ground.phase }], guard := none }) rfl (by kernel_rfl) 35 (.tmp 3) (.tmp 9) rfl RO 0 (.slice (some ⟨gr, 0, none⟩) N.ids.length N.ids.length) rfl rfl 35 _ HRO.out (show 0 < 1 from by decide) (by kernel_rfl) rfl ?_
              intro wa hRa hoa hsa hba
              have HRa : Hid (RowIs wa RO 35 #[.slice (some ⟨gr, 0, none⟩) N.ids.length N.ids.length]) := hRa
              have n1 : gr ≠ RO := rowIs_ne Hgr.out HRO.out (by decide)
              have n2 : gd ≠ RO := rowIs_ne Hgd.out HRO.out (by decide)
              have n3 : w.heap.size ≠ RO := rowIs_ne HB.out HRO.out (by decide)
              have n4 : gr ≠ DO := rowIs_ne Hgr.out HDO.out (by decide)
              have n5 : gd ≠ DO := rowIs_ne Hgd.out HDO.out (by decide)
              have n6 : w.heap.size ≠ DO := rowIs_ne HB.out HDO.out (by decide)
              have HB := Lib.hid (rowIs_same HB.out (hoa _ n3))
              have HDO := Lib.hid (rowIs_same HDO.out (hoa _ (Ne.symm hRD)))
              have Hgr := Lib.hid (rowIs_same Hgr.out (hoa _ n1))
              have Hgd := Lib.hid (rowIs_same Hgd.out (hoa _ n2))
              have hb := hb.trans (hba.mono hglRO)
              have RD : (fun w' => w'.rangeAt w.heap.size 0 [.slice v.ai N.ids.length v.ci, .slice v.ac N.costs.length v.cc, .slice v.al N.links.length v.cl]) wa := range_of_row HB.out rfl
              refine ⟨RD, ?_⟩
              clear hRa hoa hsa hba HRO n1 n2 n3
              (try simp only [Act.put, List.setIfInBounds_toArray, List.set_cons_zero, List.set_cons_succ])
              refine wpAnyH_ready (rs := [7]) (by kernel_rfl) (by simp) ?_
              refine ar_cell18 (i := 7) (o := { dst := none, op := Op.store 35 (Operand.tmp 4) (Operand.tmp 11), type := 0, pos := "least.go:116", after := #[{ on := 5, ground := Ground.data }, { on := 3, ground := Ground.data }, { on := 6, ground := Ground.chain }, { on := 0, ground := Ground.phase }, { on := 1, ground := Ground.phase }, { on := 2, ground := Ground.phase }, { on := 3, ground := Ground.phase }, { on := 4, ground := Ground.phase }, { on := 5, ground := Ground.phase }, { on := 6, ground := Ground.phase }], guard := none } ) rfl (by kernel_rfl) 35 (.tmp 4) (.tmp 11) rfl DO 0 (.slice (some ⟨gd, 0, none⟩) N.ids.length N.ids.length) rfl rfl 35 _ HDO.out (show 0 < 1 from by decide) (by kernel_rfl) rfl ?_
              intro wb hRb hob hsb hbb
              have HRb : Hid (RowIs wb DO 35 #[.slice (some ⟨gd, 0, none⟩) N.ids.length N.ids.length]) := hRb
              have HB := Lib.hid (rowIs_same HB.out (hob _ n6))
              have HRa := Lib.hid (rowIs_same HRa.out (hob _ hRD))
              have Hgr := Lib.hid (rowIs_same Hgr.out (hob _ n4))
              have Hgd := Lib.hid (rowIs_same Hgd.out (hob _ n5))
              have hb := hb.trans (hbb.mono hglDO)
              refine ⟨range_of_row HB.out rfl, ?_⟩
              clear hRb hob hsb hbb HDO n4 n5 n6 RD
              (try simp only [Act.put, List.setIfInBounds_toArray, List.set_cons_zero, List.set_cons_succ])
              refine wpAnyH_done (by kernel_rfl) ?_ _
              go_wp2_with fail
              go_meet
              exact ⟨RO, DO, gr, gd, rfl, rfl, ⟨HRL.out ▸ HRa.out, Hgr.out⟩, ⟨HDL.out ▸ HRb.out, Hgd.out⟩, HB.out, hb⟩
      case more2 =>
        refine ar_alloc18 (i := 4) (o := { dst := some 3, op := Op.alloc 35, type := 0, pos := "least.go:116", after := #[], guard := none }) rfl (by kernel_rfl) 35 rfl #[.slice none 0 0] (by kernel_rfl) ?h7 ?more7
        case h7 =>
          have hbk : Below v1.heap.size v1 (v1.alloc (.cells #[.slice none 0 0] 35)) := (Below.refl _ _).alloc (Nat.le_refl _) _
          have Hgr := Lib.hid (Hgr.out.kept hbk)
          have HRO := Lib.hid (rowIs_new v1 35 #[.slice none 0 0])
          have HB := Lib.hid (HB.out.kept hbk)
          have hglRO : w1.heap.size ≤ v1.heap.size := hb.size
          have hb := hb.trans (hbk.mono hb.size)
          have RD : (fun w' => w'.rangeAt w.heap.size 0 [.slice v.ai N.ids.length v.ci, .slice v.ac N.costs.length v.cc, .slice v.al N.links.length v.cl]) (v1.alloc (.cells #[.slice none 0 0] 35)) := range_of_row HB.out rfl
          refine ⟨RD, ?_⟩
          clear hbk
          generalize v1.alloc (.cells #[.slice none 0 0] 35) = v7 at *
          generalize v1.heap.size = RO at *
          (try simp only [Act.put, List.setIfInBounds_toArray, List.set_cons_zero, List.set_cons_succ])
          refine wpAnyH_ready (rs := [3, 5]) (by kernel_rfl) (by simp) ?_
          refine ar_call18 (i := 3) (o := { dst := some 11, op := Op.call { callee := Callee.value (Operand.func 14), args := #[Operand.tmp 10], argTypes := #[32] }, type := 35, pos := "least.go:116", after := #[{ on := 2, ground := Ground.data }, { on := 1, ground := Ground.chain }], guard := none }) rfl (by kernel_rfl) (xs := [.tmp 10]) (vs := [.agg #[.slice v.ai N.ids.length v.ci, .slice v.ac N.costs.length v.cc, .slice v.al N.links.length v.cl]]) rfl rfl Try.func14 (by kernel_rfl) (by kernel_rfl) ?h8 ?more8
          case h8 =>
            refine (HDY.out v7 hb).mono ?_
            rintro e v8 ⟨⟨gd, rfl, hres, hge⟩, hbk⟩
            have Hgr := Lib.hid (Hgr.out.kept hbk)
            have HRO := Lib.hid (HRO.out.kept hbk)
            have Hgd : Hid (RowIs v8 gd 3 (intsA D)) := hres
            have HB := Lib.hid (HB.out.kept hbk)
            have hglgd : w1.heap.size ≤ gd := Nat.le_trans hb.size hge
            have hb := hb.trans (hbk.mono hb.size)
            have RD : (fun w' => w'.rangeAt w.heap.size 0 [.slice v.ai N.ids.length v.ci, .slice v.ac N.costs.length v.cc, .slice v.al N.links.length v.cl]) v8 := range_of_row HB.out rfl
            refine ⟨_, rfl, RD, ?_⟩
            clear hres hge hbk
            (try simp only [Act.put, List.setIfInBounds_toArray, List.set_cons_zero, List.set_cons_succ])
            refine wpAnyH_ready (rs := [5]) (by kernel_rfl) (by simp) ?_
            refine ar_alloc18 (i := 5) (o := { dst := some 4, op := Op.alloc 35, type := 0, pos := "least.go:116", after := #[], guard := none }) rfl (by kernel_rfl) 35 rfl #[.slice none 0 0] (by kernel_rfl) ?h9 AllReadyH.nil
            case h9 =>
              have hbk : Below v8.heap.size v8 (v8.alloc (.cells #[.slice none 0 0] 35)) := (Below.refl _ _).alloc (Nat.le_refl _) _
              have hne : RO ≠ v8.heap.size := by have := HRO.out.lt; omega
              have Hgr := Lib.hid (Hgr.out.kept hbk)
              have HRO := Lib.hid (HRO.out.kept hbk)
              have Hgd := Lib.hid (Hgd.out.kept hbk)
              have HDO := Lib.hid (rowIs_new v8 35 #[.slice none 0 0])
              have HB := Lib.hid (HB.out.kept hbk)
              have hglDO : w1.heap.size ≤ v8.heap.size := hb.size
              have hb := hb.trans (hbk.mono hb.size)
              have RD : (fun w' => w'.rangeAt w.heap.size 0 [.slice v.ai N.ids.length v.ci, .slice v.ac N.costs.length v.cc, .slice v.al N.links.length v.cl]) (v8.alloc (.cells #[.slice none 0 0] 35)) := range_of_row HB.out rfl
              refine ⟨RD, ?_⟩
              clear hbk
              generalize v8.alloc (.cells #[.slice none 0 0] 35) = v9 at *
              generalize v8.heap.size = DO at *
              (try simp only [Act.put, List.setIfInBounds_toArray, List.set_cons_zero, List.set_cons_succ])
              have hRD : RO ≠ DO := hne
              refine wpAnyH_ready (rs := [6]) (by kernel_rfl) (by simp) ?_
              refine ar_cell18 (i := 6) (o := { dst := none, op := Op.store 35 (Operand.tmp 3) (Operand.tmp 9), type := 0, pos := "least.go:116", after := #[{ on := 4, ground := Ground.data }, { on := 1, ground := Ground.data }, { on := 3, ground := Ground.chain }, { on := 0, ground := Ground.phase }, { on := 1, ground := Ground.phase }, { on := 2, ground := Ground.textOnly Departure.lateStores }, { on := 3, ground := Ground.textOnly Departure.lateStoresUnsure }, { on := 4, ground := Ground.phase }, { on := 5, ground := Ground.phase }], guard := none }) rfl (by kernel_rfl) 35 (.tmp 3) (.tmp 9) rfl RO 0 (.slice (some ⟨gr, 0, none⟩) N.ids.length N.ids.length) rfl rfl 35 _ HRO.out (show 0 < 1 from by decide) (by kernel_rfl) rfl ?_
              intro wa hRa hoa hsa hba
              have HRa : Hid (RowIs wa RO 35 #[.slice (some ⟨gr, 0, none⟩) N.ids.length N.ids.length]) := hRa
              have n1 : gr ≠ RO := rowIs_ne Hgr.out HRO.out (by decide)
              have n2 : gd ≠ RO := rowIs_ne Hgd.out HRO.out (by decide)
              have n3 : w.heap.size ≠ RO := rowIs_ne HB.out HRO.out (by decide)
              have n4 : gr ≠ DO := rowIs_ne Hgr.out HDO.out (by decide)
              have n5 : gd ≠ DO := rowIs_ne Hgd.out HDO.out (by decide)
              have n6 : w.heap.size ≠ DO := rowIs_ne HB.out HDO.out (by decide)
              have HB := Lib.hid (rowIs_same HB.out (hoa _ n3))
              have HDO := Lib.hid (rowIs_same HDO.out (hoa _ (Ne.symm hRD)))
              have Hgr := Lib.hid (rowIs_same Hgr.out (hoa _ n1))
              have Hgd := Lib.hid (rowIs_same Hgd.out (hoa _ n2))
              have hb := hb.trans (hba.mono hglRO)
              have RD : (fun w' => w'.rangeAt w.heap.size 0 [.slice v.ai N.ids.length v.ci, .slice v.ac N.costs.length v.cc, .slice v.al N.links.length v.cl]) wa := range_of_row HB.out rfl
              refine ⟨RD, ?_⟩
              clear hRa hoa hsa hba HRO n1 n2 n3
              (try simp only [Act.put, List.setIfInBounds_toArray, List.set_cons_zero, List.set_cons_succ])
              refine wpAnyH_ready (rs := [7]) (by kernel_rfl) (by simp) ?_
              refine ar_cell18 (i := 7) (o := { dst := none, op := Op.store 35 (Operand.tmp 4) (Operand.tmp 11), type := 0, pos := "least.go:116", after := #[{ on := 5, ground := Ground.data }, { on := 3, ground := Ground.data }, { on := 6, ground := Ground.chain }, { on := 0, ground := Ground.phase }, { on := 1, ground := Ground.phase }, { on := 2, ground := Ground.phase }, { on := 3, ground := Ground.phase }, { on := 4, ground := Ground.phase }, { on := 5, ground := Ground.phase }, { on := 6, ground := Ground.phase }], guard := none } ) rfl (by kernel_rfl) 35 (.tmp 4) (.tmp 11) rfl DO 0 (.slice (some ⟨gd, 0, none⟩) N.ids.length N.ids.length) rfl rfl 35 _ HDO.out (show 0 < 1 from by decide) (by kernel_rfl) rfl ?_
              intro wb hRb hob hsb hbb
              have HRb : Hid (RowIs wb DO 35 #[.slice (some ⟨gd, 0, none⟩) N.ids.length N.ids.length]) := hRb
              have HB := Lib.hid (rowIs_same HB.out (hob _ n6))
              have HRa := Lib.hid (rowIs_same HRa.out (hob _ hRD))
              have Hgr := Lib.hid (rowIs_same Hgr.out (hob _ n4))
              have Hgd := Lib.hid (rowIs_same Hgd.out (hob _ n5))
              have hb := hb.trans (hbb.mono hglDO)
              refine ⟨range_of_row HB.out rfl, ?_⟩
              clear hRb hob hsb hbb HDO n4 n5 n6 RD
              (try simp only [Act.put, List.setIfInBounds_toArray, List.set_cons_zero, List.set_cons_succ])
              refine wpAnyH_done (by kernel_rfl) ?_ _
              go_wp2_with fail
              go_meet
              exact ⟨RO, DO, gr, gd, rfl, rfl, ⟨HRL.out ▸ HRa.out, Hgr.out⟩, ⟨HDL.out ▸ HRb.out, Hgd.out⟩, HB.out, hb⟩
          case more8 =>
            refine ar_alloc18 (i := 5) (o := { dst := some 4, op := Op.alloc 35, type := 0, pos := "least.go:116", after := #[], guard := none }) rfl (by kernel_rfl) 35 rfl #[.slice none 0 0] (by kernel_rfl) ?h10 AllReadyH.nil
            case h10 =>
              have hbk : Below v7.heap.size v7 (v7.alloc (.cells #[.slice none 0 0] 35)) := (Below.refl _ _).alloc (Nat.le_refl _) _
              have hne : RO ≠ v7.heap.size := by have := HRO.out.lt; omega
              have Hgr := Lib.hid (Hgr.out.kept hbk)
              have HRO := Lib.hid (HRO.out.kept hbk)
              have HDO := Lib.hid (rowIs_new v7 35 #[.slice none 0 0])
              have HB := Lib.hid (HB.out.kept hbk)
              have hglDO : w1.heap.size ≤ v7.heap.size := hb.size
              have hb := hb.trans (hbk.mono hb.size)
              have RD : (fun w' => w'.rangeAt w.heap.size 0 [.slice v.ai N.ids.length v.ci, .slice v.ac N.costs.length v.cc, .slice v.al N.links.length v.cl]) (v7.alloc (.cells #[.slice none 0 0] 35)) := range_of_row HB.out rfl
              refine ⟨RD, ?_⟩
              clear hbk
              generalize v7.alloc (.cells #[.slice none 0 0] 35) = v10 at *
              generalize v7.heap.size = DO at *
              (try simp only [Act.put, List.setIfInBounds_toArray, List.set_cons_zero, List.set_cons_succ])
              refine wpAnyH_ready (rs := [3]) (by kernel_rfl) (by simp) ?_
              refine ar_call18 (i := 3) (o := { dst := some 11, op := Op.call { callee := Callee.value (Operand.func 14), args := #[Operand.tmp 10], argTypes := #[32] }, type := 35, pos := "least.go:116", after := #[{ on := 2, ground := Ground.data }, { on := 1, ground := Ground.chain }], guard := none }) rfl (by kernel_rfl) (xs := [.tmp 10]) (vs := [.agg #[.slice v.ai N.ids.length v.ci, .slice v.ac N.costs.length v.cc, .slice v.al N.links.length v.cl]]) rfl rfl Try.func14 (by kernel_rfl) (by kernel_rfl) ?h11 AllReadyH.nil
              case h11 =>
                refine (HDY.out v10 hb).mono ?_
                rintro e v11 ⟨⟨gd, rfl, hres, hge⟩, hbk⟩
                have Hgr := Lib.hid (Hgr.out.kept hbk)
                have HRO := Lib.hid (HRO.out.kept hbk)
                have HDO := Lib.hid (HDO.out.kept hbk)
                have Hgd : Hid (RowIs v11 gd 3 (intsA D)) := hres
                have HB := Lib.hid (HB.out.kept hbk)
                have hglgd : w1.heap.size ≤ gd := Nat.le_trans hb.size hge
                have hb := hb.trans (hbk.mono hb.size)
                have RD : (fun w' => w'.rangeAt w.heap.size 0 [.slice v.ai N.ids.length v.ci, .slice v.ac N.costs.length v.cc, .slice v.al N.links.length v.cl]) v11 := range_of_row HB.out rfl
                refine ⟨_, rfl, RD, ?_⟩
                clear hres hge hbk
                (try simp only [Act.put, List.setIfInBounds_toArray, List.set_cons_zero, List.set_cons_succ])
                have hRD : RO ≠ DO := hne
                refine wpAnyH_ready (rs := [6]) (by kernel_rfl) (by simp) ?_
                refine ar_cell18 (i := 6) (o := { dst := none, op := Op.store 35 (Operand.tmp 3) (Operand.tmp 9), type := 0, pos := "least.go:116", after := #[{ on := 4, ground := Ground.data }, { on := 1, ground := Ground.data }, { on := 3, ground := Ground.chain }, { on := 0, ground := Ground.phase }, { on := 1, ground := Ground.phase }, { on := 2, ground := Ground.textOnly Departure.lateStores }, { on := 3, ground := Ground.textOnly Departure.lateStoresUnsure }, { on := 4, ground := Ground.phase }, { on := 5, ground := Ground.phase }], guard := none }) rfl (by kernel_rfl) 35 (.tmp 3) (.tmp 9) rfl RO 0 (.slice (some ⟨gr, 0, none⟩) N.ids.length N.ids.length) rfl rfl 35 _ HRO.out (show 0 < 1 from by decide) (by kernel_rfl) rfl ?_
                intro wa hRa hoa hsa hba
                have HRa : Hid (RowIs wa RO 35 #[.slice (some ⟨gr, 0, none⟩) N.ids.length N.ids.length]) := hRa
                have n1 : gr ≠ RO := rowIs_ne Hgr.out HRO.out (by decide)
                have n2 : gd ≠ RO := rowIs_ne Hgd.out HRO.out (by decide)
                have n3 : w.heap.size ≠ RO := rowIs_ne HB.out HRO.out (by decide)
                have n4 : gr ≠ DO := rowIs_ne Hgr.out HDO.out (by decide)
                have n5 : gd ≠ DO := rowIs_ne Hgd.out HDO.out (by decide)
                have n6 : w.heap.size ≠ DO := rowIs_ne HB.out HDO.out (by decide)
                have HB := Lib.hid (rowIs_same HB.out (hoa _ n3))
                have HDO := Lib.hid (rowIs_same HDO.out (hoa _ (Ne.symm hRD)))
                have Hgr := Lib.hid (rowIs_same Hgr.out (hoa _ n1))
                have Hgd := Lib.hid (rowIs_same Hgd.out (hoa _ n2))
                have hb := hb.trans (hba.mono hglRO)
                have RD : (fun w' => w'.rangeAt w.heap.size 0 [.slice v.ai N.ids.length v.ci, .slice v.ac N.costs.length v.cc, .slice v.al N.links.length v.cl]) wa := range_of_row HB.out rfl
                refine ⟨RD, ?_⟩
                clear hRa hoa hsa hba HRO n1 n2 n3
                (try simp only [Act.put, List.setIfInBounds_toArray, List.set_cons_zero, List.set_cons_succ])
                refine wpAnyH_ready (rs := [7]) (by kernel_rfl) (by simp) ?_
                refine ar_cell18 (i := 7) (o := { dst := none, op := Op.store 35 (Operand.tmp 4) (Operand.tmp 11), type := 0, pos := "least.go:116", after := #[{ on := 5, ground := Ground.data }, { on := 3, ground := Ground.data }, { on := 6, ground := Ground.chain }, { on := 0, ground := Ground.phase }, { on := 1, ground := Ground.phase }, { on := 2, ground := Ground.phase }, { on := 3, ground := Ground.phase }, { on := 4, ground := Ground.phase }, { on := 5, ground := Ground.phase }, { on := 6, ground := Ground.phase }], guard := none } ) rfl (by kernel_rfl) 35 (.tmp 4) (.tmp 11) rfl DO 0 (.slice (some ⟨gd, 0, none⟩) N.ids.length N.ids.length) rfl rfl 35 _ HDO.out (show 0 < 1 from by decide) (by kernel_rfl) rfl ?_
                intro wb hRb hob hsb hbb
                have HRb : Hid (RowIs wb DO 35 #[.slice (some ⟨gd, 0, none⟩) N.ids.length N.ids.length]) := hRb
                have HB := Lib.hid (rowIs_same HB.out (hob _ n6))
                have HRa := Lib.hid (rowIs_same HRa.out (hob _ hRD))
                have Hgr := Lib.hid (rowIs_same Hgr.out (hob _ n4))
                have Hgd := Lib.hid (rowIs_same Hgd.out (hob _ n5))
                have hb := hb.trans (hbb.mono hglDO)
                refine ⟨range_of_row HB.out rfl, ?_⟩
                clear hRb hob hsb hbb HDO n4 n5 n6 RD
                (try simp only [Act.put, List.setIfInBounds_toArray, List.set_cons_zero, List.set_cons_succ])
                refine wpAnyH_done (by kernel_rfl) ?_ _
                go_wp2_with fail
                go_meet
                exact ⟨RO, DO, gr, gd, rfl, rfl, ⟨HRL.out ▸ HRa.out, Hgr.out⟩, ⟨HDL.out ▸ HRb.out, Hgd.out⟩, HB.out, hb⟩
        case more7 =>
          refine ar_alloc18 (i := 5) (o := { dst := some 4, op := Op.alloc 35, type := 0, pos := "least.go:116", after := #[], guard := none }) rfl (by kernel_rfl) 35 rfl #[.slice none 0 0] (by kernel_rfl) ?h12 AllReadyH.nil
          case h12 =>
            have hbk : Below v1.heap.size v1 (v1.alloc (.cells #[.slice none 0 0] 35)) := (Below.refl _ _).alloc (Nat.le_refl _) _
            have Hgr := Lib.hid (Hgr.out.kept hbk)
            have HDO := Lib.hid (rowIs_new v1 35 #[.slice none 0 0])
            have HB := Lib.hid (HB.out.kept hbk)
            have hglDO : w1.heap.size ≤ v1.heap.size := hb.size
            have hb := hb.trans (hbk.mono hb.size)
            have RD : (fun w' => w'.rangeAt w.heap.size 0 [.slice v.ai N.ids.length v.ci, .slice v.ac N.costs.length v.cc, .slice v.al N.links.length v.cl]) (v1.alloc (.cells #[.slice none 0 0] 35)) := range_of_row HB.out rfl
            refine ⟨RD, ?_⟩
            clear hbk
            generalize v1.alloc (.cells #[.slice none 0 0] 35) = v12 at *
            generalize v1.heap.size = DO at *
            (try simp only [Act.put, List.setIfInBounds_toArray, List.set_cons_zero, List.set_cons_succ])
            refine wpAnyH_ready (rs := [3, 4]) (by kernel_rfl) (by simp) ?_
            refine ar_call18 (i := 3) (o := { dst := some 11, op := Op.call { callee := Callee.value (Operand.func 14), args := #[Operand.tmp 10], argTypes := #[32] }, type := 35, pos := "least.go:116", after := #[{ on := 2, ground := Ground.data }, { on := 1, ground := Ground.chain }], guard := none }) rfl (by kernel_rfl) (xs := [.tmp 10]) (vs := [.agg #[.slice v.ai N.ids.length v.ci, .slice v.ac N.costs.length v.cc, .slice v.al N.links.length v.cl]]) rfl rfl Try.func14 (by kernel_rfl) (by kernel_rfl) ?h13 ?more13
            case h13 =>
              refine (HDY.out v12 hb).mono ?_
              rintro e v13 ⟨⟨gd, rfl, hres, hge⟩, hbk⟩
              have Hgr := Lib.hid (Hgr.out.kept hbk)
              have HDO := Lib.hid (HDO.out.kept hbk)
              have Hgd : Hid (RowIs v13 gd 3 (intsA D)) := hres
              have HB := Lib.hid (HB.out.kept hbk)
              have hglgd : w1.heap.size ≤ gd := Nat.le_trans hb.size hge
              have hb := hb.trans (hbk.mono hb.size)
              have RD : (fun w' => w'.rangeAt w.heap.size 0 [.slice v.ai N.ids.length v.ci, .slice v.ac N.costs.length v.cc, .slice v.al N.links.length v.cl]) v13 := range_of_row HB.out rfl
              refine ⟨_, rfl, RD, ?_⟩
              clear hres hge hbk
              (try simp only [Act.put, List.setIfInBounds_toArray, List.set_cons_zero, List.set_cons_succ])
              refine wpAnyH_ready (rs := [4]) (by kernel_rfl) (by simp) ?_
              refine ar_alloc18 (i := 4) (o := { dst := some 3, op := Op.alloc 35, type := 0, pos := "least.go:116", after := #[], guard := none }) rfl (by kernel_rfl) 35 rfl #[.slice none 0 0] (by kernel_rfl) ?h14 AllReadyH.nil
              case h14 =>
                have hbk : Below v13.heap.size v13 (v13.alloc (.cells #[.slice none 0 0] 35)) := (Below.refl _ _).alloc (Nat.le_refl _) _
                have hne : DO ≠ v13.heap.size := by have := HDO.out.lt; omega
                have Hgr := Lib.hid (Hgr.out.kept hbk)
                have HDO := Lib.hid (HDO.out.kept hbk)
                have Hgd := Lib.hid (Hgd.out.kept hbk)
                have HRO := Lib.hid (rowIs_new v13 35 #[.slice none 0 0])
                have HB := Lib.hid (HB.out.kept hbk)
                have hglRO : w1.heap.size ≤ v13.heap.size := hb.size
                have hb := hb.trans (hbk.mono hb.size)
                have RD : (fun w' => w'.rangeAt w.heap.size 0 [.slice v.ai N.ids.length v.ci, .slice v.ac N.costs.length v.cc, .slice v.al N.links.length v.cl]) (v13.alloc (.cells #[.slice none 0 0] 35)) := range_of_row HB.out rfl
                refine ⟨RD, ?_⟩
                clear hbk
                generalize v13.alloc (.cells #[.slice none 0 0] 35) = v14 at *
                generalize v13.heap.size = RO at *
                (try simp only [Act.put, List.setIfInBounds_toArray, List.set_cons_zero, List.set_cons_succ])
                have hRD : RO ≠ DO := (Ne.symm hne)
                refine wpAnyH_ready (rs := [6]) (by kernel_rfl) (by simp) ?_
                refine ar_cell18 (i := 6) (o := { dst := none, op := Op.store 35 (Operand.tmp 3) (Operand.tmp 9), type := 0, pos := "least.go:116", after := #[{ on := 4, ground := Ground.data }, { on := 1, ground := Ground.data }, { on := 3, ground := Ground.chain }, { on := 0, ground := Ground.phase }, { on := 1, ground := Ground.phase }, { on := 2, ground := Ground.textOnly Departure.lateStores }, { on := 3, ground := Ground.textOnly Departure.lateStoresUnsure }, { on := 4, ground := Ground.phase }, { on := 5, ground := Ground.phase }], guard := none }) rfl (by kernel_rfl) 35 (.tmp 3) (.tmp 9) rfl RO 0 (.slice (some ⟨gr, 0, none⟩) N.ids.length N.ids.length) rfl rfl 35 _ HRO.out (show 0 < 1 from by decide) (by kernel_rfl) rfl ?_
                intro wa hRa hoa hsa hba
                have HRa : Hid (RowIs wa RO 35 #[.slice (some ⟨gr, 0, none⟩) N.ids.length N.ids.length]) := hRa
                have n1 : gr ≠ RO := rowIs_ne Hgr.out HRO.out (by decide)
                have n2 : gd ≠ RO := rowIs_ne Hgd.out HRO.out (by decide)
                have n3 : w.heap.size ≠ RO := rowIs_ne HB.out HRO.out (by decide)
                have n4 : gr ≠ DO := rowIs_ne Hgr.out HDO.out (by decide)
                have n5 : gd ≠ DO := rowIs_ne Hgd.out HDO.out (by decide)
                have n6 : w.heap.size ≠ DO := rowIs_ne HB.out HDO.out (by decide)
                have HB := Lib.hid (rowIs_same HB.out (hoa _ n3))
                have HDO := Lib.hid (rowIs_same HDO.out (hoa _ (Ne.symm hRD)))
                have Hgr := Lib.hid (rowIs_same Hgr.out (hoa _ n1))
                have Hgd := Lib.hid (rowIs_same Hgd.out (hoa _ n2))
                have hb := hb.trans (hba.mono hglRO)
                have RD : (fun w' => w'.rangeAt w.heap.size 0 [.slice v.ai N.ids.length v.ci, .slice v.ac N.costs.length v.cc, .slice v.al N.links.length v.cl]) wa := range_of_row HB.out rfl
                refine ⟨RD, ?_⟩
                clear hRa hoa hsa hba HRO n1 n2 n3
                (try simp only [Act.put, List.setIfInBounds_toArray, List.set_cons_zero, List.set_cons_succ])
                refine wpAnyH_ready (rs := [7]) (by kernel_rfl) (by simp) ?_
                refine ar_cell18 (i := 7) (o := { dst := none, op := Op.store 35 (Operand.tmp 4) (Operand.tmp 11), type := 0, pos := "least.go:116", after := #[{ on := 5, ground := Ground.data }, { on := 3, ground := Ground.data }, { on := 6, ground := Ground.chain }, { on := 0, ground := Ground.phase }, { on := 1, ground := Ground.phase }, { on := 2, ground := Ground.phase }, { on := 3, ground := Ground.phase }, { on := 4, ground := Ground.phase }, { on := 5, ground := Ground.phase }, { on := 6, ground := Ground.phase }], guard := none } ) rfl (by kernel_rfl) 35 (.tmp 4) (.tmp 11) rfl DO 0 (.slice (some ⟨gd, 0, none⟩) N.ids.length N.ids.length) rfl rfl 35 _ HDO.out (show 0 < 1 from by decide) (by kernel_rfl) rfl ?_
                intro wb hRb hob hsb hbb
                have HRb : Hid (RowIs wb DO 35 #[.slice (some ⟨gd, 0, none⟩) N.ids.length N.ids.length]) := hRb
                have HB := Lib.hid (rowIs_same HB.out (hob _ n6))
                have HRa := Lib.hid (rowIs_same HRa.out (hob _ hRD))
                have Hgr := Lib.hid (rowIs_same Hgr.out (hob _ n4))
                have Hgd := Lib.hid (rowIs_same Hgd.out (hob _ n5))
                have hb := hb.trans (hbb.mono hglDO)
                refine ⟨range_of_row HB.out rfl, ?_⟩
                clear hRb hob hsb hbb HDO n4 n5 n6 RD
                (try simp only [Act.put, List.setIfInBounds_toArray, List.set_cons_zero, List.set_cons_succ])
                refine wpAnyH_done (by kernel_rfl) ?_ _
                go_wp2_with fail
                go_meet
                exact ⟨RO, DO, gr, gd, rfl, rfl, ⟨HRL.out ▸ HRa.out, Hgr.out⟩, ⟨HDL.out ▸ HRb.out, Hgd.out⟩, HB.out, hb⟩
            case more13 =>
              refine ar_alloc18 (i := 4) (o := { dst := some 3, op := Op.alloc 35, type := 0, pos := "least.go:116", after := #[], guard := none }) rfl (by kernel_rfl) 35 rfl #[.slice none 0 0] (by kernel_rfl) ?h15 AllReadyH.nil
              case h15 =>
                have hbk : Below v12.heap.size v12 (v12.alloc (.cells #[.slice none 0 0] 35)) := (Below.refl _ _).alloc (Nat.le_refl _) _
                have hne : DO ≠ v12.heap.size := by have := HDO.out.lt; omega
                have Hgr := Lib.hid (Hgr.out.kept hbk)
                have HDO := Lib.hid (HDO.out.kept hbk)
                have HRO := Lib.hid (rowIs_new v12 35 #[.slice none 0 0])
                have HB := Lib.hid (HB.out.kept hbk)
                have hglRO : w1.heap.size ≤ v12.heap.size := hb.size
                have hb := hb.trans (hbk.mono hb.size)
                have RD : (fun w' => w'.rangeAt w.heap.size 0 [.slice v.ai N.ids.length v.ci, .slice v.ac N.costs.length v.cc, .slice v.al N.links.length v.cl]) (v12.alloc (.cells #[.slice none 0 0] 35)) := range_of_row HB.out rfl
                refine ⟨RD, ?_⟩
                clear hbk
                generalize v12.alloc (.cells #[.slice none 0 0] 35) = v15 at *
                generalize v12.heap.size = RO at *
                (try simp only [Act.put, List.setIfInBounds_toArray, List.set_cons_zero, List.set_cons_succ])
                refine wpAnyH_ready (rs := [3]) (by kernel_rfl) (by simp) ?_
                refine ar_call18 (i := 3) (o := { dst := some 11, op := Op.call { callee := Callee.value (Operand.func 14), args := #[Operand.tmp 10], argTypes := #[32] }, type := 35, pos := "least.go:116", after := #[{ on := 2, ground := Ground.data }, { on := 1, ground := Ground.chain }], guard := none }) rfl (by kernel_rfl) (xs := [.tmp 10]) (vs := [.agg #[.slice v.ai N.ids.length v.ci, .slice v.ac N.costs.length v.cc, .slice v.al N.links.length v.cl]]) rfl rfl Try.func14 (by kernel_rfl) (by kernel_rfl) ?h16 AllReadyH.nil
                case h16 =>
                  refine (HDY.out v15 hb).mono ?_
                  rintro e v16 ⟨⟨gd, rfl, hres, hge⟩, hbk⟩
                  have Hgr := Lib.hid (Hgr.out.kept hbk)
                  have HDO := Lib.hid (HDO.out.kept hbk)
                  have HRO := Lib.hid (HRO.out.kept hbk)
                  have Hgd : Hid (RowIs v16 gd 3 (intsA D)) := hres
                  have HB := Lib.hid (HB.out.kept hbk)
                  have hglgd : w1.heap.size ≤ gd := Nat.le_trans hb.size hge
                  have hb := hb.trans (hbk.mono hb.size)
                  have RD : (fun w' => w'.rangeAt w.heap.size 0 [.slice v.ai N.ids.length v.ci, .slice v.ac N.costs.length v.cc, .slice v.al N.links.length v.cl]) v16 := range_of_row HB.out rfl
                  refine ⟨_, rfl, RD, ?_⟩
                  clear hres hge hbk
                  (try simp only [Act.put, List.setIfInBounds_toArray, List.set_cons_zero, List.set_cons_succ])
                  have hRD : RO ≠ DO := (Ne.symm hne)
                  refine wpAnyH_ready (rs := [6]) (by kernel_rfl) (by simp) ?_
                  refine ar_cell18 (i := 6) (o := { dst := none, op := Op.store 35 (Operand.tmp 3) (Operand.tmp 9), type := 0, pos := "least.go:116", after := #[{ on := 4, ground := Ground.data }, { on := 1, ground := Ground.data }, { on := 3, ground := Ground.chain }, { on := 0, ground := Ground.phase }, { on := 1, ground := Ground.phase }, { on := 2, ground := Ground.textOnly Departure.lateStores }, { on := 3, ground := Ground.textOnly Departure.lateStoresUnsure }, { on := 4, ground := Ground.phase }, { on := 5, ground := Ground.phase }], guard := none }) rfl (by kernel_rfl) 35 (.tmp 3) (.tmp 9) rfl RO 0 (.slice (some ⟨gr, 0, none⟩) N.ids.length N.ids.length) rfl rfl 35 _ HRO.out (show 0 < 1 from by decide) (by kernel_rfl) rfl ?_
                  intro wa hRa hoa hsa hba
                  have HRa : Hid (RowIs wa RO 35 #[.slice (some ⟨gr, 0, none⟩) N.ids.length N.ids.length]) := hRa
                  have n1 : gr ≠ RO := rowIs_ne Hgr.out HRO.out (by decide)
                  have n2 : gd ≠ RO := rowIs_ne Hgd.out HRO.out (by decide)
                  have n3 : w.heap.size ≠ RO := rowIs_ne HB.out HRO.out (by decide)
                  have n4 : gr ≠ DO := rowIs_ne Hgr.out HDO.out (by decide)
                  have n5 : gd ≠ DO := rowIs_ne Hgd.out HDO.out (by decide)
                  have n6 : w.heap.size ≠ DO := rowIs_ne HB.out HDO.out (by decide)
                  have HB := Lib.hid (rowIs_same HB.out (hoa _ n3))
                  have HDO := Lib.hid (rowIs_same HDO.out (hoa _ (Ne.symm hRD)))
                  have Hgr := Lib.hid (rowIs_same Hgr.out (hoa _ n1))
                  have Hgd := Lib.hid (rowIs_same Hgd.out (hoa _ n2))
                  have hb := hb.trans (hba.mono hglRO)
                  have RD : (fun w' => w'.rangeAt w.heap.size 0 [.slice v.ai N.ids.length v.ci, .slice v.ac N.costs.length v.cc, .slice v.al N.links.length v.cl]) wa := range_of_row HB.out rfl
                  refine ⟨RD, ?_⟩
                  clear hRa hoa hsa hba HRO n1 n2 n3
                  (try simp only [Act.put, List.setIfInBounds_toArray, List.set_cons_zero, List.set_cons_succ])
                  refine wpAnyH_ready (rs := [7]) (by kernel_rfl) (by simp) ?_
                  refine ar_cell18 (i := 7) (o := { dst := none, op := Op.store 35 (Operand.tmp 4) (Operand.tmp 11), type := 0, pos := "least.go:116", after := #[{ on := 5, ground := Ground.data }, { on := 3, ground := Ground.data }, { on := 6, ground := Ground.chain }, { on := 0, ground := Ground.phase }, { on := 1, ground := Ground.phase }, { on := 2, ground := Ground.phase }, { on := 3, ground := Ground.phase }, { on := 4, ground := Ground.phase }, { on := 5, ground := Ground.phase }, { on := 6, ground := Ground.phase }], guard := none } ) rfl (by kernel_rfl) 35 (.tmp 4) (.tmp 11) rfl DO 0 (.slice (some ⟨gd, 0, none⟩) N.ids.length N.ids.length) rfl rfl 35 _ HDO.out (show 0 < 1 from by decide) (by kernel_rfl) rfl ?_
                  intro wb hRb hob hsb hbb
                  have HRb : Hid (RowIs wb DO 35 #[.slice (some ⟨gd, 0, none⟩) N.ids.length N.ids.length]) := hRb
                  have HB := Lib.hid (rowIs_same HB.out (hob _ n6))
                  have HRa := Lib.hid (rowIs_same HRa.out (hob _ hRD))
                  have Hgr := Lib.hid (rowIs_same Hgr.out (hob _ n4))
                  have Hgd := Lib.hid (rowIs_same Hgd.out (hob _ n5))
                  have hb := hb.trans (hbb.mono hglDO)
                  refine ⟨range_of_row HB.out rfl, ?_⟩
                  clear hRb hob hsb hbb HDO n4 n5 n6 RD
                  (try simp only [Act.put, List.setIfInBounds_toArray, List.set_cons_zero, List.set_cons_succ])
                  refine wpAnyH_done (by kernel_rfl) ?_ _
                  go_wp2_with fail
                  go_meet
                  exact ⟨RO, DO, gr, gd, rfl, rfl, ⟨HRL.out ▸ HRa.out, Hgr.out⟩, ⟨HDL.out ▸ HRb.out, Hgd.out⟩, HB.out, hb⟩
    case more1 =>
      refine ar_alloc18 (i := 4) (o := { dst := some 3, op := Op.alloc 35, type := 0, pos := "least.go:116", after := #[], guard := none }) rfl (by kernel_rfl) 35 rfl #[.slice none 0 0] (by kernel_rfl) ?h17 ?more17
      case h17 =>
        have hbk : Below wd.heap.size wd (wd.alloc (.cells #[.slice none 0 0] 35)) := (Below.refl _ _).alloc (Nat.le_refl _) _
        have HRO := Lib.hid (rowIs_new wd 35 #[.slice none 0 0])
        have HB := Lib.hid (HB.out.kept hbk)
        have hglRO : w1.heap.size ≤ wd.heap.size := hb.size
        have hb := hb.trans (hbk.mono hb.size)
        have RD : (fun w' => w'.rangeAt w.heap.size 0 [.slice v.ai N.ids.length v.ci, .slice v.ac N.costs.length v.cc, .slice v.al N.links.length v.cl]) (wd.alloc (.cells #[.slice none 0 0] 35)) := range_of_row HB.out rfl
        refine ⟨RD, ?_⟩
        clear hbk
        generalize wd.alloc (.cells #[.slice none 0 0] 35) = v17 at *
        generalize wd.heap.size = RO at *
        (try simp only [Act.put, List.setIfInBounds_toArray, List.set_cons_zero, List.set_cons_succ])
        refine wpAnyH_ready (rs := [1, 5]) (by kernel_rfl) (by simp) ?_
        refine ar_call18 (i := 1) (o := { dst := some 9, op := Op.call { callee := Callee.value (Operand.func 13), args := #[Operand.tmp 8], argTypes := #[32] }, type := 35, pos := "least.go:116", after := #[{ on := 0, ground := Ground.data }], guard := none }) rfl (by kernel_rfl) (xs := [.tmp 8]) (vs := [.agg #[.slice v.ai N.ids.length v.ci, .slice v.ac N.costs.length v.cc, .slice v.al N.links.length v.cl]]) rfl rfl Try.func13 (by kernel_rfl) (by kernel_rfl) ?h18 ?more18
        case h18 =>
          refine (HRY.out v17 hb).mono ?_
          rintro e v18 ⟨⟨gr, rfl, hres, hge⟩, hbk⟩
          have HRO := Lib.hid (HRO.out.kept hbk)
          have Hgr : Hid (RowIs v18 gr 3 (intsA (natI R))) := hres
          have HB := Lib.hid (HB.out.kept hbk)
          have hglgr : w1.heap.size ≤ gr := Nat.le_trans hb.size hge
          have hb := hb.trans (hbk.mono hb.size)
          have RD : (fun w' => w'.rangeAt w.heap.size 0 [.slice v.ai N.ids.length v.ci, .slice v.ac N.costs.length v.cc, .slice v.al N.links.length v.cl]) v18 := range_of_row HB.out rfl
          refine ⟨_, rfl, RD, ?_⟩
          clear hres hge hbk
          (try simp only [Act.put, List.setIfInBounds_toArray, List.set_cons_zero, List.set_cons_succ])
          refine wpAnyH_ready (rs := [3, 5]) (by kernel_rfl) (by simp) ?_
          refine ar_call18 (i := 3) (o := { dst := some 11, op := Op.call { callee := Callee.value (Operand.func 14), args := #[Operand.tmp 10], argTypes := #[32] }, type := 35, pos := "least.go:116", after := #[{ on := 2, ground := Ground.data }, { on := 1, ground := Ground.chain }], guard := none }) rfl (by kernel_rfl) (xs := [.tmp 10]) (vs := [.agg #[.slice v.ai N.ids.length v.ci, .slice v.ac N.costs.length v.cc, .slice v.al N.links.length v.cl]]) rfl rfl Try.func14 (by kernel_rfl) (by kernel_rfl) ?h19 ?more19
          case h19 =>
            refine (HDY.out v18 hb).mono ?_
            rintro e v19 ⟨⟨gd, rfl, hres, hge⟩, hbk⟩
            have HRO := Lib.hid (HRO.out.kept hbk)
            have Hgr := Lib.hid (Hgr.out.kept hbk)
            have Hgd : Hid (RowIs v19 gd 3 (intsA D)) := hres
            have HB := Lib.hid (HB.out.kept hbk)
            have hglgd : w1.heap.size ≤ gd := Nat.le_trans hb.size hge
            have hb := hb.trans (hbk.mono hb.size)
            have RD : (fun w' => w'.rangeAt w.heap.size 0 [.slice v.ai N.ids.length v.ci, .slice v.ac N.costs.length v.cc, .slice v.al N.links.length v.cl]) v19 := range_of_row HB.out rfl
            refine ⟨_, rfl, RD, ?_⟩
            clear hres hge hbk
            (try simp only [Act.put, List.setIfInBounds_toArray, List.set_cons_zero, List.set_cons_succ])
            refine wpAnyH_ready (rs := [5]) (by kernel_rfl) (by simp) ?_
            refine ar_alloc18 (i := 5) (o := { dst := some 4, op := Op.alloc 35, type := 0, pos := "least.go:116", after := #[], guard := none }) rfl (by kernel_rfl) 35 rfl #[.slice none 0 0] (by kernel_rfl) ?h20 AllReadyH.nil
            case h20 =>
              have hbk : Below v19.heap.size v19 (v19.alloc (.cells #[.slice none 0 0] 35)) := (Below.refl _ _).alloc (Nat.le_refl _) _
              have hne : RO ≠ v19.heap.size := by have := HRO.out.lt; omega
              have HRO := Lib.hid (HRO.out.kept hbk)
              have Hgr := Lib.hid (Hgr.out.kept hbk)
              have Hgd := Lib.hid (Hgd.out.kept hbk)
              have HDO := Lib.hid (rowIs_new v19 35 #[.slice none 0 0])
              have HB := Lib.hid (HB.out.kept hbk)
              have hglDO : w1.heap.size ≤ v19.heap.size := hb.size
              have hb := hb.trans (hbk.mono hb.size)
              have RD : (fun w' => w'.rangeAt w.heap.size 0 [.slice v.ai N.ids.length v.ci, .slice v.ac N.costs.length v.cc, .slice v.al N.links.length v.cl]) (v19.alloc (.cells #[.slice none 0 0] 35)) := range_of_row HB.out rfl
              refine ⟨RD, ?_⟩
              clear hbk
              generalize v19.alloc (.cells #[.slice none 0 0] 35) = v20 at *
              generalize v19.heap.size = DO at *
              (try simp only [Act.put, List.setIfInBounds_toArray, List.set_cons_zero, List.set_cons_succ])
              have hRD : RO ≠ DO := hne
              refine wpAnyH_ready (rs := [6]) (by kernel_rfl) (by simp) ?_
              refine ar_cell18 (i := 6) (o := { dst := none, op := Op.store 35 (Operand.tmp 3) (Operand.tmp 9), type := 0, pos := "least.go:116", after := #[{ on := 4, ground := Ground.data }, { on := 1, ground := Ground.data }, { on := 3, ground := Ground.chain }, { on := 0, ground := Ground.phase }, { on := 1, ground := Ground.phase }, { on := 2, ground := Ground.textOnly Departure.lateStores }, { on := 3, ground := Ground.textOnly Departure.lateStoresUnsure }, { on := 4, ground := Ground.phase }, { on := 5, ground := Ground.phase }], guard := none }) rfl (by kernel_rfl) 35 (.tmp 3) (.tmp 9) rfl RO 0 (.slice (some ⟨gr, 0, none⟩) N.ids.length N.ids.length) rfl rfl 35 _ HRO.out (show 0 < 1 from by decide) (by kernel_rfl) rfl ?_
              intro wa hRa hoa hsa hba
              have HRa : Hid (RowIs wa RO 35 #[.slice (some ⟨gr, 0, none⟩) N.ids.length N.ids.length]) := hRa
              have n1 : gr ≠ RO := rowIs_ne Hgr.out HRO.out (by decide)
              have n2 : gd ≠ RO := rowIs_ne Hgd.out HRO.out (by decide)
              have n3 : w.heap.size ≠ RO := rowIs_ne HB.out HRO.out (by decide)
              have n4 : gr ≠ DO := rowIs_ne Hgr.out HDO.out (by decide)
              have n5 : gd ≠ DO := rowIs_ne Hgd.out HDO.out (by decide)
              have n6 : w.heap.size ≠ DO := rowIs_ne HB.out HDO.out (by decide)
              have HB := Lib.hid (rowIs_same HB.out (hoa _ n3))
              have HDO := Lib.hid (rowIs_same HDO.out (hoa _ (Ne.symm hRD)))
              have Hgr := Lib.hid (rowIs_same Hgr.out (hoa _ n1))
              have Hgd := Lib.hid (rowIs_same Hgd.out (hoa _ n2))
              have hb := hb.trans (hba.mono hglRO)
              have RD : (fun w' => w'.rangeAt w.heap.size 0 [.slice v.ai N.ids.length v.ci, .slice v.ac N.costs.length v.cc, .slice v.al N.links.length v.cl]) wa := range_of_row HB.out rfl
              refine ⟨RD, ?_⟩
              clear hRa hoa hsa hba HRO n1 n2 n3
              (try simp only [Act.put, List.setIfInBounds_toArray, List.set_cons_zero, List.set_cons_succ])
              refine wpAnyH_ready (rs := [7]) (by kernel_rfl) (by simp) ?_
              refine ar_cell18 (i := 7) (o := { dst := none, op := Op.store 35 (Operand.tmp 4) (Operand.tmp 11), type := 0, pos := "least.go:116", after := #[{ on := 5, ground := Ground.data }, { on := 3, ground := Ground.data }, { on := 6, ground := Ground.chain }, { on := 0, ground := Ground.phase }, { on := 1, ground := Ground.phase }, { on := 2, ground := Ground.phase }, { on := 3, ground := Ground.phase }, { on := 4, ground := Ground.phase }, { on := 5, ground := Ground.phase }, { on := 6, ground := Ground.phase }], guard := none } ) rfl (by kernel_rfl) 35 (.tmp 4) (.tmp 11) rfl DO 0 (.slice (some ⟨gd, 0, none⟩) N.ids.length N.ids.length) rfl rfl 35 _ HDO.out (show 0 < 1 from by decide) (by kernel_rfl) rfl ?_
              intro wb hRb hob hsb hbb
              have HRb : Hid (RowIs wb DO 35 #[.slice (some ⟨gd, 0, none⟩) N.ids.length N.ids.length]) := hRb
              have HB := Lib.hid (rowIs_same HB.out (hob _ n6))
              have HRa := Lib.hid (rowIs_same HRa.out (hob _ hRD))
              have Hgr := Lib.hid (rowIs_same Hgr.out (hob _ n4))
              have Hgd := Lib.hid (rowIs_same Hgd.out (hob _ n5))
              have hb := hb.trans (hbb.mono hglDO)
              refine ⟨range_of_row HB.out rfl, ?_⟩
              clear hRb hob hsb hbb HDO n4 n5 n6 RD
              (try simp only [Act.put, List.setIfInBounds_toArray, List.set_cons_zero, List.set_cons_succ])
              refine wpAnyH_done (by kernel_rfl) ?_ _
              go_wp2_with fail
              go_meet
              exact ⟨RO, DO, gr, gd, rfl, rfl, ⟨HRL.out ▸ HRa.out, Hgr.out⟩, ⟨HDL.out ▸ HRb.out, Hgd.out⟩, HB.out, hb⟩
          case more19 =>
            refine ar_alloc18 (i := 5) (o := { dst := some 4, op := Op.alloc 35, type := 0, pos := "least.go:116", after := #[], guard := none }) rfl (by kernel_rfl) 35 rfl #[.slice none 0 0] (by kernel_rfl) ?h21 AllReadyH.nil
            case h21 =>
              have hbk : Below v18.heap.size v18 (v18.alloc (.cells #[.slice none 0 0] 35)) := (Below.refl _ _).alloc (Nat.le_refl _) _
              have hne : RO ≠ v18.heap.size := by have := HRO.out.lt; omega
              have HRO := Lib.hid (HRO.out.kept hbk)
              have Hgr := Lib.hid (Hgr.out.kept hbk)
              have HDO := Lib.hid (rowIs_new v18 35 #[.slice none 0 0])
              have HB := Lib.hid (HB.out.kept hbk)
              have hglDO : w1.heap.size ≤ v18.heap.size := hb.size
              have hb := hb.trans (hbk.mono hb.size)
              have RD : (fun w' => w'.rangeAt w.heap.size 0 [.slice v.ai N.ids.length v.ci, .slice v.ac N.costs.length v.cc, .slice v.al N.links.length v.cl]) (v18.alloc (.cells #[.slice none 0 0] 35)) := range_of_row HB.out rfl
              refine ⟨RD, ?_⟩
              clear hbk
              generalize v18.alloc (.cells #[.slice none 0 0] 35) = v21 at *
              generalize v18.heap.size = DO at *
              (try simp only [Act.put, List.setIfInBounds_toArray, List.set_cons_zero, List.set_cons_succ])
              refine wpAnyH_ready (rs := [3]) (by kernel_rfl) (by simp) ?_
              refine ar_call18 (i := 3) (o := { dst := some 11, op := Op.call { callee := Callee.value (Operand.func 14), args := #[Operand.tmp 10], argTypes := #[32] }, type := 35, pos := "least.go:116", after := #[{ on := 2, ground := Ground.data }, { on := 1, ground := Ground.chain }], guard := none }) rfl (by kernel_rfl) (xs := [.tmp 10]) (vs := [.agg #[.slice v.ai N.ids.length v.ci, .slice v.ac N.costs.length v.cc, .slice v.al N.links.length v.cl]]) rfl rfl Try.func14 (by kernel_rfl) (by kernel_rfl) ?h22 AllReadyH.nil
              case h22 =>
                refine (HDY.out v21 hb).mono ?_
                rintro e v22 ⟨⟨gd, rfl, hres, hge⟩, hbk⟩
                have HRO := Lib.hid (HRO.out.kept hbk)
                have Hgr := Lib.hid (Hgr.out.kept hbk)
                have HDO := Lib.hid (HDO.out.kept hbk)
                have Hgd : Hid (RowIs v22 gd 3 (intsA D)) := hres
                have HB := Lib.hid (HB.out.kept hbk)
                have hglgd : w1.heap.size ≤ gd := Nat.le_trans hb.size hge
                have hb := hb.trans (hbk.mono hb.size)
                have RD : (fun w' => w'.rangeAt w.heap.size 0 [.slice v.ai N.ids.length v.ci, .slice v.ac N.costs.length v.cc, .slice v.al N.links.length v.cl]) v22 := range_of_row HB.out rfl
                refine ⟨_, rfl, RD, ?_⟩
                clear hres hge hbk
                (try simp only [Act.put, List.setIfInBounds_toArray, List.set_cons_zero, List.set_cons_succ])
                have hRD : RO ≠ DO := hne
                refine wpAnyH_ready (rs := [6]) (by kernel_rfl) (by simp) ?_
                refine ar_cell18 (i := 6) (o := { dst := none, op := Op.store 35 (Operand.tmp 3) (Operand.tmp 9), type := 0, pos := "least.go:116", after := #[{ on := 4, ground := Ground.data }, { on := 1, ground := Ground.data }, { on := 3, ground := Ground.chain }, { on := 0, ground := Ground.phase }, { on := 1, ground := Ground.phase }, { on := 2, ground := Ground.textOnly Departure.lateStores }, { on := 3, ground := Ground.textOnly Departure.lateStoresUnsure }, { on := 4, ground := Ground.phase }, { on := 5, ground := Ground.phase }], guard := none }) rfl (by kernel_rfl) 35 (.tmp 3) (.tmp 9) rfl RO 0 (.slice (some ⟨gr, 0, none⟩) N.ids.length N.ids.length) rfl rfl 35 _ HRO.out (show 0 < 1 from by decide) (by kernel_rfl) rfl ?_
                intro wa hRa hoa hsa hba
                have HRa : Hid (RowIs wa RO 35 #[.slice (some ⟨gr, 0, none⟩) N.ids.length N.ids.length]) := hRa
                have n1 : gr ≠ RO := rowIs_ne Hgr.out HRO.out (by decide)
                have n2 : gd ≠ RO := rowIs_ne Hgd.out HRO.out (by decide)
                have n3 : w.heap.size ≠ RO := rowIs_ne HB.out HRO.out (by decide)
                have n4 : gr ≠ DO := rowIs_ne Hgr.out HDO.out (by decide)
                have n5 : gd ≠ DO := rowIs_ne Hgd.out HDO.out (by decide)
                have n6 : w.heap.size ≠ DO := rowIs_ne HB.out HDO.out (by decide)
                have HB := Lib.hid (rowIs_same HB.out (hoa _ n3))
                have HDO := Lib.hid (rowIs_same HDO.out (hoa _ (Ne.symm hRD)))
                have Hgr := Lib.hid (rowIs_same Hgr.out (hoa _ n1))
                have Hgd := Lib.hid (rowIs_same Hgd.out (hoa _ n2))
                have hb := hb.trans (hba.mono hglRO)
                have RD : (fun w' => w'.rangeAt w.heap.size 0 [.slice v.ai N.ids.length v.ci, .slice v.ac N.costs.length v.cc, .slice v.al N.links.length v.cl]) wa := range_of_row HB.out rfl
                refine ⟨RD, ?_⟩
                clear hRa hoa hsa hba HRO n1 n2 n3
                (try simp only [Act.put, List.setIfInBounds_toArray, List.set_cons_zero, List.set_cons_succ])
                refine wpAnyH_ready (rs := [7]) (by kernel_rfl) (by simp) ?_
                refine ar_cell18 (i := 7) (o := { dst := none, op := Op.store 35 (Operand.tmp 4) (Operand.tmp 11), type := 0, pos := "least.go:116", after := #[{ on := 5, ground := Ground.data }, { on := 3, ground := Ground.data }, { on := 6, ground := Ground.chain }, { on := 0, ground := Ground.phase }, { on := 1, ground := Ground.phase }, { on := 2, ground := Ground.phase }, { on := 3, ground := Ground.phase }, { on := 4, ground := Ground.phase }, { on := 5, ground := Ground.phase }, { on := 6, ground := Ground.phase }], guard := none } ) rfl (by kernel_rfl) 35 (.tmp 4) (.tmp 11) rfl DO 0 (.slice (some ⟨gd, 0, none⟩) N.ids.length N.ids.length) rfl rfl 35 _ HDO.out (show 0 < 1 from by decide) (by kernel_rfl) rfl ?_
                intro wb hRb hob hsb hbb
                have HRb : Hid (RowIs wb DO 35 #[.slice (some ⟨gd, 0, none⟩) N.ids.length N.ids.length]) := hRb
                have HB := Lib.hid (rowIs_same HB.out (hob _ n6))
                have HRa := Lib.hid (rowIs_same HRa.out (hob _ hRD))
                have Hgr := Lib.hid (rowIs_same Hgr.out (hob _ n4))
                have Hgd := Lib.hid (rowIs_same Hgd.out (hob _ n5))
                have hb := hb.trans (hbb.mono hglDO)
                refine ⟨range_of_row HB.out rfl, ?_⟩
                clear hRb hob hsb hbb HDO n4 n5 n6 RD
                (try simp only [Act.put, List.setIfInBounds_toArray, List.set_cons_zero, List.set_cons_succ])
                refine wpAnyH_done (by kernel_rfl) ?_ _
                go_wp2_with fail
                go_meet
                exact ⟨RO, DO, gr, gd, rfl, rfl, ⟨HRL.out ▸ HRa.out, Hgr.out⟩, ⟨HDL.out ▸ HRb.out, Hgd.out⟩, HB.out, hb⟩
        case more18 =>
          refine ar_alloc18 (i := 5) (o := { dst := some 4, op := Op.alloc 35, type := 0, pos := "least.go:116", after := #[], guard := none }) rfl (by kernel_rfl) 35 rfl #[.slice none 0 0] (by kernel_rfl) ?h23 AllReadyH.nil
          case h23 =>
            have hbk : Below v17.heap.size v17 (v17.alloc (.cells #[.slice none 0 0] 35)) := (Below.refl _ _).alloc (Nat.le_refl _) _
            have hne : RO ≠ v17.heap.size := by have := HRO.out.lt; omega
            have HRO := Lib.hid (HRO.out.kept hbk)
            have HDO := Lib.hid (rowIs_new v17 35 #[.slice none 0 0])
            have HB := Lib.hid (HB.out.kept hbk)
            have hglDO : w1.heap.size ≤ v17.heap.size := hb.size
            have hb := hb.trans (hbk.mono hb.size)
            have RD : (fun w' => w'.rangeAt w.heap.size 0 [.slice v.ai N.ids.length v.ci, .slice v.ac N.costs.length v.cc, .slice v.al N.links.length v.cl]) (v17.alloc (.cells #[.slice none 0 0] 35)) := range_of_row HB.out rfl
            refine ⟨RD, ?_⟩
            clear hbk
            generalize v17.alloc (.cells #[.slice none 0 0] 35) = v23 at *
            generalize v17.heap.size = DO at *
            (try simp only [Act.put, List.setIfInBounds_toArray, List.set_cons_zero, List.set_cons_succ])
            refine wpAnyH_ready (rs := [1]) (by kernel_rfl) (by simp) ?_
            refine ar_call18 (i := 1) (o := { dst := some 9, op := Op.call { callee := Callee.value (Operand.func 13), args := #[Operand.tmp 8], argTypes := #[32] }, type := 35, pos := "least.go:116", after := #[{ on := 0, ground := Ground.data }], guard := none }) rfl (by kernel_rfl) (xs := [.tmp 8]) (vs := [.agg #[.slice v.ai N.ids.length v.ci, .slice v.ac N.costs.length v.cc, .slice v.al N.links.length v.cl]]) rfl rfl Try.func13 (by kernel_rfl) (by kernel_rfl) ?h24 AllReadyH.nil
            case h24 =>
              refine (HRY.out v23 hb).mono ?_
              rintro e v24 ⟨⟨gr, rfl, hres, hge⟩, hbk⟩
              have HRO := Lib.hid (HRO.out.kept hbk)
              have HDO := Lib.hid (HDO.out.kept hbk)
              have Hgr : Hid (RowIs v24 gr 3 (intsA (natI R))) := hres
              have HB := Lib.hid (HB.out.kept hbk)
              have hglgr : w1.heap.size ≤ gr := Nat.le_trans hb.size hge
              have hb := hb.trans (hbk.mono hb.size)
              have RD : (fun w' => w'.rangeAt w.heap.size 0 [.slice v.ai N.ids.length v.ci, .slice v.ac N.costs.length v.cc, .slice v.al N.links.length v.cl]) v24 := range_of_row HB.out rfl
              refine ⟨_, rfl, RD, ?_⟩
              clear hres hge hbk
              (try simp only [Act.put, List.setIfInBounds_toArray, List.set_cons_zero, List.set_cons_succ])
              refine wpAnyH_ready (rs := [3]) (by kernel_rfl) (by simp) ?_
              refine ar_call18 (i := 3) (o := { dst := some 11, op := Op.call { callee := Callee.value (Operand.func 14), args := #[Operand.tmp 10], argTypes := #[32] }, type := 35, pos := "least.go:116", after := #[{ on := 2, ground := Ground.data }, { on := 1, ground := Ground.chain }], guard := none }) rfl (by kernel_rfl) (xs := [.tmp 10]) (vs := [.agg #[.slice v.ai N.ids.length v.ci, .slice v.ac N.costs.length v.cc, .slice v.al N.links.length v.cl]]) rfl rfl Try.func14 (by kernel_rfl) (by kernel_rfl) ?h25 AllReadyH.nil
              case h25 =>
                refine (HDY.out v24 hb).mono ?_
                rintro e v25 ⟨⟨gd, rfl, hres, hge⟩, hbk⟩
                have HRO := Lib.hid (HRO.out.kept hbk)
                have HDO := Lib.hid (HDO.out.kept hbk)
                have Hgr := Lib.hid (Hgr.out.kept hbk)
                have Hgd : Hid (RowIs v25 gd 3 (intsA D)) := hres
                have HB := Lib.hid (HB.out.kept hbk)
                have hglgd : w1.heap.size ≤ gd := Nat.le_trans hb.size hge
                have hb := hb.trans (hbk.mono hb.size)
                have RD : (fun w' => w'.rangeAt w.heap.size 0 [.slice v.ai N.ids.length v.ci, .slice v.ac N.costs.length v.cc, .slice v.al N.links.length v.cl]) v25 := range_of_row HB.out rfl
                refine ⟨_, rfl, RD, ?_⟩
                clear hres hge hbk
                (try simp only [Act.put, List.setIfInBounds_toArray, List.set_cons_zero, List.set_cons_succ])
                have hRD : RO ≠ DO := hne
                refine wpAnyH_ready (rs := [6]) (by kernel_rfl) (by simp) ?_
                refine ar_cell18 (i := 6) (o := { dst := none, op := Op.store 35 (Operand.tmp 3) (Operand.tmp 9), type := 0, pos := "least.go:116", after := #[{ on := 4, ground := Ground.data }, { on := 1, ground := Ground.data }, { on := 3, ground := Ground.chain }, { on := 0, ground := Ground.phase }, { on := 1, ground := Ground.phase }, { on := 2, ground := Ground.textOnly Departure.lateStores }, { on := 3, ground := Ground.textOnly Departure.lateStoresUnsure }, { on := 4, ground := Ground.phase }, { on := 5, ground := Ground.phase }], guard := none }) rfl (by kernel_rfl) 35 (.tmp 3) (.tmp 9) rfl RO 0 (.slice (some ⟨gr, 0, none⟩) N.ids.length N.ids.length) rfl rfl 35 _ HRO.out (show 0 < 1 from by decide) (by kernel_rfl) rfl ?_
                intro wa hRa hoa hsa hba
                have HRa : Hid (RowIs wa RO 35 #[.slice (some ⟨gr, 0, none⟩) N.ids.length N.ids.length]) := hRa
                have n1 : gr ≠ RO := rowIs_ne Hgr.out HRO.out (by decide)
                have n2 : gd ≠ RO := rowIs_ne Hgd.out HRO.out (by decide)
                have n3 : w.heap.size ≠ RO := rowIs_ne HB.out HRO.out (by decide)
                have n4 : gr ≠ DO := rowIs_ne Hgr.out HDO.out (by decide)
                have n5 : gd ≠ DO := rowIs_ne Hgd.out HDO.out (by decide)
                have n6 : w.heap.size ≠ DO := rowIs_ne HB.out HDO.out (by decide)
                have HB := Lib.hid (rowIs_same HB.out (hoa _ n3))
                have HDO := Lib.hid (rowIs_same HDO.out (hoa _ (Ne.symm hRD)))
                have Hgr := Lib.hid (rowIs_same Hgr.out (hoa _ n1))
                have Hgd := Lib.hid (rowIs_same Hgd.out (hoa _ n2))
                have hb := hb.trans (hba.mono hglRO)
                have RD : (fun w' => w'.rangeAt w.heap.size 0 [.slice v.ai N.ids.length v.ci, .slice v.ac N.costs.length v.cc, .slice v.al N.links.length v.cl]) wa := range_of_row HB.out rfl
                refine ⟨RD, ?_⟩
                clear hRa hoa hsa hba HRO n1 n2 n3
                (try simp only [Act.put, List.setIfInBounds_toArray, List.set_cons_zero, List.set_cons_succ])
                refine wpAnyH_ready (rs := [7]) (by kernel_rfl) (by simp) ?_
                refine ar_cell18 (i := 7) (o := { dst := none, op := Op.store 35 (Operand.tmp 4) (Operand.tmp 11), type := 0, pos := "least.go:116", after := #[{ on := 5, ground := Ground.data }, { on := 3, ground := Ground.data }, { on := 6, ground := Ground.chain }, { on := 0, ground := Ground.phase }, { on := 1, ground := Ground.phase }, { on := 2, ground := Ground.phase }, { on := 3, ground := Ground.phase }, { on := 4, ground := Ground.phase }, { on := 5, ground := Ground.phase }, { on := 6, ground := Ground.phase }], guard := none } ) rfl (by kernel_rfl) 35 (.tmp 4) (.tmp 11) rfl DO 0 (.slice (some ⟨gd, 0, none⟩) N.ids.length N.ids.length) rfl rfl 35 _ HDO.out (show 0 < 1 from by decide) (by kernel_rfl) rfl ?_
                intro wb hRb hob hsb hbb
                have HRb : Hid (RowIs wb DO 35 #[.slice (some ⟨gd, 0, none⟩) N.ids.length N.ids.length]) := hRb
                have HB := Lib.hid (rowIs_same HB.out (hob _ n6))
                have HRa := Lib.hid (rowIs_same HRa.out (hob _ hRD))
                have Hgr := Lib.hid (rowIs_same Hgr.out (hob _ n4))
                have Hgd := Lib.hid (rowIs_same Hgd.out (hob _ n5))
                have hb := hb.trans (hbb.mono hglDO)
                refine ⟨range_of_row HB.out rfl, ?_⟩
                clear hRb hob hsb hbb HDO n4 n5 n6 RD
                (try simp only [Act.put, List.setIfInBounds_toArray, List.set_cons_zero, List.set_cons_succ])
                refine wpAnyH_done (by kernel_rfl) ?_ _
                go_wp2_with fail
                go_meet
                exact ⟨RO, DO, gr, gd, rfl, rfl, ⟨HRL.out ▸ HRa.out, Hgr.out⟩, ⟨HDL.out ▸ HRb.out, Hgd.out⟩, HB.out, hb⟩
      case more17 =>
        refine ar_alloc18 (i := 5) (o := { dst := some 4, op := Op.alloc 35, type := 0, pos := "least.go:116", after := #[], guard := none }) rfl (by kernel_rfl) 35 rfl #[.slice none 0 0] (by kernel_rfl) ?h26 AllReadyH.nil
        case h26 =>
          have hbk : Below wd.heap.size wd (wd.alloc (.cells #[.slice none 0 0] 35)) := (Below.refl _ _).alloc (Nat.le_refl _) _
          have HDO := Lib.hid (rowIs_new wd 35 #[.slice none 0 0])
          have HB := Lib.hid (HB.out.kept hbk)
          have hglDO : w1.heap.size ≤ wd.heap.size := hb.size
          have hb := hb.trans (hbk.mono hb.size)
          have RD : (fun w' => w'.rangeAt w.heap.size 0 [.slice v.ai N.ids.length v.ci, .slice v.ac N.costs.length v.cc, .slice v.al N.links.length v.cl]) (wd.alloc (.cells #[.slice none 0 0] 35)) := range_of_row HB.out rfl
          refine ⟨RD, ?_⟩
          clear hbk
          generalize wd.alloc (.cells #[.slice none 0 0] 35) = v26 at *
          generalize wd.heap.size = DO at *
          (try simp only [Act.put, List.setIfInBounds_toArray, List.set_cons_zero, List.set_cons_succ])
          refine wpAnyH_ready (rs := [1, 4]) (by kernel_rfl) (by simp) ?_
          refine ar_call18 (i := 1) (o := { dst := some 9, op := Op.call { callee := Callee.value (Operand.func 13), args := #[Operand.tmp 8], argTypes := #[32] }, type := 35, pos := "least.go:116", after := #[{ on := 0, ground := Ground.data }], guard := none }) rfl (by kernel_rfl) (xs := [.tmp 8]) (vs := [.agg #[.slice v.ai N.ids.length v.ci, .slice v.ac N.costs.length v.cc, .slice v.al N.links.length v.cl]]) rfl rfl Try.func13 (by kernel_rfl) (by kernel_rfl) ?h27 ?more27
          case h27 =>
            refine (HRY.out v26 hb).mono ?_
            rintro e v27 ⟨⟨gr, rfl, hres, hge⟩, hbk⟩
            have HDO := Lib.hid (HDO.out.kept hbk)
            have Hgr : Hid (RowIs v27 gr 3 (intsA (natI R))) := hres
            have HB := Lib.hid (HB.out.kept hbk)
            have hglgr : w1.heap.size ≤ gr := Nat.le_trans hb.size hge
            have hb := hb.trans (hbk.mono hb.size)
            have RD : (fun w' => w'.rangeAt w.heap.size 0 [.slice v.ai N.ids.length v.ci, .slice v.ac N.costs.length v.cc, .slice v.al N.links.length v.cl]) v27 := range_of_row HB.out rfl
            refine ⟨_, rfl, RD, ?_⟩
            clear hres hge hbk
            (try simp only [Act.put, List.setIfInBounds_toArray, List.set_cons_zero, List.set_cons_succ])
            refine wpAnyH_ready (rs := [3, 4]) (by kernel_rfl) (by simp) ?_
            refine ar_call18 (i := 3) (o := { dst := some 11, op := Op.call { callee := Callee.value (Operand.func 14), args := #[Operand.tmp 10], argTypes := #[32] }, type := 35, pos := "least.go:116", after := #[{ on := 2, ground := Ground.data }, { on := 1, ground := Ground.chain }], guard := none }) rfl (by kernel_rfl) (xs := [.tmp 10]) (vs := [.agg #[.slice v.ai N.ids.length v.ci, .slice v.ac N.costs.length v.cc, .slice v.al N.links.length v.cl]]) rfl rfl Try.func14 (by kernel_rfl) (by kernel_rfl) ?h28 ?more28
            case h28 =>
              refine (HDY.out v27 hb).mono ?_
              rintro e v28 ⟨⟨gd, rfl, hres, hge⟩, hbk⟩
              have HDO := Lib.hid (HDO.out.kept hbk)
              have Hgr := Lib.hid (Hgr.out.kept hbk)
              have Hgd : Hid (RowIs v28 gd 3 (intsA D)) := hres
              have HB := Lib.hid (HB.out.kept hbk)
              have hglgd : w1.heap.size ≤ gd := Nat.le_trans hb.size hge
              have hb := hb.trans (hbk.mono hb.size)
              have RD : (fun w' => w'.rangeAt w.heap.size 0 [.slice v.ai N.ids.length v.ci, .slice v.ac N.costs.length v.cc, .slice v.al N.links.length v.cl]) v28 := range_of_row HB.out rfl
              refine ⟨_, rfl, RD, ?_⟩
              clear hres hge hbk
              (try simp only [Act.put, List.setIfInBounds_toArray, List.set_cons_zero, List.set_cons_succ])
              refine wpAnyH_ready (rs := [4]) (by kernel_rfl) (by simp) ?_
              refine ar_alloc18 (i := 4) (o := { dst := some 3, op := Op.alloc 35, type := 0, pos := "least.go:116", after := #[], guard := none }) rfl (by kernel_rfl) 35 rfl #[.slice none 0 0] (by kernel_rfl) ?h29 AllReadyH.nil
              case h29 =>
                have hbk : Below v28.heap.size v28 (v28.alloc (.cells #[.slice none 0 0] 35)) := (Below.refl _ _).alloc (Nat.le_refl _) _
                have hne : DO ≠ v28.heap.size := by have := HDO.out.lt; omega
                have HDO := Lib.hid (HDO.out.kept hbk)
                have Hgr := Lib.hid (Hgr.out.kept hbk)
                have Hgd := Lib.hid (Hgd.out.kept hbk)
                have HRO := Lib.hid (rowIs_new v28 35 #[.slice none 0 0])
                have HB := Lib.hid (HB.out.kept hbk)
                have hglRO : w1.heap.size ≤ v28.heap.size := hb.size
                have hb := hb.trans (hbk.mono hb.size)
                have RD : (fun w' => w'.rangeAt w.heap.size 0 [.slice v.ai N.ids.length v.ci, .slice v.ac N.costs.length v.cc, .slice v.al N.links.length v.cl]) (v28.alloc (.cells #[.slice none 0 0] 35)) := range_of_row HB.out rfl
                refine ⟨RD, ?_⟩
                clear hbk
                generalize v28.alloc (.cells #[.slice none 0 0] 35) = v29 at *
                generalize v28.heap.size = RO at *
                (try simp only [Act.put, List.setIfInBounds_toArray, List.set_cons_zero, List.set_cons_succ])
                have hRD : RO ≠ DO := (Ne.symm hne)
                refine wpAnyH_ready (rs := [6]) (by kernel_rfl) (by simp) ?_
                refine ar_cell18 (i := 6) (o := { dst := none, op := Op.store 35 (Operand.tmp 3) (Operand.tmp 9), type := 0, pos := "least.go:116", after := #[{ on := 4, ground := Ground.data }, { on := 1, ground := Ground.data }, { on := 3, ground := Ground.chain }, { on := 0, ground := Ground.phase }, { on := 1, ground := Ground.phase }, { on := 2, ground := Ground.textOnly Departure.lateStores }, { on := 3, ground := Ground.textOnly Departure.lateStoresUnsure }, { on := 4, ground := Ground.phase }, { on := 5, ground := Ground.phase }], guard := none }) rfl (by kernel_rfl) 35 (.tmp 3) (.tmp 9) rfl RO 0 (.slice (some ⟨gr, 0, none⟩) N.ids.length N.ids.length) rfl rfl 35 _ HRO.out (show 0 < 1 from by decide) (by kernel_rfl) rfl ?_
                intro wa hRa hoa hsa hba
                have HRa : Hid (RowIs wa RO 35 #[.slice (some ⟨gr, 0, none⟩) N.ids.length N.ids.length]) := hRa
                have n1 : gr ≠ RO := rowIs_ne Hgr.out HRO.out (by decide)
                have n2 : gd ≠ RO := rowIs_ne Hgd.out HRO.out (by decide)
                have n3 : w.heap.size ≠ RO := rowIs_ne HB.out HRO.out (by decide)
                have n4 : gr ≠ DO := rowIs_ne Hgr.out HDO.out (by decide)
                have n5 : gd ≠ DO := rowIs_ne Hgd.out HDO.out (by decide)
                have n6 : w.heap.size ≠ DO := rowIs_ne HB.out HDO.out (by decide)
                have HB := Lib.hid (rowIs_same HB.out (hoa _ n3))
                have HDO := Lib.hid (rowIs_same HDO.out (hoa _ (Ne.symm hRD)))
                have Hgr := Lib.hid (rowIs_same Hgr.out (hoa _ n1))
                have Hgd := Lib.hid (rowIs_same Hgd.out (hoa _ n2))
                have hb := hb.trans (hba.mono hglRO)
                have RD : (fun w' => w'.rangeAt w.heap.size 0 [.slice v.ai N.ids.length v.ci, .slice v.ac N.costs.length v.cc, .slice v.al N.links.length v.cl]) wa := range_of_row HB.out rfl
                refine ⟨RD, ?_⟩
                clear hRa hoa hsa hba HRO n1 n2 n3
                (try simp only [Act.put, List.setIfInBounds_toArray, List.set_cons_zero, List.set_cons_succ])
                refine wpAnyH_ready (rs := [7]) (by kernel_rfl) (by simp) ?_
                refine ar_cell18 (i := 7) (o := { dst := none, op := Op.store 35 (Operand.tmp 4) (Operand.tmp 11), type := 0, pos := "least.go:116", after := #[{ on := 5, ground := Ground.data }, { on := 3, ground := Ground.data }, { on := 6, ground := Ground.chain }, { on := 0, ground := Ground.phase }, { on := 1, ground := Ground.phase }, { on := 2, ground := Ground.phase }, { on := 3, ground := Ground.phase }, { on := 4, ground := Ground.phase }, { on := 5, ground := Ground.phase }, { on := 6, ground := Ground.phase }], guard := none } ) rfl (by kernel_rfl) 35 (.tmp 4) (.tmp 11) rfl DO 0 (.slice (some ⟨gd, 0, none⟩) N.ids.length N.ids.length) rfl rfl 35 _ HDO.out (show 0 < 1 from by decide) (by kernel_rfl) rfl ?_
                intro wb hRb hob hsb hbb
                have HRb : Hid (RowIs wb DO 35 #[.slice (some ⟨gd, 0, none⟩) N.ids.length N.ids.length]) := hRb
                have HB := Lib.hid (rowIs_same HB.out (hob _ n6))
                have HRa := Lib.hid (rowIs_same HRa.out (hob _ hRD))
                have Hgr := Lib.hid (rowIs_same Hgr.out (hob _ n4))
                have Hgd := Lib.hid (rowIs_same Hgd.out (hob _ n5))
                have hb := hb.trans (hbb.mono hglDO)
                refine ⟨range_of_row HB.out rfl, ?_⟩
                clear hRb hob hsb hbb HDO n4 n5 n6 RD
                (try simp only [Act.put, List.setIfInBounds_toArray, List.set_cons_zero, List.set_cons_succ])
                refine wpAnyH_done (by kernel_rfl) ?_ _
                go_wp2_with fail
                go_meet
                exact ⟨RO, DO, gr, gd, rfl, rfl, ⟨HRL.out ▸ HRa.out, Hgr.out⟩, ⟨HDL.out ▸ HRb.out, Hgd.out⟩, HB.out, hb⟩
            case more28 =>
              refine ar_alloc18 (i := 4) (o := { dst := some 3, op := Op.alloc 35, type := 0, pos := "least.go:116", after := #[], guard := none }) rfl (by kernel_rfl) 35 rfl #[.slice none 0 0] (by kernel_rfl) ?h30 AllReadyH.nil
              case h30 =>
                have hbk : Below v27.heap.size v27 (v27.alloc (.cells #[.slice none 0 0] 35)) := (Below.refl _ _).alloc (Nat.le_refl _) _
                have hne : DO ≠ v27.heap.size := by have := HDO.out.lt; omega
                have HDO := Lib.hid (HDO.out.kept hbk)
                have Hgr := Lib.hid (Hgr.out.kept hbk)
                have HRO := Lib.hid (rowIs_new v27 35 #[.slice none 0 0])
                have HB := Lib.hid (HB.out.kept hbk)
                have hglRO : w1.heap.size ≤ v27.heap.size := hb.size
                have hb := hb.trans (hbk.mono hb.size)
                have RD : (fun w' => w'.rangeAt w.heap.size 0 [.slice v.ai N.ids.length v.ci, .slice v.ac N.costs.length v.cc, .slice v.al N.links.length v.cl]) (v27.alloc (.cells #[.slice none 0 0] 35)) := range_of_row HB.out rfl
                refine ⟨RD, ?_⟩
                clear hbk
                generalize v27.alloc (.cells #[.slice none 0 0] 35) = v30 at *
                generalize v27.heap.size = RO at *
                (try simp only [Act.put, List.setIfInBounds_toArray, List.set_cons_zero, List.set_cons_succ])
                refine wpAnyH_ready (rs := [3]) (by kernel_rfl) (by simp) ?_
                refine ar_call18 (i := 3) (o := { dst := some 11, op := Op.call { callee := Callee.value (Operand.func 14), args := #[Operand.tmp 10], argTypes := #[32] }, type := 35, pos := "least.go:116", after := #[{ on := 2, ground := Ground.data }, { on := 1, ground := Ground.chain }], guard := none }) rfl (by kernel_rfl) (xs := [.tmp 10]) (vs := [.agg #[.slice v.ai N.ids.length v.ci, .slice v.ac N.costs.length v.cc, .slice v.al N.links.length v.cl]]) rfl rfl Try.func14 (by kernel_rfl) (by kernel_rfl) ?h31 AllReadyH.nil
                case h31 =>
                  refine (HDY.out v30 hb).mono ?_
                  rintro e v31 ⟨⟨gd, rfl, hres, hge⟩, hbk⟩
                  have HDO := Lib.hid (HDO.out.kept hbk)
                  have Hgr := Lib.hid (Hgr.out.kept hbk)
                  have HRO := Lib.hid (HRO.out.kept hbk)
                  have Hgd : Hid (RowIs v31 gd 3 (intsA D)) := hres
                  have HB := Lib.hid (HB.out.kept hbk)
                  have hglgd : w1.heap.size ≤ gd := Nat.le_trans hb.size hge
                  have hb := hb.trans (hbk.mono hb.size)
                  have RD : (fun w' => w'.rangeAt w.heap.size 0 [.slice v.ai N.ids.length v.ci, .slice v.ac N.costs.length v.cc, .slice v.al N.links.length v.cl]) v31 := range_of_row HB.out rfl
                  refine ⟨_, rfl, RD, ?_⟩
                  clear hres hge hbk
                  (try simp only [Act.put, List.setIfInBounds_toArray, List.set_cons_zero, List.set_cons_succ])
                  have hRD : RO ≠ DO := (Ne.symm hne)
                  refine wpAnyH_ready (rs := [6]) (by kernel_rfl) (by simp) ?_
                  refine ar_cell18 (i := 6) (o := { dst := none, op := Op.store 35 (Operand.tmp 3) (Operand.tmp 9), type := 0, pos := "least.go:116", after := #[{ on := 4, ground := Ground.data }, { on := 1, ground := Ground.data }, { on := 3, ground := Ground.chain }, { on := 0, ground := Ground.phase }, { on := 1, ground := Ground.phase }, { on := 2, ground := Ground.textOnly Departure.lateStores }, { on := 3, ground := Ground.textOnly Departure.lateStoresUnsure }, { on := 4, ground := Ground.phase }, { on := 5, ground := Ground.phase }], guard := none }) rfl (by kernel_rfl) 35 (.tmp 3) (.tmp 9) rfl RO 0 (.slice (some ⟨gr, 0, none⟩) N.ids.length N.ids.length) rfl rfl 35 _ HRO.out (show 0 < 1 from by decide) (by kernel_rfl) rfl ?_
                  intro wa hRa hoa hsa hba
                  have HRa : Hid (RowIs wa RO 35 #[.slice (some ⟨gr, 0, none⟩) N.ids.length N.ids.length]) := hRa
                  have n1 : gr ≠ RO := rowIs_ne Hgr.out HRO.out (by decide)
                  have n2 : gd ≠ RO := rowIs_ne Hgd.out HRO.out (by decide)
                  have n3 : w.heap.size ≠ RO := rowIs_ne HB.out HRO.out (by decide)
                  have n4 : gr ≠ DO := rowIs_ne Hgr.out HDO.out (by decide)
                  have n5 : gd ≠ DO := rowIs_ne Hgd.out HDO.out (by decide)
                  have n6 : w.heap.size ≠ DO := rowIs_ne HB.out HDO.out (by decide)
                  have HB := Lib.hid (rowIs_same HB.out (hoa _ n3))
                  have HDO := Lib.hid (rowIs_same HDO.out (hoa _ (Ne.symm hRD)))
                  have Hgr := Lib.hid (rowIs_same Hgr.out (hoa _ n1))
                  have Hgd := Lib.hid (rowIs_same Hgd.out (hoa _ n2))
                  have hb := hb.trans (hba.mono hglRO)
                  have RD : (fun w' => w'.rangeAt w.heap.size 0 [.slice v.ai N.ids.length v.ci, .slice v.ac N.costs.length v.cc, .slice v.al N.links.length v.cl]) wa := range_of_row HB.out rfl
                  refine ⟨RD, ?_⟩
                  clear hRa hoa hsa hba HRO n1 n2 n3
                  (try simp only [Act.put, List.setIfInBounds_toArray, List.set_cons_zero, List.set_cons_succ])
                  refine wpAnyH_ready (rs := [7]) (by kernel_rfl) (by simp) ?_
                  refine ar_cell18 (i := 7) (o := { dst := none, op := Op.store 35 (Operand.tmp 4) (Operand.tmp 11), type := 0, pos := "least.go:116", after := #[{ on := 5, ground := Ground.data }, { on := 3, ground := Ground.data }, { on := 6, ground := Ground.chain }, { on := 0, ground := Ground.phase }, { on := 1, ground := Ground.phase }, { on := 2, ground := Ground.phase }, { on := 3, ground := Ground.phase }, { on := 4, ground := Ground.phase }, { on := 5, ground := Ground.phase }, { on := 6, ground := Ground.phase }], guard := none } ) rfl (by kernel_rfl) 35 (.tmp 4) (.tmp 11) rfl DO 0 (.slice (some ⟨gd, 0, none⟩) N.ids.length N.ids.length) rfl rfl 35 _ HDO.out (show 0 < 1 from by decide) (by kernel_rfl) rfl ?_
                  intro wb hRb hob hsb hbb
                  have HRb : Hid (RowIs wb DO 35 #[.slice (some ⟨gd, 0, none⟩) N.ids.length N.ids.length]) := hRb
                  have HB := Lib.hid (rowIs_same HB.out (hob _ n6))
                  have HRa := Lib.hid (rowIs_same HRa.out (hob _ hRD))
                  have Hgr := Lib.hid (rowIs_same Hgr.out (hob _ n4))
                  have Hgd := Lib.hid (rowIs_same Hgd.out (hob _ n5))
                  have hb := hb.trans (hbb.mono hglDO)
                  refine ⟨range_of_row HB.out rfl, ?_⟩
                  clear hRb hob hsb hbb HDO n4 n5 n6 RD
                  (try simp only [Act.put, List.setIfInBounds_toArray, List.set_cons_zero, List.set_cons_succ])
                  refine wpAnyH_done (by kernel_rfl) ?_ _
                  go_wp2_with fail
                  go_meet
                  exact ⟨RO, DO, gr, gd, rfl, rfl, ⟨HRL.out ▸ HRa.out, Hgr.out⟩, ⟨HDL.out ▸ HRb.out, Hgd.out⟩, HB.out, hb⟩
          case more27 =>
            refine ar_alloc18 (i := 4) (o := { dst := some 3, op := Op.alloc 35, type := 0, pos := "least.go:116", after := #[], guard := none }) rfl (by kernel_rfl) 35 rfl #[.slice none 0 0] (by kernel_rfl) ?h32 AllReadyH.nil
            case h32 =>
              have hbk : Below v26.heap.size v26 (v26.alloc (.cells #[.slice none 0 0] 35)) := (Below.refl _ _).alloc (Nat.le_refl _) _
              have hne : DO ≠ v26.heap.size := by have := HDO.out.lt; omega
              have HDO := Lib.hid (HDO.out.kept hbk)
              have HRO := Lib.hid (rowIs_new v26 35 #[.slice none 0 0])
              have HB := Lib.hid (HB.out.kept hbk)
              have hglRO : w1.heap.size ≤ v26.heap.size := hb.size
              have hb := hb.trans (hbk.mono hb.size)
              have RD : (fun w' => w'.rangeAt w.heap.size 0 [.slice v.ai N.ids.length v.ci, .slice v.ac N.costs.length v.cc, .slice v.al N.links.length v.cl]) (v26.alloc (.cells #[.slice none 0 0] 35)) := range_of_row HB.out rfl
              refine ⟨RD, ?_⟩
              clear hbk
              generalize v26.alloc (.cells #[.slice none 0 0] 35) = v32 at *
              generalize v26.heap.size = RO at *
              (try simp only [Act.put, List.setIfInBounds_toArray, List.set_cons_zero, List.set_cons_succ])
              refine wpAnyH_ready (rs := [1]) (by kernel_rfl) (by simp) ?_
              refine ar_call18 (i := 1) (o := { dst := some 9, op := Op.call { callee := Callee.value (Operand.func 13), args := #[Operand.tmp 8], argTypes := #[32] }, type := 35, pos := "least.go:116", after := #[{ on := 0, ground := Ground.data }], guard := none }) rfl (by kernel_rfl) (xs := [.tmp 8]) (vs := [.agg #[.slice v.ai N.ids.length v.ci, .slice v.ac N.costs.length v.cc, .slice v.al N.links.length v.cl]]) rfl rfl Try.func13 (by kernel_rfl) (by kernel_rfl) ?h33 AllReadyH.nil
              case h33 =>
                refine (HRY.out v32 hb).mono ?_
                rintro e v33 ⟨⟨gr, rfl, hres, hge⟩, hbk⟩
                have HDO := Lib.hid (HDO.out.kept hbk)
                have HRO := Lib.hid (HRO.out.kept hbk)
                have Hgr : Hid (RowIs v33 gr 3 (intsA (natI R))) := hres
                have HB := Lib.hid (HB.out.kept hbk)
                have hglgr : w1.heap.size ≤ gr := Nat.le_trans hb.size hge
                have hb := hb.trans (hbk.mono hb.size)
                have RD : (fun w' => w'.rangeAt w.heap.size 0 [.slice v.ai N.ids.length v.ci, .slice v.ac N.costs.length v.cc, .slice v.al N.links.length v.cl]) v33 := range_of_row HB.out rfl
                refine ⟨_, rfl, RD, ?_⟩
                clear hres hge hbk
                (try simp only [Act.put, List.setIfInBounds_toArray, List.set_cons_zero, List.set_cons_succ])
                refine wpAnyH_ready (rs := [3]) (by kernel_rfl) (by simp) ?_
                refine ar_call18 (i := 3) (o := { dst := some 11, op := Op.call { callee := Callee.value (Operand.func 14), args := #[Operand.tmp 10], argTypes := #[32] }, type := 35, pos := "least.go:116", after := #[{ on := 2, ground := Ground.data }, { on := 1, ground := Ground.chain }], guard := none }) rfl (by kernel_rfl) (xs := [.tmp 10]) (vs := [.agg #[.slice v.ai N.ids.length v.ci, .slice v.ac N.costs.length v.cc, .slice v.al N.links.length v.cl]]) rfl rfl Try.func14 (by kernel_rfl) (by kernel_rfl) ?h34 AllReadyH.nil
                case h34 =>
                  refine (HDY.out v33 hb).mono ?_
                  rintro e v34 ⟨⟨gd, rfl, hres, hge⟩, hbk⟩
                  have HDO := Lib.hid (HDO.out.kept hbk)
                  have HRO := Lib.hid (HRO.out.kept hbk)
                  have Hgr := Lib.hid (Hgr.out.kept hbk)
                  have Hgd : Hid (RowIs v34 gd 3 (intsA D)) := hres
                  have HB := Lib.hid (HB.out.kept hbk)
                  have hglgd : w1.heap.size ≤ gd := Nat.le_trans hb.size hge
                  have hb := hb.trans (hbk.mono hb.size)
                  have RD : (fun w' => w'.rangeAt w.heap.size 0 [.slice v.ai N.ids.length v.ci, .slice v.ac N.costs.length v.cc, .slice v.al N.links.length v.cl]) v34 := range_of_row HB.out rfl
                  refine ⟨_, rfl, RD, ?_⟩
                  clear hres hge hbk
                  (try simp only [Act.put, List.setIfInBounds_toArray, List.set_cons_zero, List.set_cons_succ])
                  have hRD : RO ≠ DO := (Ne.symm hne)
                  refine wpAnyH_ready (rs := [6]) (by kernel_rfl) (by simp) ?_
                  refine ar_cell18 (i := 6) (o := { dst := none, op := Op.store 35 (Operand.tmp 3) (Operand.tmp 9), type := 0, pos := "least.go:116", after := #[{ on := 4, ground := Ground.data }, { on := 1, ground := Ground.data }, { on := 3, ground := Ground.chain }, { on := 0, ground := Ground.phase }, { on := 1, ground := Ground.phase }, { on := 2, ground := Ground.textOnly Departure.lateStores }, { on := 3, ground := Ground.textOnly Departure.lateStoresUnsure }, { on := 4, ground := Ground.phase }, { on := 5, ground := Ground.phase }], guard := none }) rfl (by kernel_rfl) 35 (.tmp 3) (.tmp 9) rfl RO 0 (.slice (some ⟨gr, 0, none⟩) N.ids.length N.ids.length) rfl rfl 35 _ HRO.out (show 0 < 1 from by decide) (by kernel_rfl) rfl ?_
                  intro wa hRa hoa hsa hba
                  have HRa : Hid (RowIs wa RO 35 #[.slice (some ⟨gr, 0, none⟩) N.ids.length N.ids.length]) := hRa
                  have n1 : gr ≠ RO := rowIs_ne Hgr.out HRO.out (by decide)
                  have n2 : gd ≠ RO := rowIs_ne Hgd.out HRO.out (by decide)
                  have n3 : w.heap.size ≠ RO := rowIs_ne HB.out HRO.out (by decide)
                  have n4 : gr ≠ DO := rowIs_ne Hgr.out HDO.out (by decide)
                  have n5 : gd ≠ DO := rowIs_ne Hgd.out HDO.out (by decide)
                  have n6 : w.heap.size ≠ DO := rowIs_ne HB.out HDO.out (by decide)
                  have HB := Lib.hid (rowIs_same HB.out (hoa _ n3))
                  have HDO := Lib.hid (rowIs_same HDO.out (hoa _ (Ne.symm hRD)))
                  have Hgr := Lib.hid (rowIs_same Hgr.out (hoa _ n1))
                  have Hgd := Lib.hid (rowIs_same Hgd.out (hoa _ n2))
                  have hb := hb.trans (hba.mono hglRO)
                  have RD : (fun w' => w'.rangeAt w.heap.size 0 [.slice v.ai N.ids.length v.ci, .slice v.ac N.costs.length v.cc, .slice v.al N.links.length v.cl]) wa := range_of_row HB.out rfl
                  refine ⟨RD, ?_⟩
                  clear hRa hoa hsa hba HRO n1 n2 n3
                  (try simp only [Act.put, List.setIfInBounds_toArray, List.set_cons_zero, List.set_cons_succ])
                  refine wpAnyH_ready (rs := [7]) (by kernel_rfl) (by simp) ?_
                  refine ar_cell18 (i := 7) (o := { dst := none, op := Op.store 35 (Operand.tmp 4) (Operand.tmp 11), type := 0, pos := "least.go:116", after := #[{ on := 5, ground := Ground.data }, { on := 3, ground := Ground.data }, { on := 6, ground := Ground.chain }, { on := 0, ground := Ground.phase }, { on := 1, ground := Ground.phase }, { on := 2, ground := Ground.phase }, { on := 3, ground := Ground.phase }, { on := 4, ground := Ground.phase }, { on := 5, ground := Ground.phase }, { on := 6, ground := Ground.phase }], guard := none } ) rfl (by kernel_rfl) 35 (.tmp 4) (.tmp 11) rfl DO 0 (.slice (some ⟨gd, 0, none⟩) N.ids.length N.ids.length) rfl rfl 35 _ HDO.out (show 0 < 1 from by decide) (by kernel_rfl) rfl ?_
                  intro wb hRb hob hsb hbb
                  have HRb : Hid (RowIs wb DO 35 #[.slice (some ⟨gd, 0, none⟩) N.ids.length N.ids.length]) := hRb
                  have HB := Lib.hid (rowIs_same HB.out (hob _ n6))
                  have HRa := Lib.hid (rowIs_same HRa.out (hob _ hRD))
                  have Hgr := Lib.hid (rowIs_same Hgr.out (hob _ n4))
                  have Hgd := Lib.hid (rowIs_same Hgd.out (hob _ n5))
                  have hb := hb.trans (hbb.mono hglDO)
                  refine ⟨range_of_row HB.out rfl, ?_⟩
                  clear hRb hob hsb hbb HDO n4 n5 n6 RD
                  (try simp only [Act.put, List.setIfInBounds_toArray, List.set_cons_zero, List.set_cons_succ])
                  refine wpAnyH_done (by kernel_rfl) ?_ _
                  go_wp2_with fail
                  go_meet
                  exact ⟨RO, DO, gr, gd, rfl, rfl, ⟨HRL.out ▸ HRa.out, Hgr.out⟩, ⟨HDL.out ▸ HRb.out, Hgd.out⟩, HB.out, hb⟩

  case rest =>
    obtain ⟨RO, DO, gr, gd, rfl, rfl, hro, hdo, hbx, hbx1⟩ := hcut
    have HRO := Lib.hid hro
    have HDO := Lib.hid hdo
    have HB := Lib.hid hbx
    have hbW2 := hbW.trans (hbx1.mono hbW.size)
    have hgr := hro.arr.lt
    have hgd := hdo.arr.lt
    have hq : Hid ((stPs N R D N.dirs.length).1 = q) := (ports_is HOK.out HR.out D).uniq HQQ.out
    rename World => w2
    have cR : w2.cell? ⟨RO, 0, none⟩ = some (.slice (some ⟨gr, 0, none⟩) N.ids.length N.ids.length) := by
      have := hro.ov.cell 0
      rw [HRL.out] at this
      exact this
    have hmk := run_make_ints N.ids.length (by omega) w2
    have hsw2 : w.heap.size < w2.heap.size := hbx.lt
    clear hro hdo hbx hbx1 HRY HDY R0 hbW
    go_upto_region 3 with fail
    -- the array of ports, its variable
    have RA := Lib.hid (rowIs_new w2 3 (intsA (List.replicate N.ids.length 0)))
    have hb3 : Below w2.heap.size w2 (w2.alloc (.cells (intsA (List.replicate N.ids.length 0)) 3)) := (Below.refl _ _).alloc (Nat.le_refl _) _
    have HRO := Lib.hid (HRO.out.kept hb3)
    have HDO := Lib.hid (HDO.out.kept hb3)
    have HB := Lib.hid (HB.out.kept hb3)
    have hbW3 := hbW2.trans (hb3.mono hbW2.size)
    clear hmk cR hb3 hbW2
    generalize hW3 : w2.alloc (.cells (intsA (List.replicate N.ids.length 0)) 3) = w3 at *
    have hs3 : w3.heap.size = w2.heap.size + 1 := by rw [← hW3]; simp
    have ROV := Lib.hid (rowIs_new w3 35 #[.slice (some ⟨w2.heap.size, 0, none⟩) N.ids.length N.ids.length])
    have hb4 : Below w3.heap.size w3 (w3.alloc (.cells #[.slice (some ⟨w2.heap.size, 0, none⟩) N.ids.length N.ids.length] 35)) := (Below.refl _ _).alloc (Nat.le_refl _) _
    have RA := Lib.hid (RA.out.kept hb4)
    have HRO := Lib.hid (HRO.out.kept hb4)
    have HDO := Lib.hid (HDO.out.kept hb4)
    have HB := Lib.hid (HB.out.kept hb4)
    have hbW4 := hbW3.trans (hb4.mono hbW3.size)
    rw [hs3] at ROV
    clear hb4 hbW3 hW3
    generalize hW4 : w3.alloc _ = w4 at *
    have hs4 : w4.heap.size = w2.heap.size + 2 := by rw [← hW4]; simp; omega
    clear hW4 hs3
    have HZ := Lib.hid (fillP_zero N.ids.length)
    rw [HZ.out] at RA
    have AA : Hid (ArrAt w4 (w2.heap.size + 1) w2.heap.size (fillP N.ids.length 0)) := ⟨by rw [fillP_len]; exact ROV.out, RA.out⟩
    clear RA ROV
    have hgg : gr < w2.heap.size ∧ gd < w2.heap.size := ⟨hgr, hgd⟩
    generalize w2.heap.size = g at *
    -- the array of vectors, its variable
    have cR : w4.cell? ⟨RO, 0, none⟩ = some (.slice (some ⟨gr, 0, none⟩) N.ids.length N.ids.length) := by
      have := HRO.out.ov.cell 0
      rw [HRL.out] at this
      exact this
    have hmk := run_make_vecs N.ids.length (by omega) w4
    rw [hs4] at hmk
    go_upto_region 4 with fail
    have RV := Lib.hid (rowIs_new w4 73 (vecsA (List.replicate N.ids.length SV.zero)))
    have hb5 : Below w4.heap.size w4 (w4.alloc (.cells (vecsA (List.replicate N.ids.length SV.zero)) 73)) := (Below.refl _ _).alloc (Nat.le_refl _) _
    have HRO := Lib.hid (HRO.out.kept hb5)
    have HDO := Lib.hid (HDO.out.kept hb5)
    have HB := Lib.hid (HB.out.kept hb5)
    have AA := Lib.hid (AA.out.kept hb5)
    have hbW5 := hbW4.trans (hb5.mono hbW4.size)
    rw [hs4] at RV
    clear hmk cR hb5 hbW4
    generalize hW5 : w4.alloc (.cells (vecsA (List.replicate N.ids.length SV.zero)) 73) = w5 at *
    have hs5 : w5.heap.size = g + 3 := by rw [← hW5]; simp; omega
    have RBV := Lib.hid (rowIs_new w5 71 #[.slice (some ⟨g + 2, 0, none⟩) N.ids.length N.ids.length])
    have hb6 : Below w5.heap.size w5 (w5.alloc (.cells #[.slice (some ⟨g + 2, 0, none⟩) N.ids.length N.ids.length] 71)) := (Below.refl _ _).alloc (Nat.le_refl _) _
    have RV := Lib.hid (RV.out.kept hb6)
    have HRO := Lib.hid (HRO.out.kept hb6)
    have HDO := Lib.hid (HDO.out.kept hb6)
    have HB := Lib.hid (HB.out.kept hb6)
    have AA := Lib.hid (AA.out.kept hb6)
    have hbW6 := hbW5.trans (hb6.mono hbW5.size)
    rw [hs5] at RBV
    clear hb6 hbW5 hW5
    generalize hW6 : w5.alloc _ = w6 at *
    clear hW6 hs5 hs4
    have cO : w6.cell? ⟨g + 1, 0, none⟩ = some (.slice (some ⟨g, 0, none⟩) N.ids.length N.ids.length) := by
      have := AA.out.ov.cell 0
      rw [fillP_len] at this
      exact this
    go_wp2_with fail
    clear cO
    go_loopw [7, 20] (fun _ s20 wr => ∃ k : Nat, k ≤ N.ids.length ∧ s20 = .int .i64 k ∧ Hid (ArrAt wr (g + 1) g (fillP N.ids.length k)) ∧ Hid (ArrAt wr RO gr (natI R)) ∧ Hid (ArrAt wr DO gd D) ∧ Hid (RowIs wr (g + 3) 71 #[.slice (some ⟨g + 2, 0, none⟩) N.ids.length N.ids.length]) ∧ Hid (RowIs wr (g + 2) 73 (vecsA (List.replicate N.ids.length SV.zero))) ∧ Hid (RowIs wr w.heap.size 32 #[.slice v.ai N.ids.length v.ci, .slice v.ac N.costs.length v.cc, .slice v.al N.links.length v.cl]) ∧ Below w.heap.size w wr) (fun _ s20 _ => N.ids.length - (intOf s20).toNat)
    case atStart => exact ⟨0, Nat.zero_le _, rfl, AA, HRO, HDO, RBV, RV, HB, hbW6⟩
    case round =>
      clear AA HRO HDO RBV RV HB hbW6
      rename World => wr
      obtain ⟨k, hk, rfl, AA, HRO, HDO, RBV, RV, HB, hbr⟩ := hrel
      have cO : wr.cell? ⟨g + 1, 0, none⟩ = some (.slice (some ⟨g, 0, none⟩) N.ids.length N.ids.length) := by
        have := AA.out.ov.cell 0
        rw [fillP_len] at this
        exact this
      by_cases hlt : k < N.ids.length
      · have hx0 : (0 : Int) ≤ (k : Int) := by omega
        have hx1 : (k : Int) < (N.ids.length : Int) := by omega
        have HSET := Lib.hid (fillP_set hlt)
        go_wp2_with ((with_reducible refine at_store 3 (.tmp 25) (.const (.int .i64 (-1))) ?_); refine wpList_store_cell rfl 3 (.tmp 25) (.const (.int .i64 (-1))) rfl g k _ rfl rfl 3 _ AA.out.arr (by rw [intsA_size, fillP_len]; exact hlt) (by kernel_rfl) rfl w.heap.size (by omega) ?_)
        intro w7 hR7 ho7 hs7 hb7
        rw [intsA_set, HSET.out] at hR7
        have HA7 : Hid (ArrAt w7 (g + 1) g (fillP N.ids.length (k + 1))) := ⟨by
          have := rowIs_same AA.out.ov (ho7 _ (by omega))
          rw [fillP_len] at this
          rw [fillP_len]
          exact this, hR7⟩
        have nR : RO ≠ g := rowIs_ne HRO.out.ov AA.out.arr (by decide)
        have nD : DO ≠ g := rowIs_ne HDO.out.ov AA.out.arr (by decide)
        have HRO := Lib.hid (show ArrAt w7 RO gr (natI R) from ⟨rowIs_same HRO.out.ov (ho7 _ nR), rowIs_same HRO.out.arr (ho7 _ (by omega))⟩)
        have HDO := Lib.hid (show ArrAt w7 DO gd D from ⟨rowIs_same HDO.out.ov (ho7 _ nD), rowIs_same HDO.out.arr (ho7 _ (by omega))⟩)
        have RBV := Lib.hid (rowIs_same RBV.out (ho7 _ (by omega)))
        have RV := Lib.hid (rowIs_same RV.out (ho7 _ (by omega)))
        have HB := Lib.hid (rowIs_same HB.out (ho7 _ (by omega)))
        have hbr := hbr.trans hb7
        clear hR7 ho7 hs7 hb7 AA cO nR nD
        go_wp2_with fail
        exact ⟨⟨k + 1, by omega, by go_num, HA7, HRO, HDO, RBV, RV, HB, hbr⟩, by simp [intOf]; omega⟩
      · obtain rfl : k = N.ids.length := by omega
        have HS0 : Hid (stPs N R D 0 = (List.replicate N.ids.length (-1), List.replicate N.ids.length SV.zero)) := rfl
        have HFA := Lib.hid (fillP_all N.ids.length)
        have HJ0 : Hid (PJ N v w R D RO gr DO gd (g + 1) g (g + 3) (g + 2) 0 wr) := ⟨HRO.out, HDO.out, by rw [HS0.out, ← HFA.out]; exact AA.out, RBV.out, by rw [HS0.out]; exact RV.out, HB.out, hbr⟩
        have HCA := Lib.hid (ports_round v N w wr HN.out hl HOK.out R HR.out D HD.out RO gr DO gd (g + 1) g (g + 3) (g + 2) HJ0.out (by omega) (by omega) ⟨by omega, by omega⟩)
        clear HS0 HFA HJ0 cO
        go_wp2_with ((with_reducible refine at_load 32 (.tmp 1) ?_); refine wpList_load_own rfl 32 (.tmp 1) rfl w.heap.size rfl _ _ _ HB.out Try.underlying32 rfl (by kernel_rfl) ?_)
        refine HCA.out.mono ?_
        rintro e w8 ⟨rfl, hj8⟩
        have HA8 := Lib.hid hj8.arr
        have hbf := hj8.bel
        clear hj8 HCA AA HRO HDO RBV RV HB
        rw [hq.out] at HA8
        have HQL : Hid (q.length = N.ids.length) := HQQ.out.len
        have cO : w8.cell? ⟨g + 1, 0, none⟩ = some (.slice (some ⟨g, 0, none⟩) N.ids.length N.ids.length) := by
          have := HA8.out.ov.cell 0
          rw [HQL.out] at this
          exact this
        go_wp2_with fail
        go_ret
        exact ⟨⟨g, rfl, HA8.out.arr, by omega⟩, hbf⟩
end Go.Proofs.Ytcmokhpnooldgaa
