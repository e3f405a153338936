/- span: right, New. By an AI agent. -/
import Derived.Test.YthfckdnennfnoaaGreatDoorSpan3
import Derived.Test.YthfckdnennfnoaaGreatDoorInts
import Derived.Test.YthfckdnennfnoaaGreatDoorGrowApp
import Derived.Laws.AppendOwn
import Derived.Laws.AppendOwnNone
namespace Go.Proofs.YthfckdnennfnoaaGreatDoor
open Go.RowKit Go.WideShapes Go.Sort Grow
theorem RowIs.grown {w w' : World} {n : Nat} {t : TypeId} {cs : Array Value} {r : Option Nat} (h : RowIs w n t cs) (hg : w.grownBy w' r) (hr : r ≠ some n) : RowIs w' n t cs := (hg.block n h.lt (Ne.symm hr)).trans h
namespace SpN
open Go.RowKit Go.WideShapes Go.Sort Grow
theorem ownsLater' {w w' : World} {base : Nat} {e : TypeId} {size : Nat} {v : Value} {n : Nat} {xs : List Value} (h : w.ownsRow base e size v n xs) (hb : Below w.heap.size w w') : w'.ownsRow base e size v n xs := by
  refine ⟨h.1, ?_⟩
  rcases h.2 with h | ⟨g, cap, cur, rfl, hg, hc, h⟩
  · exact .inl h
  · exact .inr ⟨g, cap, cur, rfl, hg, (hb.block g (Array.getElem?_eq_some_iff.1 hc).1).trans hc, h⟩

open Go.RowKit Go.WideShapes Go.Sort Grow

abbrev I64v (n : Int) : Value := .int .i64 n
def okLim (n : Int) : Bool := decide (1 ≤ n ∧ n ≤ 65535)

def anyBad (zs : List Int) : Bool := !zs.all okLim

theorem newC_any (n : Int) (w : World) : Calls Tryz.prog 51 #[.int .i64 n] w fun e w' => e = .returned (.bool (!okLim n)) ∧ w = w' := by
  rcases Int.lt_or_le n 1 with h | h
  · have e : (!okLim n) = true := by simp [okLim]; omega
    go_enter Tryz.func51, Tryz.ntmps51
    go_wp2_with fail
    go_ret
    exact ⟨by rw [e]; rfl, rfl⟩
  · rcases Int.lt_or_le 65535 n with h1 | h1
    · have e : (!okLim n) = true := by simp [okLim]; omega
      have g1 : decide (n < 1) = false := decide_eq_false (by omega)
      go_enter Tryz.func51, Tryz.ntmps51
      go_wp2_with fail
      go_ret
      exact ⟨by rw [e]; rfl, rfl⟩
    · have e : (!okLim n) = false := by simp [okLim]; omega
      have g1 : decide (n < 1) = false := decide_eq_false (by omega)
      have g2 : decide (65535 < n) = false := decide_eq_false (by omega)
      go_enter Tryz.func51, Tryz.ntmps51
      go_wp2_with fail
      go_ret
      exact ⟨by rw [e]; rfl, rfl⟩

theorem getD_mem' {zs : List Int} {k : Nat} (h : k < zs.length) : zs.getD k 0 ∈ zs := by rw [List.getD, List.getElem?_eq_getElem h]; exact List.getElem_mem h

set_option maxRecDepth 20000 in
set_option maxHeartbeats 1000000 in
theorem indexL_any (ao : Option Addr) (zs : List Int) (cap : Nat) (w : World) (h : IntsAt w ao zs) (hz : zs.length ≤ 1000000) :
    Calls Tryz.prog 67 #[.slice ao zs.length cap, .func (.func 51) #[] #[]] w fun e w' => (∃ r : Int, e = .returned (.int .i64 r) ∧ -1 ≤ r ∧ r ≤ 1000000 ∧ (0 ≤ r ↔ anyBad zs = true)) ∧ w = w' := by
  rcases h with rfl | ⟨b, off, rfl, hc⟩
  · go_enter Tryz.func67, Tryz.ntmps67
    go_wp2
    refine wp_loop_rounds 1 ?_
    rw [rounds_succ]
    go_wp2
    go_ret
    exact ⟨⟨-1, rfl, by omega, by omega, by simp [anyBad]⟩, rfl⟩
  · have HC := Lib.hid hc
    clear hc
    go_enter Tryz.func67, Tryz.ntmps67
    go_wp2
    go_loop [8] (fun i => ∃ k : Nat, k ≤ zs.length ∧ i = .int .i64 k ∧ Hid (∀ j, j < k → okLim (zs.getD j 0) = true)) (fun i => zs.length - (intOf i).toNat)
    case atStart => exact ⟨0, Nat.zero_le _, rfl, fun j hj => absurd hj (Nat.not_lt_zero _)⟩
    case round =>
      obtain ⟨k, hk, rfl, HN⟩ := hrel
      by_cases hlt : k < zs.length
      · have hcell := HC.out k hlt
        have HV := Lib.hid (getD_mem' hlt)
        have DX := Lib.hid (newC_any (zs.getD k 0) w)
        have HE : Hid (∀ j, j < k + 1 → okLim (zs.getD k 0) = true → okLim (zs.getD j 0) = true) := fun j hj h => by
          rcases Nat.lt_or_eq_of_le (Nat.le_of_lt_succ hj) with h1 | rfl
          · exact HN.out j h1
          · exact h
        generalize zs.getD k 0 = x at *
        cases hx : okLim x
        · rw [hx] at DX
          go_wp2_with fail
          refine DX.out.mono ?_
          rintro e w1 ⟨rfl, rfl⟩
          go_wp2_with fail
          go_ret
          refine ⟨⟨k, rfl, by omega, by omega, fun _ => ?_, fun _ => by omega⟩, rfl⟩
          unfold anyBad
          cases hall : zs.all okLim
          · rfl
          · have := List.all_eq_true.1 hall x HV.out
            rw [hx] at this
            cases this
        · rw [hx] at DX
          go_wp2_with fail
          refine DX.out.mono ?_
          rintro e w1 ⟨rfl, rfl⟩
          go_wp2_with fail
          exact ⟨⟨k + 1, by omega, by go_num, fun j hj => HE.out j hj hx⟩, by simp [intOf]; omega⟩
      · go_wp2_with fail
        go_ret
        refine ⟨⟨-1, rfl, by omega, by omega, fun h => by omega, fun h => ?_⟩, rfl⟩
        exfalso
        unfold anyBad at h
        rw [List.all_eq_true.2 fun x hx => ?_] at h
        · cases h
        obtain ⟨j, hj, rfl⟩ := List.mem_iff_getElem.1 hx
        have := HN.out j (by omega)
        rwa [List.getD, List.getElem?_eq_getElem hj] at this

theorem containsL_any (ao : Option Addr) (zs : List Int) (cap : Nat) (w : World) (h : IntsAt w ao zs) (hz : zs.length ≤ 1000000) :
    Calls Tryz.prog 53 #[.slice ao zs.length cap, .func (.func 51) #[] #[]] w fun e w' => e = .returned (.bool (anyBad zs)) ∧ w = w' := by
  have HX := Lib.hid (indexL_any ao zs cap w h hz)
  clear h
  cases hb : anyBad zs
  all_goals
    rw [hb] at HX
    go_enter Tryz.func53, Tryz.ntmps53
    go_wp2_with fail
    refine HX.out.mono ?_
    rintro e w1 ⟨⟨r, rfl, h1, h2, h3⟩, rfl⟩
  · have h4 : ¬ 0 ≤ r := by simpa using h3
    have h5 : decide (0 ≤ r) = false := decide_eq_false h4
    clear h3 h4
    go_wp2_with fail
    go_ret
    exact ⟨rfl, rfl⟩
  · have h4 : 0 ≤ r := by simpa using h3
    have h5 : decide (0 ≤ r) = true := decide_eq_true h4
    clear h3
    go_wp2_with fail
    go_ret
    exact ⟨rfl, rfl⟩


def rightT (ma he de : Int) : Bool := decide (1 ≤ he) && (decide (he ≤ 100) && (decide (2 * he < ma) && (decide (ma ≤ 1000) && (decide (1 ≤ de) && decide (de ≤ 1000)))))

set_option maxRecDepth 20000 in
set_option maxHeartbeats 2000000 in
theorem right_any (ma he de : Int) (w : World) : Calls Tryz.prog 52 #[.agg #[.int .i64 ma, .int .i64 he, .int .i64 de]] w fun e w' => e = .returned (.bool (rightT ma he de)) ∧ Below w.heap.size w w' := by
  unfold rightT
  cases h0 : decide (1 ≤ he)
  · go_enter Tryz.func52, Tryz.ntmps52
    go_wp2_with fail
    go_ret
    exact ⟨rfl, (Below.refl _ _).alloc (Nat.le_refl _) _⟩
  · have b0 := of_decide_eq_true h0
    cases h1 : decide (he ≤ 100)
    · go_enter Tryz.func52, Tryz.ntmps52
      go_wp2_with fail
      go_ret
      exact ⟨rfl, (Below.refl _ _).alloc (Nat.le_refl _) _⟩
    · have b1 := of_decide_eq_true h1
      cases h2 : decide (2 * he < ma)
      · go_enter Tryz.func52, Tryz.ntmps52
        go_wp2_with fail
        go_ret
        exact ⟨rfl, (Below.refl _ _).alloc (Nat.le_refl _) _⟩
      · have b2 := of_decide_eq_true h2
        cases h3 : decide (ma ≤ 1000)
        · go_enter Tryz.func52, Tryz.ntmps52
          go_wp2_with fail
          go_ret
          exact ⟨rfl, (Below.refl _ _).alloc (Nat.le_refl _) _⟩
        · have b3 := of_decide_eq_true h3
          cases h4 : decide (1 ≤ de)
          · go_enter Tryz.func52, Tryz.ntmps52
            go_wp2_with fail
            go_ret
            exact ⟨rfl, (Below.refl _ _).alloc (Nat.le_refl _) _⟩
          · have b4 := of_decide_eq_true h4
            cases h5 : decide (de ≤ 1000)
            · go_enter Tryz.func52, Tryz.ntmps52
              go_wp2_with fail
              go_ret
              exact ⟨rfl, (Below.refl _ _).alloc (Nat.le_refl _) _⟩
            · have b5 := of_decide_eq_true h5
              go_enter Tryz.func52, Tryz.ntmps52
              go_wp2_with fail
              go_ret
              exact ⟨rfl, (Below.refl _ _).alloc (Nat.le_refl _) _⟩

def SP.fresh (c : Int) : SP := ⟨c, false, false, .zero, 0, 0, 0⟩
def SS.fresh (id : Id8) (zs : List Int) (ma he de : Int) : SS := ⟨id, ma, he, de, zs.map SP.fresh, ⟨.zero, 0, .zero, 0⟩, -1, 0, 0⟩
def newOk (zs : List Int) (ma he de : Int) : Bool := rightT ma he de && (decide (1 ≤ zs.length) && (decide (zs.length ≤ 32) && !anyBad zs))
theorem info_pport : ∃ i z, Tryz.prog.info? 139 = some i ∧ i.zero = some z ∧ i.size = 1 ∧ i.bytes = 8 ∧ z.cells.size = 1 := by
  have h : (Tryz.prog.info? 139).map (fun i => (i.zero.map (·.cells.size), i.size, i.bytes)) = some (some 1, 1, 8) := by kernel_rfl
  obtain ⟨i, hi, h⟩ := Option.map_eq_some_iff.1 h
  simp only [Prod.mk.injEq] at h
  obtain ⟨z, hz, h18⟩ := Option.map_eq_some_iff.1 h.1
  exact ⟨i, z, hi, hz, h.2.1, h.2.2, h18⟩

set_option maxRecDepth 20000 in
set_option maxHeartbeats 4000000 in
theorem new_bad (id : Id8) (ao : Option Addr) (zs : List Int) (cap : Nat) (ma he de : Int) (w : World) (h : IntsAt w ao zs) (hz : zs.length ≤ 1000000) (hb : newOk zs ma he de = false) :
    Calls Tryz.prog 29 #[.agg #[.int .u8 ((id.f 0).toNat : Int), .int .u8 ((id.f 1).toNat : Int), .int .u8 ((id.f 2).toNat : Int), .int .u8 ((id.f 3).toNat : Int), .int .u8 ((id.f 4).toNat : Int), .int .u8 ((id.f 5).toNat : Int), .int .u8 ((id.f 6).toNat : Int), .int .u8 ((id.f 7).toNat : Int)], .slice ao zs.length cap, .agg #[.int .i64 ma, .int .i64 he, .int .i64 de]] w fun e w' => e = .returned (.tuple #[.pointer none, .int .i64 1]) ∧ Below w.heap.size w w' := by
  have HI := Lib.hid h
  have HZ := Lib.hid hz
  have C1 := Lib.hid (fun w => right_any ma he de w)
  have C2 := Lib.hid (fun (w' : World) (hb : Below w.heap.size w w') => containsL_any ao zs cap w' (h.after hb) hz)
  unfold newOk at hb
  clear h
  generalize rightT ma he de = b1 at *
  generalize anyBad zs = b4 at *
  have key : b1 = false ∨ b1 = true ∧ zs.length < 1 ∨ b1 = true ∧ 1 ≤ zs.length ∧ 32 < zs.length ∨ b1 = true ∧ 1 ≤ zs.length ∧ zs.length ≤ 32 ∧ b4 = true := by
    cases b1
    · exact .inl rfl
    · right
      simp only [Bool.true_and, Bool.and_eq_false_iff, decide_eq_false_iff_not, Bool.not_eq_false'] at hb
      rcases hb with hb | hb | hb
      · exact .inl ⟨rfl, by omega⟩
      · by_cases h1 : 1 ≤ zs.length
        · exact .inr (.inl ⟨rfl, h1, by omega⟩)
        · exact .inl ⟨rfl, by omega⟩
      · by_cases h1 : 1 ≤ zs.length
        · by_cases h2 : zs.length ≤ 32
          · exact .inr (.inr ⟨rfl, h1, h2, hb⟩)
          · exact .inr (.inl ⟨rfl, h1, by omega⟩)
        · exact .inl ⟨rfl, by omega⟩
  clear hb
  go_enter Tryz.func29, Tryz.ntmps29
  go_upto_region 2 with fail
  generalize hW : (w.alloc _).alloc _ = W
  have hbW : Below w.heap.size w W := by rw [← hW]; exact ((Below.refl _ _).alloc (Nat.le_refl _) _).alloc (by simp) _
  have RT : Hid (RowIs W (w.heap.size + 1) 30 #[.int .i64 ma, .int .i64 he, .int .i64 de]) := by subst hW; exact rowIs_new1 w _ _ _
  clear hW
  rcases key with rfl | ⟨rfl, h1⟩ | ⟨rfl, h1, h2⟩ | ⟨rfl, h1, h2, rfl⟩
  · go_wp2_with ((with_reducible refine at_load 30 (.tmp 5) ?_); refine wpList_load_own rfl 30 (.tmp 5) rfl (w.heap.size + 1) rfl _ _ _ RT.out Tryz.underlying30 rfl (by kernel_rfl) ?_)
    refine (C1.out _).mono ?_
    rintro e w1 ⟨rfl, hb1⟩
    go_wp2_with fail
    go_ret2
    exact ⟨rfl, hbW.trans (hb1.mono hbW.size)⟩
  · have g1 : decide ((zs.length : Int) < 1) = true := decide_eq_true (by omega)
    go_wp2_with ((with_reducible refine at_load 30 (.tmp 5) ?_); refine wpList_load_own rfl 30 (.tmp 5) rfl (w.heap.size + 1) rfl _ _ _ RT.out Tryz.underlying30 rfl (by kernel_rfl) ?_)
    refine (C1.out _).mono ?_
    rintro e w1 ⟨rfl, hb1⟩
    go_wp2_with fail
    go_ret2
    exact ⟨rfl, hbW.trans (hb1.mono hbW.size)⟩
  · go_wp2_with ((with_reducible refine at_load 30 (.tmp 5) ?_); refine wpList_load_own rfl 30 (.tmp 5) rfl (w.heap.size + 1) rfl _ _ _ RT.out Tryz.underlying30 rfl (by kernel_rfl) ?_)
    refine (C1.out _).mono ?_
    rintro e w1 ⟨rfl, hb1⟩
    go_wp2_with fail
    go_ret2
    exact ⟨rfl, hbW.trans (hb1.mono hbW.size)⟩
  · go_wp2_with ((with_reducible refine at_load 30 (.tmp 5) ?_); refine wpList_load_own rfl 30 (.tmp 5) rfl (w.heap.size + 1) rfl _ _ _ RT.out Tryz.underlying30 rfl (by kernel_rfl) ?_)
    refine (C1.out _).mono ?_
    rintro e w1 ⟨rfl, hb1⟩
    have hbW1 := hbW.trans (hb1.mono hbW.size)
    have C2 := Lib.hid (C2.out w1 hbW1)
    go_wp2_with fail
    refine C2.out.mono ?_
    rintro e w2 ⟨rfl, rfl⟩
    go_wp2_with fail
    go_ret2
    exact ⟨rfl, hbW1⟩



def ptrV (b : Nat) : Value := .pointer (some ⟨b, 0, none⟩)
theorem own_type {w : World} {base : Nat} {e : TypeId} {v : Value} {n k : Nat} {xs : List Value} (h : w.ownsRow base e 1 v n xs) (hk : v.ownBlock = some k) : ∃ cs, RowIs w k e cs := by
  rcases h.2 with ⟨rfl, _⟩ | ⟨g', c', cur, rfl, _, hgr, _⟩
  · cases hk
  · simp only [Value.ownBlock, Option.some.injEq] at hk
    subst hk
    exact ⟨cur, hgr⟩
theorem grown_ne {w : World} {base : Nat} {e t : TypeId} {v : Value} {n b : Nat} {xs : List Value} {cs : Array Value} (h : w.ownsRow base e 1 v n xs) (hb : RowIs w b t cs) (hne : t ≠ e) : v.ownBlock ≠ some b := fun hk => by
  obtain ⟨cs', hr⟩ := own_type h hk
  exact rowIs_ne hb hr hne rfl

/-- some ports made -/
structure NewPorts (w : World) (base : Nat) (zs : List Int) (v : Value) (pbs : List Nat) : Prop where
  own : w.ownsRow base 139 1 v pbs.length (pbs.map ptrV)
  nodup : pbs.Nodup
  ports : ∀ i (h : i < pbs.length), base ≤ pbs[i] ∧ RowIs w pbs[i] 143 (SP.fresh (zs.getD i 0)).cells
theorem NewPorts.slice {w : World} {base : Nat} {zs : List Int} {v : Value} {pbs : List Nat} (h : NewPorts w base zs v pbs) : ∃ la lc, v = .slice la pbs.length lc := by
  rcases h.own.2 with ⟨rfl, e0⟩ | ⟨g', c', _, e', _⟩
  · exact ⟨none, 0, by rw [e0]⟩
  · exact ⟨_, _, e'⟩
theorem NewPorts.spAt {w : World} {base S la lc : Nat} {zs : List Int} {pbs : List Nat} {id : Id8} {ma he de : Int} (h : NewPorts w base zs (.slice (some ⟨la, 0, none⟩) pbs.length lc) pbs) (hl : pbs.length = zs.length) (hS : base ≤ S)
    (hr : RowIs w S 138 #[.int .u8 ((id.f 0).toNat : Int), .int .u8 ((id.f 1).toNat : Int), .int .u8 ((id.f 2).toNat : Int), .int .u8 ((id.f 3).toNat : Int), .int .u8 ((id.f 4).toNat : Int), .int .u8 ((id.f 5).toNat : Int), .int .u8 ((id.f 6).toNat : Int), .int .u8 ((id.f 7).toNat : Int), .int .i64 ma, .int .i64 he, .int .i64 de, .slice (some ⟨la, 0, none⟩) zs.length lc, .int .u8 0, .int .u8 0, .int .u8 0, .int .u8 0, .int .u8 0, .int .u8 0, .int .u8 0, .int .u8 0, .int .i64 0, .int .u8 0, .int .u8 0, .int .u8 0, .int .u8 0, .int .u8 0, .int .u8 0, .int .u8 0, .int .u8 0, .int .i64 0, .int .i64 (-1), .int .i64 0, .int .i64 0]) : SpAt base S la lc pbs w (SS.fresh id zs ma he de) := by
  have hlen : (SS.fresh id zs ma he de).ports.length = zs.length := by simp [SS.fresh]
  rcases h.own.2 with ⟨e1, _⟩ | ⟨g', c', cur, e', hB, hgr, hle, hm, hcs, ht⟩
  · cases e1
  · simp only [Value.slice.injEq, Option.some.injEq, Addr.mk.injEq, and_true, true_and] at e'
    obtain ⟨rfl, rfl⟩ := e'
    refine ⟨hS, ?_, hB, ⟨cur, hgr, fun i hi => ?_⟩, by rw [hlen]; exact hl, h.nodup, fun i hi => ⟨(h.ports i hi).1, ?_⟩⟩
    · unfold SS.cells
      rw [hlen]
      exact hr
    · have hj : (pbs.map ptrV)[i]? = some (ptrV pbs[i]) := by simp [hi]
      rw [← ht, List.getElem?_take_of_lt (by omega), Array.getElem?_toList] at hj
      exact hj
    · have hz : i < zs.length := by omega
      have e : (SS.fresh id zs ma he de).port i = SP.fresh (zs.getD i 0) := by
        unfold SS.port SS.fresh
        simp [List.getD, hz]
      rw [e]
      exact (h.ports i hi).2
theorem nodup_snoc {l : List Nat} {b : Nat} (h : l.Nodup) (hb : ∀ x ∈ l, x < b) : (l ++ [b]).Nodup := by
  rw [List.nodup_append]
  refine ⟨h, by simp, fun x hx y hy => ?_⟩
  simp only [List.mem_singleton] at hy
  subst hy
  have := hb x hx
  omega

set_option maxRecDepth 20000 in
set_option maxHeartbeats 8000000 in
theorem new_good (id : Id8) (ao : Option Addr) (zs : List Int) (cap : Nat) (ma he de : Int) (w : World) (h : IntsAt w ao zs) (hb : newOk zs ma he de = true) :
    Calls Tryz.prog 29 #[.agg #[.int .u8 ((id.f 0).toNat : Int), .int .u8 ((id.f 1).toNat : Int), .int .u8 ((id.f 2).toNat : Int), .int .u8 ((id.f 3).toNat : Int), .int .u8 ((id.f 4).toNat : Int), .int .u8 ((id.f 5).toNat : Int), .int .u8 ((id.f 6).toNat : Int), .int .u8 ((id.f 7).toNat : Int)], .slice ao zs.length cap, .agg #[.int .i64 ma, .int .i64 he, .int .i64 de]] w fun e w' => ∃ S g cp pbs, e = .returned (.tuple #[.pointer (some ⟨S, 0, none⟩), .int .i64 0]) ∧ SpAt w.heap.size S g cp pbs w' (SS.fresh id zs ma he de).found.1 ∧ Below w.heap.size w w' := by
  have HI := Lib.hid h
  unfold newOk at hb
  simp only [Bool.and_eq_true, decide_eq_true_eq, Bool.not_eq_true'] at hb
  obtain ⟨hb1, hz1, hz2, hb4⟩ := hb
  have C1 := Lib.hid (fun w => right_any ma he de w)
  have C2 := Lib.hid (fun (w' : World) (hb : Below w.heap.size w w') => containsL_any ao zs cap w' (h.after hb) (by omega))
  rw [hb1] at C1
  rw [hb4] at C2
  obtain ⟨ti, tz, hi, hzz, hi1, hi2, hi3⟩ := info_pport
  have HIN := Lib.hid hi
  have HZ := Lib.hid hzz
  clear h hb1 hb4 hi hzz
  go_enter Tryz.func29, Tryz.ntmps29
  go_upto_region 2 with fail
  generalize hW : (w.alloc _).alloc _ = W
  have hbW : Below w.heap.size w W := by rw [← hW]; exact ((Below.refl _ _).alloc (Nat.le_refl _) _).alloc (by simp) _
  have RT : Hid (RowIs W (w.heap.size + 1) 30 #[.int .i64 ma, .int .i64 he, .int .i64 de]) := by subst hW; exact rowIs_new1 w _ _ _
  have RD : Hid (RowIs W w.heap.size 28 #[.int .u8 ((id.f 0).toNat : Int), .int .u8 ((id.f 1).toNat : Int), .int .u8 ((id.f 2).toNat : Int), .int .u8 ((id.f 3).toNat : Int), .int .u8 ((id.f 4).toNat : Int), .int .u8 ((id.f 5).toNat : Int), .int .u8 ((id.f 6).toNat : Int), .int .u8 ((id.f 7).toNat : Int)]) := by subst hW; exact (rowIs_new w _ _).alloc _
  clear hW
  go_wp2_with ((with_reducible refine at_load 30 (.tmp 5) ?_); refine wpList_load_own rfl 30 (.tmp 5) rfl (w.heap.size + 1) rfl _ _ _ RT.out Tryz.underlying30 rfl (by kernel_rfl) ?_)
  refine (C1.out _).mono ?_
  rintro e w1 ⟨rfl, hb1⟩
  have hbW1 := hbW.trans (hb1.mono hbW.size)
  have RT1 := Lib.hid (RT.out.kept hb1)
  have RD1 := Lib.hid (RD.out.kept hb1)
  have C2 := Lib.hid (C2.out w1 hbW1)
  clear hb1 RT RD C1
  go_wp2_with fail
  refine C2.out.mono ?_
  rintro e w2 ⟨rfl, rfl⟩
  clear C2
  go_upto_region 5 with (first
    | ((with_reducible refine at_load 30 (.tmp 5) ?_); refine wpList_load_own rfl 30 (.tmp 5) rfl (w.heap.size + 1) rfl _ _ _ RT1.out Tryz.underlying30 rfl (by kernel_rfl) ?_)
    | ((with_reducible refine at_load 28 (.tmp 3) ?_); refine wpList_load_own rfl 28 (.tmp 3) rfl (w.heap.size) rfl _ _ _ RD1.out Tryz.underlying28 rfl (by kernel_rfl) ?_))
  have hbN : Below w1.heap.size w1 (w1.alloc (.cells #[.int .u8 ((id.f 0).toNat : Int), .int .u8 ((id.f 1).toNat : Int), .int .u8 ((id.f 2).toNat : Int), .int .u8 ((id.f 3).toNat : Int), .int .u8 ((id.f 4).toNat : Int), .int .u8 ((id.f 5).toNat : Int), .int .u8 ((id.f 6).toNat : Int), .int .u8 ((id.f 7).toNat : Int), .int .i64 ma, .int .i64 he, .int .i64 de, .slice none 0 0, .int .u8 0, .int .u8 0, .int .u8 0, .int .u8 0, .int .u8 0, .int .u8 0, .int .u8 0, .int .u8 0, .int .i64 0, .int .u8 0, .int .u8 0, .int .u8 0, .int .u8 0, .int .u8 0, .int .u8 0, .int .u8 0, .int .u8 0, .int .i64 0, .int .i64 (-1), .int .i64 0, .int .i64 0] 138)) := (Below.refl _ _).alloc (Nat.le_refl _) _
  have RS := Lib.hid (rowIs_new w1 138 #[.int .u8 ((id.f 0).toNat : Int), .int .u8 ((id.f 1).toNat : Int), .int .u8 ((id.f 2).toNat : Int), .int .u8 ((id.f 3).toNat : Int), .int .u8 ((id.f 4).toNat : Int), .int .u8 ((id.f 5).toNat : Int), .int .u8 ((id.f 6).toNat : Int), .int .u8 ((id.f 7).toNat : Int), .int .i64 ma, .int .i64 he, .int .i64 de, .slice none 0 0, .int .u8 0, .int .u8 0, .int .u8 0, .int .u8 0, .int .u8 0, .int .u8 0, .int .u8 0, .int .u8 0, .int .i64 0, .int .u8 0, .int .u8 0, .int .u8 0, .int .u8 0, .int .u8 0, .int .u8 0, .int .u8 0, .int .u8 0, .int .i64 0, .int .i64 (-1), .int .i64 0, .int .i64 0])
  have hS : w.heap.size ≤ w1.heap.size := hbW1.size
  have hbW2 := hbW1.trans (hbN.mono hS)
  clear hbN RT1 RD1 hbW hbW1
  generalize (w1.alloc (.cells #[.int .u8 ((id.f 0).toNat : Int), .int .u8 ((id.f 1).toNat : Int), .int .u8 ((id.f 2).toNat : Int), .int .u8 ((id.f 3).toNat : Int), .int .u8 ((id.f 4).toNat : Int), .int .u8 ((id.f 5).toNat : Int), .int .u8 ((id.f 6).toNat : Int), .int .u8 ((id.f 7).toNat : Int), .int .i64 ma, .int .i64 he, .int .i64 de, .slice none 0 0, .int .u8 0, .int .u8 0, .int .u8 0, .int .u8 0, .int .u8 0, .int .u8 0, .int .u8 0, .int .u8 0, .int .i64 0, .int .u8 0, .int .u8 0, .int .u8 0, .int .u8 0, .int .u8 0, .int .u8 0, .int .u8 0, .int .u8 0, .int .i64 0, .int .i64 (-1), .int .i64 0, .int .i64 0] 138)) = w3 at *
  generalize w1.heap.size = S at *
  go_upto_region 6 with fail
  go_loopw [36] (fun s36 wr => ∃ (i la : _) (lc : Nat) (pbs : List Nat), i ≤ zs.length ∧ s36 = .int .i64 (i : Nat) ∧ pbs.length = i ∧ Hid (NewPorts wr w.heap.size zs (.slice la i lc) pbs) ∧ Hid (RowIs wr S 138 #[.int .u8 ((id.f 0).toNat : Int), .int .u8 ((id.f 1).toNat : Int), .int .u8 ((id.f 2).toNat : Int), .int .u8 ((id.f 3).toNat : Int), .int .u8 ((id.f 4).toNat : Int), .int .u8 ((id.f 5).toNat : Int), .int .u8 ((id.f 6).toNat : Int), .int .u8 ((id.f 7).toNat : Int), .int .i64 ma, .int .i64 he, .int .i64 de, .slice la i lc, .int .u8 0, .int .u8 0, .int .u8 0, .int .u8 0, .int .u8 0, .int .u8 0, .int .u8 0, .int .u8 0, .int .i64 0, .int .u8 0, .int .u8 0, .int .u8 0, .int .u8 0, .int .u8 0, .int .u8 0, .int .u8 0, .int .u8 0, .int .i64 0, .int .i64 (-1), .int .i64 0, .int .i64 0]) ∧ Below w.heap.size w wr) (fun s36 _ => zs.length - (intOf s36).toNat)
  case atStart => exact ⟨0, none, 0, [], Nat.zero_le _, rfl, rfl, ⟨World.ownsRow_nil _ _ _ _, List.nodup_nil, fun i hi => absurd hi (Nat.not_lt_zero _)⟩, RS, hbW2⟩
  case round =>
    clear RS hbW2
    rename World => wr
    obtain ⟨i, la, lc, pbs, hi, rfl, hpl, HN, RS, hbR⟩ := hrel
    by_cases hlt : i < zs.length
    · obtain ⟨b, off, rfl, hcell⟩ : ∃ b off, ao = some ⟨b, off, none⟩ ∧ wr.cell? ⟨b, off + i, none⟩ = some (.int .i64 (zs.getD i 0)) := by
        rcases HI.out.after hbR with h | ⟨b, off, h1, h2⟩
        · rw [h] at hlt
          exact absurd hlt (Nat.not_lt_zero _)
        · exact ⟨b, off, h1, h2 i hlt⟩
      have HC : Hid (zs.getD i 0 = zs.getD i 0) := rfl
      have HPN : Hid (∀ w' v b, w'.ownsRow w.heap.size 139 1 v (i + 1) (pbs.map ptrV ++ [ptrV b]) → (∀ j (h : j < pbs.length), RowIs w' pbs[j] 143 (SP.fresh (zs.getD j 0)).cells) → RowIs w' b 143 (SP.fresh (zs.getD i 0)).cells → w.heap.size ≤ b → (∀ x ∈ pbs, x < b) → NewPorts w' w.heap.size zs v (pbs ++ [b])) := by
        intro w' v b h1 h2 h3 h4 h5
        refine ⟨?_, nodup_snoc HN.out.nodup h5, fun j hj => ?_⟩
        · rw [List.map_append, List.length_append, hpl]
          exact h1
        · rw [List.length_append, List.length_singleton] at hj
          by_cases hjl : j < pbs.length
          · rw [List.getElem_append_left hjl]
            exact ⟨(HN.out.ports j hjl).1, h2 j hjl⟩
          · have e : j = pbs.length := by omega
            subst e
            rw [List.getElem_append_right (Nat.le_refl _)]
            simp only [Nat.sub_self, List.getElem_singleton]
            rw [hpl]
            exact ⟨h4, h3⟩
      have HLT : Hid (∀ x ∈ pbs, x < wr.heap.size) := by
        intro x hx
        obtain ⟨j, hj, rfl⟩ := List.mem_iff_getElem.1 hx
        exact (HN.out.ports j hj).2.lt
      have c11 : wr.cell? ⟨S, 11, none⟩ = some (.slice la i lc) := RS.out.cell 11
      have hbP : Below wr.heap.size wr (wr.alloc (.cells #[.int .i64 (zs.getD i 0), .bool false, .bool false, .int .u8 0, .int .u8 0, .int .u8 0, .int .u8 0, .int .u8 0, .int .u8 0, .int .u8 0, .int .u8 0, .int .u8 0, .int .u8 0, .int .u8 0, .int .u8 0, .int .u8 0, .int .u8 0, .int .u8 0, .int .u8 0, .int .i64 0, .int .i64 0, .int .i64 0, .int .i64 0, .int .i64 0, .int .i64 0, .bool false, .bool false, .int .i64 0, .int .i64 0, .int .i64 0] 143)) := (Below.refl _ _).alloc (Nat.le_refl _) _
      clear HC
      have HP1 := Lib.hid (rowIs_new wr 143 #[.int .i64 (zs.getD i 0), .bool false, .bool false, .int .u8 0, .int .u8 0, .int .u8 0, .int .u8 0, .int .u8 0, .int .u8 0, .int .u8 0, .int .u8 0, .int .u8 0, .int .u8 0, .int .u8 0, .int .u8 0, .int .u8 0, .int .u8 0, .int .u8 0, .int .u8 0, .int .i64 0, .int .i64 0, .int .i64 0, .int .i64 0, .int .i64 0, .int .i64 0, .bool false, .bool false, .int .i64 0, .int .i64 0, .int .i64 0])
      generalize zs.getD i 0 = c at *
      have hbQ : Below wr.heap.size wr ((wr.alloc (.cells #[.int .i64 c, .bool false, .bool false, .int .u8 0, .int .u8 0, .int .u8 0, .int .u8 0, .int .u8 0, .int .u8 0, .int .u8 0, .int .u8 0, .int .u8 0, .int .u8 0, .int .u8 0, .int .u8 0, .int .u8 0, .int .u8 0, .int .u8 0, .int .u8 0, .int .i64 0, .int .i64 0, .int .i64 0, .int .i64 0, .int .i64 0, .int .i64 0, .bool false, .bool false, .int .i64 0, .int .i64 0, .int .i64 0] 143)).alloc (.cells #[ptrV wr.heap.size] 139)) := hbP.alloc (by simp) _
      have RQ : Hid (RowIs ((wr.alloc (.cells #[.int .i64 c, .bool false, .bool false, .int .u8 0, .int .u8 0, .int .u8 0, .int .u8 0, .int .u8 0, .int .u8 0, .int .u8 0, .int .u8 0, .int .u8 0, .int .u8 0, .int .u8 0, .int .u8 0, .int .u8 0, .int .u8 0, .int .u8 0, .int .u8 0, .int .i64 0, .int .i64 0, .int .i64 0, .int .i64 0, .int .i64 0, .int .i64 0, .bool false, .bool false, .int .i64 0, .int .i64 0, .int .i64 0] 143)).alloc (.cells #[ptrV wr.heap.size] 139)) (wr.heap.size + 1) 139 #[ptrV wr.heap.size]) := rowIs_new1 wr _ _ _
      have RP : Hid (RowIs ((wr.alloc (.cells #[.int .i64 c, .bool false, .bool false, .int .u8 0, .int .u8 0, .int .u8 0, .int .u8 0, .int .u8 0, .int .u8 0, .int .u8 0, .int .u8 0, .int .u8 0, .int .u8 0, .int .u8 0, .int .u8 0, .int .u8 0, .int .u8 0, .int .u8 0, .int .u8 0, .int .i64 0, .int .i64 0, .int .i64 0, .int .i64 0, .int .i64 0, .int .i64 0, .bool false, .bool false, .int .i64 0, .int .i64 0, .int .i64 0] 143)).alloc (.cells #[ptrV wr.heap.size] 139)) wr.heap.size 143 #[.int .i64 c, .bool false, .bool false, .int .u8 0, .int .u8 0, .int .u8 0, .int .u8 0, .int .u8 0, .int .u8 0, .int .u8 0, .int .u8 0, .int .u8 0, .int .u8 0, .int .u8 0, .int .u8 0, .int .u8 0, .int .u8 0, .int .u8 0, .int .u8 0, .int .i64 0, .int .i64 0, .int .i64 0, .int .i64 0, .int .i64 0, .int .i64 0, .bool false, .bool false, .int .i64 0, .int .i64 0, .int .i64 0]) := HP1.out.alloc _
      have HOWN := Lib.hid (ownsLater' HN.out.own hbQ)
      have hbQW := hbR.trans (hbQ.mono hbR.size)
      have hszQ : w.heap.size ≤ ((wr.alloc (.cells #[.int .i64 c, .bool false, .bool false, .int .u8 0, .int .u8 0, .int .u8 0, .int .u8 0, .int .u8 0, .int .u8 0, .int .u8 0, .int .u8 0, .int .u8 0, .int .u8 0, .int .u8 0, .int .u8 0, .int .u8 0, .int .u8 0, .int .u8 0, .int .u8 0, .int .i64 0, .int .i64 0, .int .i64 0, .int .i64 0, .int .i64 0, .int .i64 0, .bool false, .bool false, .int .i64 0, .int .i64 0, .int .i64 0] 143)).alloc (.cells #[ptrV wr.heap.size] 139)).heap.size := hbQW.size
      have hszr : w.heap.size ≤ wr.heap.size := hbR.size
      have RSQ := Lib.hid (RS.out.kept hbQ)
      have HPQ : Hid (∀ j (h : j < pbs.length), RowIs ((wr.alloc (.cells #[.int .i64 c, .bool false, .bool false, .int .u8 0, .int .u8 0, .int .u8 0, .int .u8 0, .int .u8 0, .int .u8 0, .int .u8 0, .int .u8 0, .int .u8 0, .int .u8 0, .int .u8 0, .int .u8 0, .int .u8 0, .int .u8 0, .int .u8 0, .int .u8 0, .int .i64 0, .int .i64 0, .int .i64 0, .int .i64 0, .int .i64 0, .int .i64 0, .bool false, .bool false, .int .i64 0, .int .i64 0, .int .i64 0] 143)).alloc (.cells #[ptrV wr.heap.size] 139)) pbs[j] 143 (SP.fresh (zs.getD j 0)).cells) := fun j hj => (HN.out.ports j hj).2.kept hbQ
      rw [hpl] at HOWN
      clear hbP HP1 hbQ HN
      go_wp2_with (at_builtin; refine wpList_append_own _ rfl (.tmp 44) (.tmp 48) 134 rfl w.heap.size 139 ti tz 1 8 Tryz.underlying134 HIN.out HZ.out hi1 hi2 hi3 (by decide) (.slice la i lc) i (pbs.map ptrV) rfl HOWN.out ⟨wr.heap.size + 1, 0, none⟩ 1 1 [ptrV wr.heap.size] rfl ?c0 ?c1 ?c2 ?c3 ?c4 ?c5 ?_)
      case c1 =>
        intro j u hj
        exact hj
      case c2 => rfl
      case c3 => simp [maxLen]; omega
      case c4 => omega
      case c5 => first | omega | (simp; omega)
      intro v' w4 ho4 hg4 _
      obtain ⟨g2, cap2, rfl, _, _⟩ := ho4.form (by omega)
      have RS4 := Lib.hid (RSQ.out.grown hg4 (grown_ne HOWN.out RSQ.out (by decide)))
      have RP4 := Lib.hid (RP.out.grown hg4 (grown_ne HOWN.out RP.out (by decide)))
      have HPW4 : Hid (∀ j (h : j < pbs.length), RowIs w4 pbs[j] 143 (SP.fresh (zs.getD j 0)).cells) := fun j hj => (HPQ.out j hj).grown hg4 (grown_ne HOWN.out (HPQ.out j hj) (by decide))
      have HO4 := Lib.hid ho4
      have hb4 : Below w.heap.size w w4 := hbQW.grown hg4 hszQ (fun k e1 => (HOWN.out.lt k e1).1)
      clear ho4 hg4 RSQ RP RQ HPQ HOWN hbQW hszQ hbR RS c11
      go_wp2_with ((with_reducible refine at_store 134 (.tmp 51) (.tmp 49) ?_); refine wpList_store_cell rfl 134 (.tmp 51) (.tmp 49) rfl S 11 _ rfl rfl 138 _ RS4.out (show 11 < 33 by decide) (by kernel_rfl) rfl w.heap.size hS ?_)
      intro w5 hR5 ho5 hs5 hb5
      have RS5 : Hid (RowIs w5 S 138 #[.int .u8 ((id.f 0).toNat : Int), .int .u8 ((id.f 1).toNat : Int), .int .u8 ((id.f 2).toNat : Int), .int .u8 ((id.f 3).toNat : Int), .int .u8 ((id.f 4).toNat : Int), .int .u8 ((id.f 5).toNat : Int), .int .u8 ((id.f 6).toNat : Int), .int .u8 ((id.f 7).toNat : Int), .int .i64 ma, .int .i64 he, .int .i64 de, .slice (some ⟨g2, 0, none⟩) (i + 1) cap2, .int .u8 0, .int .u8 0, .int .u8 0, .int .u8 0, .int .u8 0, .int .u8 0, .int .u8 0, .int .u8 0, .int .i64 0, .int .u8 0, .int .u8 0, .int .u8 0, .int .u8 0, .int .u8 0, .int .u8 0, .int .u8 0, .int .u8 0, .int .i64 0, .int .i64 (-1), .int .i64 0, .int .i64 0]) := hR5
      have hNE : ∀ k t' cs', RowIs w4 k t' cs' → t' ≠ 138 → k ≠ S := fun k t' cs' h1 h2 => rowIs_ne h1 RS4.out h2
      have HN5 : Hid (NewPorts w5 w.heap.size zs (.slice (some ⟨g2, 0, none⟩) (i + 1) cap2) (pbs ++ [wr.heap.size])) := by
        refine HPN.out w5 _ _ ?_ (fun j hj => rowIs_same (HPW4.out j hj) (ho5 _ (hNE _ _ _ (HPW4.out j hj) (by decide)))) (rowIs_same RP4.out (ho5 _ (hNE _ _ _ RP4.out (by decide)))) hszr HLT.out
        refine ⟨HO4.out.1, ?_⟩
        rcases HO4.out.2 with ⟨e1, _⟩ | ⟨g', c', cur, e1, h1, h2, h3⟩
        · cases e1
        · exact .inr ⟨g', c', cur, e1, h1, (ho5 g' (hNE g' _ _ h2 (by decide))).trans h2, h3⟩
      have hb5 := hb4.trans hb5
      clear hR5 ho5 hs5 hNE HPN HPW4 RP4 RS4 HO4 hb4 HLT
      go_wp2_with fail
      refine ⟨⟨i + 1, some ⟨g2, 0, none⟩, cap2, pbs ++ [wr.heap.size], by omega, by go_num, by rw [List.length_append, List.length_singleton, hpl], HN5, RS5, hb5⟩, by simp [intOf]; omega⟩
    · obtain rfl : i = zs.length := by omega
      obtain ⟨g2, rfl⟩ : ∃ g2, la = some ⟨g2, 0, none⟩ := by
        rcases HN.out.own.2 with ⟨_, e0⟩ | ⟨g', c', cur, e1, _⟩
        · omega
        · simp only [Value.slice.injEq] at e1
          exact ⟨g', e1.1⟩
      have HSP : Hid (SpAt w.heap.size S g2 lc pbs wr (SS.fresh id zs ma he de)) := by
        have hn := HN.out
        rw [← hpl] at hn
        exact hn.spAt hpl hS RS.out
      have HFO := Lib.hid (found_any _ S g2 lc pbs wr _ HSP.out (by omega) (show (0 : Int) ≤ 0 ∧ (0 : Int) ≤ 999990000 by decide))
      clear hpl
      go_wp2_with fail
      refine HFO.out.mono ?_
      rintro e w6 ⟨rfl, hA6, hb6, _⟩
      have HA6 := Lib.hid hA6
      have hbF := hbR.trans hb6
      clear hA6 hb6 HFO HSP HN RS hbR
      go_wp2_with fail
      go_ret2
      exact ⟨S, g2, lc, pbs, rfl, HA6.out, hbF⟩
end SpN
end Go.Proofs.YthfckdnennfnoaaGreatDoor
