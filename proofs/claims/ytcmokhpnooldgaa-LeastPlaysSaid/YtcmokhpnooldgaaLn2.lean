/- Costs, and ports that there are. By an AI agent. -/
import Derived.Test.YtcmokhpnooldgaaLn1
namespace Go.Proofs.Ytcmokhpnooldgaa
open Go.RowKit Go.WideShapes Go.Sort Grow

def okCost (n : Int) : Bool := decide (1 ≤ n ∧ n ≤ 65535)
def badCost (zs : List Int) : Bool := !zs.all okCost
theorem lnCost_any (n : Int) (w : World) : Calls Try.prog 51 #[.int .i64 n] w fun e w' => e = .returned (.bool (!okCost n)) ∧ w = w' := by
  rcases Int.lt_or_le n 1 with h | h
  · have e : (!okCost n) = true := by simp [okCost]; omega
    go_enter Try.func51, Try.ntmps51
    go_wp2_with fail
    go_ret
    exact ⟨by rw [e]; rfl, rfl⟩
  · rcases Int.lt_or_le 65535 n with h1 | h1
    · have e : (!okCost n) = true := by simp [okCost]; omega
      have g1 : decide (n < 1) = false := decide_eq_false (by omega)
      go_enter Try.func51, Try.ntmps51
      go_wp2_with fail
      go_ret
      exact ⟨by rw [e]; rfl, rfl⟩
    · have e : (!okCost n) = false := by simp [okCost]; omega
      have g1 : decide (n < 1) = false := decide_eq_false (by omega)
      have g2 : decide (65535 < n) = false := decide_eq_false (by omega)
      go_enter Try.func51, Try.ntmps51
      go_wp2_with fail
      go_ret
      exact ⟨by rw [e]; rfl, rfl⟩
theorem lnGetD_mem {zs : List Int} {k : Nat} (h : k < zs.length) : zs.getD k 0 ∈ zs := by rw [List.getD, List.getElem?_eq_getElem h]; exact List.getElem_mem h

set_option maxRecDepth 20000 in
set_option maxHeartbeats 1000000 in
theorem lnIndex_any (ao : Option Addr) (zs : List Int) (cap : Nat) (w : World) (h : IntsAt w ao zs) (hz : zs.length ≤ 1000000) :
    Calls Try.prog 56 #[.slice ao zs.length cap, .func (.func 51) #[] #[]] w fun e w' => (∃ r : Int, e = .returned (.int .i64 r) ∧ -1 ≤ r ∧ r ≤ 1000000 ∧ (0 ≤ r ↔ badCost zs = true)) ∧ w = w' := by
  rcases h with rfl | ⟨b, off, rfl, hc⟩
  · go_enter Try.func56, Try.ntmps56
    go_wp2
    refine wp_loop_rounds 1 ?_
    rw [rounds_succ]
    go_wp2
    go_ret
    exact ⟨⟨-1, rfl, by omega, by omega, by simp [badCost]⟩, rfl⟩
  · have HC := Lib.hid hc
    clear hc
    go_enter Try.func56, Try.ntmps56
    go_wp2
    go_loop [8] (fun i => ∃ k : Nat, k ≤ zs.length ∧ i = .int .i64 k ∧ Hid (∀ j, j < k → okCost (zs.getD j 0) = true)) (fun i => zs.length - (intOf i).toNat)
    case atStart => exact ⟨0, Nat.zero_le _, rfl, fun j hj => absurd hj (Nat.not_lt_zero _)⟩
    case round =>
      obtain ⟨k, hk, rfl, HN⟩ := hrel
      by_cases hlt : k < zs.length
      · have hcell := HC.out k hlt
        have HV := Lib.hid (lnGetD_mem hlt)
        have DX := Lib.hid (lnCost_any (zs.getD k 0) w)
        have HE : Hid (∀ j, j < k + 1 → okCost (zs.getD k 0) = true → okCost (zs.getD j 0) = true) := fun j hj h => by
          rcases Nat.lt_or_eq_of_le (Nat.le_of_lt_succ hj) with h1 | rfl
          · exact HN.out j h1
          · exact h
        generalize zs.getD k 0 = x at *
        cases hx : okCost x
        · rw [hx] at DX
          go_wp2_with fail
          refine DX.out.mono ?_
          rintro e w1 ⟨rfl, rfl⟩
          go_wp2_with fail
          go_ret
          refine ⟨⟨k, rfl, by omega, by omega, fun _ => ?_, fun _ => by omega⟩, rfl⟩
          unfold badCost
          cases hall : zs.all okCost
          · rfl
          · have := List.all_eq_true.1 hall x HV.out
            rw [hx] at this
            cases this
        · rw [hx] at DX
          go_wp2_with fail
          refine DX.out.mono ?_
          rintro e w1 ⟨rfl, rfl⟩
          go_wp2_with fail
          exact ⟨⟨k + 1, by omega, by go_num, fun j hj => HE.out j hj hx⟩, by simp [intOf]; omega⟩
      · go_wp2_with fail
        go_ret
        refine ⟨⟨-1, rfl, by omega, by omega, fun h => by omega, fun h => ?_⟩, rfl⟩
        exfalso
        unfold badCost at h
        rw [List.all_eq_true.2 fun x hx => ?_] at h
        · cases h
        obtain ⟨j, hj, rfl⟩ := List.mem_iff_getElem.1 hx
        have := HN.out j (by omega)
        rwa [List.getD, List.getElem?_eq_getElem hj] at this

theorem lnContains_any (ao : Option Addr) (zs : List Int) (cap : Nat) (w : World) (h : IntsAt w ao zs) (hz : zs.length ≤ 1000000) :
    Calls Try.prog 43 #[.slice ao zs.length cap, .func (.func 51) #[] #[]] w fun e w' => e = .returned (.bool (badCost zs)) ∧ w = w' := by
  have HX := Lib.hid (lnIndex_any ao zs cap w h hz)
  clear h
  cases hb : badCost zs
  all_goals
    rw [hb] at HX
    go_enter Try.func43, Try.ntmps43
    go_wp2_with fail
    refine HX.out.mono ?_
    rintro e w1 ⟨⟨r, rfl, h1, h2, h3⟩, rfl⟩
  · have h4 : ¬ 0 ≤ r := by simpa using h3
    have h5 : decide (0 ≤ r) = false := decide_eq_false h4
    clear h3 h4
    go_wp2_with fail
    go_ret
    exact ⟨rfl, rfl⟩
  · have h4 : 0 ≤ r := by simpa using h3
    have h5 : decide (0 ≤ r) = true := decide_eq_true h4
    clear h3
    go_wp2_with fail
    go_ret
    exact ⟨rfl, rfl⟩



def okCosts (zs : List Int) : Bool := decide (zs.length ≤ 32) && zs.all okCost
theorem costs18 (ao : Option Addr) (zs : List Int) (cap : Nat) (w : World) (h : IntsAt w ao zs) :
    Calls Try.prog 27 #[.slice ao zs.length cap] w fun e w' => e = .returned (.bool (okCosts zs)) ∧ w = w' := by
  by_cases h0 : zs.length ≤ 32
  · have HC := Lib.hid (lnContains_any ao zs cap w h (by omega))
    have d0 : decide ((zs.length : Int) ≤ 32) = true := decide_eq_true (by omega)
    have e : okCosts zs = !badCost zs := by unfold okCosts badCost; rw [decide_eq_true h0]; simp
    clear h
    cases hb : badCost zs
    all_goals
      rw [hb] at HC e
      rw [e]
      go_enter Try.func27, Try.ntmps27
      go_wp2_with fail
      refine HC.out.mono ?_
      rintro e w1 ⟨rfl, rfl⟩
      go_wp2_with fail
      go_ret
      exact ⟨rfl, rfl⟩
  · have d0 : decide ((zs.length : Int) ≤ 32) = false := decide_eq_false (by omega)
    have e : okCosts zs = false := by unfold okCosts; rw [decide_eq_false h0]; rfl
    rw [e]
    clear h
    go_enter Try.func27, Try.ntmps27
    go_wp2_with fail
    go_ret
    exact ⟨rfl, rfl⟩

/-- is there a port? -/
def LN.has (N : LN) (b p : Int) : Bool := decide (0 ≤ b) && (decide (b < (N.costs.length : Int)) && (decide (0 ≤ p) && decide (p < ((N.cs b.toNat).length : Int))))
theorem LN.has_iff {N : LN} {b p : Int} : N.has b p = true ↔ 0 ≤ b ∧ b < N.costs.length ∧ 0 ≤ p ∧ p < (N.cs b.toNat).length := by simp [LN.has]

set_option maxRecDepth 20000 in
set_option maxHeartbeats 2000000 in
theorem is18 (v : NV) (N : LN) (b p : Int) (w : World) (h : NetAt w v N) : Calls Try.prog 28 #[.agg #[.slice v.ai N.ids.length v.ci, .slice v.ac N.costs.length v.cc, .slice v.al N.links.length v.cl], .agg #[.int .i64 b, .int .i64 p]] w fun e w' => e = .returned (.bool (N.has b p)) ∧ Below w.heap.size w w' := by
  have HN := Lib.hid h
  have HH : Hid (N.has b p = (decide (0 ≤ b) && (decide (b < (N.costs.length : Int)) && (decide (0 ≤ p) && decide (p < ((N.cs b.toNat).length : Int)))))) := rfl
  clear h
  go_enter Try.func28, Try.ntmps28
  go_upto_region 1 with fail
  generalize hW : (w.alloc _).alloc _ = w1
  have hbW : Below w.heap.size w w1 := by rw [← hW]; exact ((Below.refl _ _).alloc (Nat.le_refl _) _).alloc (by simp) _
  have R0 : Hid (RowIs w1 w.heap.size 32 #[.slice v.ai N.ids.length v.ci, .slice v.ac N.costs.length v.cc, .slice v.al N.links.length v.cl]) := by subst hW; exact (rowIs_new w _ _).alloc _
  have R1 : Hid (RowIs w1 (w.heap.size + 1) 63 #[.int .i64 b, .int .i64 p]) := by subst hW; exact rowIs_new1 w _ _ _
  clear hW
  have c1 : w1.cell? ⟨w.heap.size, 1, none⟩ = some (.slice v.ac N.costs.length v.cc) := R0.out.cell 1
  have k0 : w1.cell? ⟨w.heap.size + 1, 0, none⟩ = some (.int .i64 b) := R1.out.cell 0
  have k1 : w1.cell? ⟨w.heap.size + 1, 1, none⟩ = some (.int .i64 p) := R1.out.cell 1
  cases d0 : decide (0 ≤ b)
  · have e : N.has b p = false := by rw [HH.out, d0]; rfl
    go_quiet (fail)
    go_wp2_with fail
    go_ret
    rw [e]
    exact ⟨rfl, below_drewN hbW _⟩
  cases d1 : decide (b < (N.costs.length : Int))
  · have e : N.has b p = false := by rw [HH.out, d0, d1]; rfl
    go_quiet (fail)
    go_wp2_with fail
    go_ret
    rw [e]
    exact ⟨rfl, below_drewN hbW _⟩
  cases d2 : decide (0 ≤ p)
  · have e : N.has b p = false := by rw [HH.out, d0, d1, d2]; rfl
    go_quiet (fail)
    go_wp2_with fail
    go_ret
    rw [e]
    exact ⟨rfl, below_drewN hbW _⟩
  rw [d0, d1, d2] at HH
  have h0 := of_decide_eq_true d0
  have h1 := of_decide_eq_true d1
  obtain ⟨k, rfl⟩ := Int.eq_ofNat_of_zero_le h0
  obtain ⟨bl, off, ai, ci, e1, hc, -⟩ := (HN.out.kept hbW).cs (show k < N.costs.length by omega)
  rw [e1] at c1
  clear e1
  rw [Int.toNat_natCast] at HH
  generalize N.cs k = zs at *
  cases d3 : decide (p < (zs.length : Int))
  all_goals
    rw [d3] at HH
    go_quiet (fail)
    go_wp2_with fail
    go_ret
    rw [HH.out]
    exact ⟨rfl, below_drewN hbW _⟩

set_option maxRecDepth 20000 in
set_option maxHeartbeats 2000000 in
theorem has18 (v : NV) (N : LN) (b p : Int) (w : World) (h : NetAt w v N) : Calls Try.prog 36 #[.agg #[.slice v.ai N.ids.length v.ci, .slice v.ac N.costs.length v.cc, .slice v.al N.links.length v.cl], .int .i64 b, .int .i64 p] w fun e w' => e = .returned (.bool (N.has b p)) ∧ Below w.heap.size w w' := by
  have HN := Lib.hid h
  have HH : Hid (N.has b p = (decide (0 ≤ b) && (decide (b < (N.costs.length : Int)) && (decide (0 ≤ p) && decide (p < ((N.cs b.toNat).length : Int)))))) := rfl
  clear h
  go_enter Try.func36, Try.ntmps36
  go_upto_region 1 with fail
  generalize hW : w.alloc _ = w1
  have hbW : Below w.heap.size w w1 := by rw [← hW]; exact (Below.refl _ _).alloc (Nat.le_refl _) _
  have R0 : Hid (RowIs w1 w.heap.size 26 #[.slice v.ai N.ids.length v.ci, .slice v.ac N.costs.length v.cc, .slice v.al N.links.length v.cl]) := by subst hW; exact rowIs_new w _ _
  clear hW
  have c1 : w1.cell? ⟨w.heap.size, 1, none⟩ = some (.slice v.ac N.costs.length v.cc) := R0.out.cell 1
  cases d0 : decide (0 ≤ b)
  · have e : N.has b p = false := by rw [HH.out, d0]; rfl
    skip
    go_wp2_with fail
    go_ret
    rw [e]
    exact ⟨rfl, hbW⟩
  cases d1 : decide (b < (N.costs.length : Int))
  · have e : N.has b p = false := by rw [HH.out, d0, d1]; rfl
    skip
    go_wp2_with fail
    go_ret
    rw [e]
    exact ⟨rfl, hbW⟩
  cases d2 : decide (0 ≤ p)
  · have e : N.has b p = false := by rw [HH.out, d0, d1, d2]; rfl
    skip
    go_wp2_with fail
    go_ret
    rw [e]
    exact ⟨rfl, hbW⟩
  rw [d0, d1, d2] at HH
  have h0 := of_decide_eq_true d0
  have h1 := of_decide_eq_true d1
  obtain ⟨k, rfl⟩ := Int.eq_ofNat_of_zero_le h0
  obtain ⟨bl, off, ai, ci, e1, hc, -⟩ := (HN.out.kept hbW).cs (show k < N.costs.length by omega)
  rw [e1] at c1
  clear e1
  rw [Int.toNat_natCast] at HH
  generalize N.cs k = zs at *
  cases d3 : decide (p < (zs.length : Int))
  all_goals
    rw [d3] at HH
    skip
    go_wp2_with fail
    go_ret
    rw [HH.out]
    exact ⟨rfl, hbW⟩
end Go.Proofs.Ytcmokhpnooldgaa
