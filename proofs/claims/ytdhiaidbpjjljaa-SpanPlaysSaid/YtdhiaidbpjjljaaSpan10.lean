/- span: right, New. By an AI agent. -/
import Derived.Test.YtdhiaidbpjjljaaSpan9
import Derived.Test.YtdhiaidbpjjljaaInts
import Derived.Laws.AppendOwn
import Derived.Laws.AppendOwnNone
namespace Go.Proofs.Ytdhiaidbpjjljaa
open Go.RowKit Go.WideShapes Go.Sort Grow

abbrev I64v (n : Int) : Value := .int .i64 n
def okLim (n : Int) : Bool := decide (1 ≤ n ∧ n ≤ 65535)

def anyBad (zs : List Int) : Bool := !zs.all okLim

theorem newC_any (n : Int) (w : World) : Calls Try.prog 24 #[.int .i64 n] w fun e w' => e = .returned (.bool (!okLim n)) ∧ w = w' := by
  rcases Int.lt_or_le n 1 with h | h
  · have e : (!okLim n) = true := by simp [okLim]; omega
    go_enter Try.func24, Try.ntmps24
    go_wp2_with fail
    go_ret
    exact ⟨by rw [e]; rfl, rfl⟩
  · rcases Int.lt_or_le 65535 n with h1 | h1
    · have e : (!okLim n) = true := by simp [okLim]; omega
      have g1 : decide (n < 1) = false := decide_eq_false (by omega)
      go_enter Try.func24, Try.ntmps24
      go_wp2_with fail
      go_ret
      exact ⟨by rw [e]; rfl, rfl⟩
    · have e : (!okLim n) = false := by simp [okLim]; omega
      have g1 : decide (n < 1) = false := decide_eq_false (by omega)
      have g2 : decide (65535 < n) = false := decide_eq_false (by omega)
      go_enter Try.func24, Try.ntmps24
      go_wp2_with fail
      go_ret
      exact ⟨by rw [e]; rfl, rfl⟩

theorem getD_mem' {zs : List Int} {k : Nat} (h : k < zs.length) : zs.getD k 0 ∈ zs := by rw [List.getD, List.getElem?_eq_getElem h]; exact List.getElem_mem h

set_option maxRecDepth 20000 in
set_option maxHeartbeats 1000000 in
theorem indexL_any (ao : Option Addr) (zs : List Int) (cap : Nat) (w : World) (h : IntsAt w ao zs) (hz : zs.length ≤ 1000000) :
    Calls Try.prog 44 #[.slice ao zs.length cap, .func (.func 24) #[] #[]] w fun e w' => (∃ r : Int, e = .returned (.int .i64 r) ∧ -1 ≤ r ∧ r ≤ 1000000 ∧ (0 ≤ r ↔ anyBad zs = true)) ∧ w = w' := by
  rcases h with rfl | ⟨b, off, rfl, hc⟩
  · go_enter Try.func44, Try.ntmps44
    go_wp2
    refine wp_loop_rounds 1 ?_
    rw [rounds_succ]
    go_wp2
    go_ret
    exact ⟨⟨-1, rfl, by omega, by omega, by simp [anyBad]⟩, rfl⟩
  · have HC := Lib.hid hc
    clear hc
    go_enter Try.func44, Try.ntmps44
    go_wp2
    go_loop [8] (fun i => ∃ k : Nat, k ≤ zs.length ∧ i = .int .i64 k ∧ Hid (∀ j, j < k → okLim (zs.getD j 0) = true)) (fun i => zs.length - (intOf i).toNat)
    case atStart => exact ⟨0, Nat.zero_le _, rfl, fun j hj => absurd hj (Nat.not_lt_zero _)⟩
    case round =>
      obtain ⟨k, hk, rfl, HN⟩ := hrel
      by_cases hlt : k < zs.length
      · have hcell := HC.out k hlt
        have HV := Lib.hid (getD_mem' hlt)
        have DX := Lib.hid (newC_any (zs.getD k 0) w)
        have HE : Hid (∀ j, j < k + 1 → okLim (zs.getD k 0) = true → okLim (zs.getD j 0) = true) := fun j hj h => by
          rcases Nat.lt_or_eq_of_le (Nat.le_of_lt_succ hj) with h1 | rfl
          · exact HN.out j h1
          · exact h
        generalize zs.getD k 0 = x at *
        cases hx : okLim x
        · rw [hx] at DX
          go_wp2_with fail
          refine DX.out.mono ?_
          rintro e w1 ⟨rfl, rfl⟩
          go_wp2_with fail
          go_ret
          refine ⟨⟨k, rfl, by omega, by omega, fun _ => ?_, fun _ => by omega⟩, rfl⟩
          unfold anyBad
          cases hall : zs.all okLim
          · rfl
          · have := List.all_eq_true.1 hall x HV.out
            rw [hx] at this
            cases this
        · rw [hx] at DX
          go_wp2_with fail
          refine DX.out.mono ?_
          rintro e w1 ⟨rfl, rfl⟩
          go_wp2_with fail
          exact ⟨⟨k + 1, by omega, by go_num, fun j hj => HE.out j hj hx⟩, by simp [intOf]; omega⟩
      · go_wp2_with fail
        go_ret
        refine ⟨⟨-1, rfl, by omega, by omega, fun h => by omega, fun h => ?_⟩, rfl⟩
        exfalso
        unfold anyBad at h
        rw [List.all_eq_true.2 fun x hx => ?_] at h
        · cases h
        obtain ⟨j, hj, rfl⟩ := List.mem_iff_getElem.1 hx
        have := HN.out j (by omega)
        rwa [List.getD, List.getElem?_eq_getElem hj] at this

theorem containsL_any (ao : Option Addr) (zs : List Int) (cap : Nat) (w : World) (h : IntsAt w ao zs) (hz : zs.length ≤ 1000000) :
    Calls Try.prog 26 #[.slice ao zs.length cap, .func (.func 24) #[] #[]] w fun e w' => e = .returned (.bool (anyBad zs)) ∧ w = w' := by
  have HX := Lib.hid (indexL_any ao zs cap w h hz)
  clear h
  cases hb : anyBad zs
  all_goals
    rw [hb] at HX
    go_enter Try.func26, Try.ntmps26
    go_wp2_with fail
    refine HX.out.mono ?_
    rintro e w1 ⟨⟨r, rfl, h1, h2, h3⟩, rfl⟩
  · have h4 : ¬ 0 ≤ r := by simpa using h3
    have h5 : decide (0 ≤ r) = false := decide_eq_false h4
    clear h3 h4
    go_wp2_with fail
    go_ret
    exact ⟨rfl, rfl⟩
  · have h4 : 0 ≤ r := by simpa using h3
    have h5 : decide (0 ≤ r) = true := decide_eq_true h4
    clear h3
    go_wp2_with fail
    go_ret
    exact ⟨rfl, rfl⟩


def rightT (ma he de : Int) : Bool := decide (1 ≤ he) && (decide (he ≤ 100) && (decide (2 * he < ma) && (decide (ma ≤ 1000) && (decide (1 ≤ de) && decide (de ≤ 1000)))))

set_option maxRecDepth 20000 in
set_option maxHeartbeats 2000000 in
theorem right_any (ma he de : Int) (w : World) : Calls Try.prog 25 #[.agg #[.int .i64 ma, .int .i64 he, .int .i64 de]] w fun e w' => e = .returned (.bool (rightT ma he de)) ∧ Below w.heap.size w w' := by
  unfold rightT
  cases h0 : decide (1 ≤ he)
  · go_enter Try.func25, Try.ntmps25
    go_wp2_with fail
    go_ret
    exact ⟨rfl, (Below.refl _ _).alloc (Nat.le_refl _) _⟩
  · have b0 := of_decide_eq_true h0
    cases h1 : decide (he ≤ 100)
    · go_enter Try.func25, Try.ntmps25
      go_wp2_with fail
      go_ret
      exact ⟨rfl, (Below.refl _ _).alloc (Nat.le_refl _) _⟩
    · have b1 := of_decide_eq_true h1
      cases h2 : decide (2 * he < ma)
      · go_enter Try.func25, Try.ntmps25
        go_wp2_with fail
        go_ret
        exact ⟨rfl, (Below.refl _ _).alloc (Nat.le_refl _) _⟩
      · have b2 := of_decide_eq_true h2
        cases h3 : decide (ma ≤ 1000)
        · go_enter Try.func25, Try.ntmps25
          go_wp2_with fail
          go_ret
          exact ⟨rfl, (Below.refl _ _).alloc (Nat.le_refl _) _⟩
        · have b3 := of_decide_eq_true h3
          cases h4 : decide (1 ≤ de)
          · go_enter Try.func25, Try.ntmps25
            go_wp2_with fail
            go_ret
            exact ⟨rfl, (Below.refl _ _).alloc (Nat.le_refl _) _⟩
          · have b4 := of_decide_eq_true h4
            cases h5 : decide (de ≤ 1000)
            · go_enter Try.func25, Try.ntmps25
              go_wp2_with fail
              go_ret
              exact ⟨rfl, (Below.refl _ _).alloc (Nat.le_refl _) _⟩
            · have b5 := of_decide_eq_true h5
              go_enter Try.func25, Try.ntmps25
              go_wp2_with fail
              go_ret
              exact ⟨rfl, (Below.refl _ _).alloc (Nat.le_refl _) _⟩

def SP.fresh (c : Int) : SP := ⟨c, false, false, .zero, 0, 0, 0⟩
def SS.fresh (id : Id8) (zs : List Int) (ma he de : Int) : SS := ⟨id, ma, he, de, zs.map SP.fresh, ⟨.zero, 0, .zero, 0⟩, -1, 0, 0⟩
def newOk (zs : List Int) (ma he de : Int) : Bool := rightT ma he de && (decide (1 ≤ zs.length) && (decide (zs.length ≤ 32) && !anyBad zs))
theorem info_pport : ∃ i z, Try.prog.info? 83 = some i ∧ i.zero = some z ∧ i.size = 1 ∧ i.bytes = 8 ∧ z.cells.size = 1 := by
  have h : (Try.prog.info? 83).map (fun i => (i.zero.map (·.cells.size), i.size, i.bytes)) = some (some 1, 1, 8) := by kernel_rfl
  obtain ⟨i, hi, h⟩ := Option.map_eq_some_iff.1 h
  simp only [Prod.mk.injEq] at h
  obtain ⟨z, hz, h18⟩ := Option.map_eq_some_iff.1 h.1
  exact ⟨i, z, hi, hz, h.2.1, h.2.2, h18⟩

set_option maxRecDepth 20000 in
set_option maxHeartbeats 4000000 in
theorem new_bad (id : Id8) (ao : Option Addr) (zs : List Int) (cap : Nat) (ma he de : Int) (w : World) (h : IntsAt w ao zs) (hz : zs.length ≤ 1000000) (hb : newOk zs ma he de = false) :
    Calls Try.prog 7 #[.agg #[.int .u8 ((id.f 0).toNat : Int), .int .u8 ((id.f 1).toNat : Int), .int .u8 ((id.f 2).toNat : Int), .int .u8 ((id.f 3).toNat : Int), .int .u8 ((id.f 4).toNat : Int), .int .u8 ((id.f 5).toNat : Int), .int .u8 ((id.f 6).toNat : Int), .int .u8 ((id.f 7).toNat : Int)], .slice ao zs.length cap, .agg #[.int .i64 ma, .int .i64 he, .int .i64 de]] w fun e w' => e = .returned (.tuple #[.pointer none, .int .i64 1]) ∧ Below w.heap.size w w' := by
  have HI := Lib.hid h
  have HZ := Lib.hid hz
  have C1 := Lib.hid (fun w => right_any ma he de w)
  have C2 := Lib.hid (fun (w' : World) (hb : Below w.heap.size w w') => containsL_any ao zs cap w' (h.after hb) hz)
  unfold newOk at hb
  clear h
  generalize rightT ma he de = b1 at *
  generalize anyBad zs = b4 at *
  have key : b1 = false ∨ b1 = true ∧ zs.length < 1 ∨ b1 = true ∧ 1 ≤ zs.length ∧ 32 < zs.length ∨ b1 = true ∧ 1 ≤ zs.length ∧ zs.length ≤ 32 ∧ b4 = true := by
    cases b1
    · exact .inl rfl
    · right
      simp only [Bool.true_and, Bool.and_eq_false_iff, decide_eq_false_iff_not, Bool.not_eq_false'] at hb
      rcases hb with hb | hb | hb
      · exact .inl ⟨rfl, by omega⟩
      · by_cases h1 : 1 ≤ zs.length
        · exact .inr (.inl ⟨rfl, h1, by omega⟩)
        · exact .inl ⟨rfl, by omega⟩
      · by_cases h1 : 1 ≤ zs.length
        · by_cases h2 : zs.length ≤ 32
          · exact .inr (.inr ⟨rfl, h1, h2, hb⟩)
          · exact .inr (.inl ⟨rfl, h1, by omega⟩)
        · exact .inl ⟨rfl, by omega⟩
  clear hb
  go_enter Try.func7, Try.ntmps7
  go_upto_region 2 with fail
  generalize hW : (w.alloc _).alloc _ = W
  have hbW : Below w.heap.size w W := by rw [← hW]; exact ((Below.refl _ _).alloc (Nat.le_refl _) _).alloc (by simp) _
  have RT : Hid (RowIs W (w.heap.size + 1) 32 #[.int .i64 ma, .int .i64 he, .int .i64 de]) := by subst hW; exact rowIs_new1 w _ _ _
  clear hW
  rcases key with rfl | ⟨rfl, h1⟩ | ⟨rfl, h1, h2⟩ | ⟨rfl, h1, h2, rfl⟩
  · go_wp2_with ((with_reducible refine at_load 32 (.tmp 5) ?_); refine wpList_load_own rfl 32 (.tmp 5) rfl (w.heap.size + 1) rfl _ _ _ RT.out Try.underlying32 rfl (by kernel_rfl) ?_)
    refine (C1.out _).mono ?_
    rintro e w1 ⟨rfl, hb1⟩
    go_wp2_with fail
    go_ret2
    exact ⟨rfl, hbW.trans (hb1.mono hbW.size)⟩
  · have g1 : decide ((zs.length : Int) < 1) = true := decide_eq_true (by omega)
    go_wp2_with ((with_reducible refine at_load 32 (.tmp 5) ?_); refine wpList_load_own rfl 32 (.tmp 5) rfl (w.heap.size + 1) rfl _ _ _ RT.out Try.underlying32 rfl (by kernel_rfl) ?_)
    refine (C1.out _).mono ?_
    rintro e w1 ⟨rfl, hb1⟩
    go_wp2_with fail
    go_ret2
    exact ⟨rfl, hbW.trans (hb1.mono hbW.size)⟩
  · go_wp2_with ((with_reducible refine at_load 32 (.tmp 5) ?_); refine wpList_load_own rfl 32 (.tmp 5) rfl (w.heap.size + 1) rfl _ _ _ RT.out Try.underlying32 rfl (by kernel_rfl) ?_)
    refine (C1.out _).mono ?_
    rintro e w1 ⟨rfl, hb1⟩
    go_wp2_with fail
    go_ret2
    exact ⟨rfl, hbW.trans (hb1.mono hbW.size)⟩
  · go_wp2_with ((with_reducible refine at_load 32 (.tmp 5) ?_); refine wpList_load_own rfl 32 (.tmp 5) rfl (w.heap.size + 1) rfl _ _ _ RT.out Try.underlying32 rfl (by kernel_rfl) ?_)
    refine (C1.out _).mono ?_
    rintro e w1 ⟨rfl, hb1⟩
    have hbW1 := hbW.trans (hb1.mono hbW.size)
    have C2 := Lib.hid (C2.out w1 hbW1)
    go_wp2_with fail
    refine C2.out.mono ?_
    rintro e w2 ⟨rfl, rfl⟩
    go_wp2_with fail
    go_ret2
    exact ⟨rfl, hbW1⟩
end Go.Proofs.Ytdhiaidbpjjljaa
