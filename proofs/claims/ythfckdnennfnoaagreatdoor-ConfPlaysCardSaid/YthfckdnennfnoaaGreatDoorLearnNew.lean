/- learn.New, slices.Clone of numbers. By an AI agent. -/
import Derived.Test.YthfckdnennfnoaaGreatDoorLearn0
import Derived.Test.YthfckdnennfnoaaGreatDoorInts
import Derived.Test.YthfckdnennfnoaaGreatDoorGrowKit
import Derived.Laws.AppendOwn
import Derived.Laws.AppendOwnNone
namespace Go.Proofs.YthfckdnennfnoaaGreatDoor
open Go.RowKit Go.MapKept Go.Maps Go.WideShapes Go.Sort Grow

abbrev I64v (n : Int) : Value := .int .i64 n
def okLim (n : Int) : Bool := decide (0 ≤ n ∧ n ≤ 65535)

def anyBad (zs : List Int) : Bool := !zs.all okLim

theorem newC_any (n : Int) (w : World) : Calls Tryz.prog 66 #[.int .i64 n] w fun e w' => e = .returned (.bool (!okLim n)) ∧ w = w' := by
  rcases Int.lt_or_le n 0 with h | h
  · have e : (!okLim n) = true := by simp [okLim]; omega
    go_enter Tryz.func66, Tryz.ntmps66
    go_wp2_with fail
    go_ret
    exact ⟨by rw [e]; rfl, rfl⟩
  · rcases Int.lt_or_le 65535 n with h1 | h1
    · have e : (!okLim n) = true := by simp [okLim]; omega
      go_enter Tryz.func66, Tryz.ntmps66
      go_wp2_with fail
      go_ret
      exact ⟨by rw [e]; rfl, rfl⟩
    · have e : (!okLim n) = false := by simp [okLim]; omega
      have g1 : decide (n < 0) = false := decide_eq_false (by omega)
      have g2 : decide (65535 < n) = false := decide_eq_false (by omega)
      go_enter Tryz.func66, Tryz.ntmps66
      go_wp2_with fail
      go_ret
      exact ⟨by rw [e]; rfl, rfl⟩

theorem getD_mem' {zs : List Int} {k : Nat} (h : k < zs.length) : zs.getD k 0 ∈ zs := by rw [List.getD, List.getElem?_eq_getElem h]; exact List.getElem_mem h

set_option maxRecDepth 20000 in
set_option maxHeartbeats 1000000 in
theorem indexL_any (ao : Option Addr) (zs : List Int) (cap : Nat) (w : World) (h : IntsAt w ao zs) (hz : zs.length ≤ 1000000) :
    Calls Tryz.prog 67 #[.slice ao zs.length cap, .func (.func 66) #[] #[]] w fun e w' => (∃ r : Int, e = .returned (.int .i64 r) ∧ -1 ≤ r ∧ r ≤ 1000000 ∧ (0 ≤ r ↔ anyBad zs = true)) ∧ w = w' := by
  rcases h with rfl | ⟨b, off, rfl, hc⟩
  · go_enter Tryz.func67, Tryz.ntmps67
    go_wp2
    refine wp_loop_rounds 1 ?_
    rw [rounds_succ]
    go_wp2
    go_ret
    exact ⟨⟨-1, rfl, by omega, by omega, by simp [anyBad]⟩, rfl⟩
  · have HC := Lib.hid hc
    clear hc
    go_enter Tryz.func67, Tryz.ntmps67
    go_wp2
    go_loop [8] (fun i => ∃ k : Nat, k ≤ zs.length ∧ i = .int .i64 k ∧ Hid (∀ j, j < k → okLim (zs.getD j 0) = true)) (fun i => zs.length - (intOf i).toNat)
    case atStart => exact ⟨0, Nat.zero_le _, rfl, fun j hj => absurd hj (Nat.not_lt_zero _)⟩
    case round =>
      obtain ⟨k, hk, rfl, HN⟩ := hrel
      by_cases hlt : k < zs.length
      · have hcell := HC.out k hlt
        have HV := Lib.hid (getD_mem' hlt)
        have DX := Lib.hid (newC_any (zs.getD k 0) w)
        have HE : Hid (∀ j, j < k + 1 → okLim (zs.getD k 0) = true → okLim (zs.getD j 0) = true) := fun j hj h => by
          rcases Nat.lt_or_eq_of_le (Nat.le_of_lt_succ hj) with h1 | rfl
          · exact HN.out j h1
          · exact h
        generalize zs.getD k 0 = x at *
        cases hx : okLim x
        · rw [hx] at DX
          go_wp2_with fail
          refine DX.out.mono ?_
          rintro e w1 ⟨rfl, rfl⟩
          go_wp2_with fail
          go_ret
          refine ⟨⟨k, rfl, by omega, by omega, fun _ => ?_, fun _ => by omega⟩, rfl⟩
          unfold anyBad
          cases hall : zs.all okLim
          · rfl
          · have := List.all_eq_true.1 hall x HV.out
            rw [hx] at this
            cases this
        · rw [hx] at DX
          go_wp2_with fail
          refine DX.out.mono ?_
          rintro e w1 ⟨rfl, rfl⟩
          go_wp2_with fail
          exact ⟨⟨k + 1, by omega, by go_num, fun j hj => HE.out j hj hx⟩, by simp [intOf]; omega⟩
      · go_wp2_with fail
        go_ret
        refine ⟨⟨-1, rfl, by omega, by omega, fun h => by omega, fun h => ?_⟩, rfl⟩
        exfalso
        unfold anyBad at h
        rw [List.all_eq_true.2 fun x hx => ?_] at h
        · cases h
        obtain ⟨j, hj, rfl⟩ := List.mem_iff_getElem.1 hx
        have := HN.out j (by omega)
        rwa [List.getD, List.getElem?_eq_getElem hj] at this

theorem containsL_any (ao : Option Addr) (zs : List Int) (cap : Nat) (w : World) (h : IntsAt w ao zs) (hz : zs.length ≤ 1000000) :
    Calls Tryz.prog 53 #[.slice ao zs.length cap, .func (.func 66) #[] #[]] w fun e w' => e = .returned (.bool (anyBad zs)) ∧ w = w' := by
  have HX := Lib.hid (indexL_any ao zs cap w h hz)
  clear h
  cases hb : anyBad zs
  all_goals
    rw [hb] at HX
    go_enter Tryz.func53, Tryz.ntmps53
    go_wp2_with fail
    refine HX.out.mono ?_
    rintro e w1 ⟨⟨r, rfl, h1, h2, h3⟩, rfl⟩
  · have h4 : ¬ 0 ≤ r := by simpa using h3
    have h5 : decide (0 ≤ r) = false := decide_eq_false h4
    clear h3 h4
    go_wp2_with fail
    go_ret
    exact ⟨rfl, rfl⟩
  · have h4 : 0 ≤ r := by simpa using h3
    have h5 : decide (0 ≤ r) = true := decide_eq_true h4
    clear h3
    go_wp2_with fail
    go_ret
    exact ⟨rfl, rfl⟩

theorem info_int : ∃ i z, Tryz.prog.info? 3 = some i ∧ i.zero = some z ∧ i.size = 1 ∧ i.bytes = 8 ∧ z.cells.size = 1 := by
  have h : (Tryz.prog.info? 3).map (fun i => (i.zero.map (·.cells.size), i.size, i.bytes)) = some (some 1, 1, 8) := by kernel_rfl
  obtain ⟨i, hi, h⟩ := Option.map_eq_some_iff.1 h
  simp only [Prod.mk.injEq] at h
  obtain ⟨z, hz, h18⟩ := Option.map_eq_some_iff.1 h.1
  exact ⟨i, z, hi, hz, h.2.1, h.2.2, h18⟩

set_option maxRecDepth 20000 in
set_option maxHeartbeats 1000000 in
theorem clone_any (ao : Option Addr) (zs : List Int) (cap : Nat) (w : World) (h : IntsAt w ao zs) (hz : zs.length ≤ 1000000) :
    Calls Tryz.prog 50 #[.slice ao zs.length cap] w fun e w' => ∃ la lc, e = .returned (.slice la zs.length lc) ∧ w'.ownsRow w.heap.size 3 1 (.slice la zs.length lc) zs.length (zs.map I64v) ∧ Below w.heap.size w w' := by
  obtain ⟨ti, tz, hi, hzz, hz1, hz2, hz3⟩ := info_int
  cases ao with
  | none =>
    have hz0 : zs = [] := by
      rcases h with h | ⟨b, off, h, _⟩
      · exact h
      · cases h
    subst hz0
    clear h hi hzz
    have he : ∀ w : World, (binOp .eql 47 (.slice none ([] : List Int).length cap) (.slice none 0 0)).run Tryz.prog w = .ok (.bool true) w := fun _ => rfl
    simp only [List.length_nil] at he ⊢
    go_enter Tryz.func50, Tryz.ntmps50
    go_wp2_with fail
    go_ret
    exact ⟨none, 0, rfl, World.ownsRow_nil _ _ _ _, Below.refl _ _⟩
  | some ad =>
    have HN : Hid (∀ (w' : World), Below w.heap.size w w' → ∀ j u, (zs.map I64v)[j]? = some u → w'.cell? (ad.add j) = some u) := fun w' hb j u hj => by
      rcases h.after hb with rfl | ⟨b, off, e, hc⟩
      · simp at hj
      · simp only [Option.some.injEq] at e
        subst e
        rw [List.getElem?_map] at hj
        obtain ⟨x, hx, rfl⟩ := Option.map_eq_some_iff.1 hj
        have hlt := (List.getElem?_eq_some_iff.1 hx).1
        have hadd : (⟨b, off, none⟩ : Addr).add j = ⟨b, off + j, none⟩ := by unfold Addr.add; simp
        rw [hadd, hc j hlt, List.getD, hx]
        rfl
    have HI := Lib.hid hi
    have HZ := Lib.hid hzz
    have hb0 : Below w.heap.size w (w.alloc (.cells #[] 3)) := (Below.refl _ w).alloc (Nat.le_refl _) _
    clear h hi hzz
    have he : ∀ w : World, (binOp .eql 47 (.slice (some ad) zs.length cap) (.slice none 0 0)).run Tryz.prog w = .ok (.bool false) w := fun _ => rfl
    go_enter Tryz.func50, Tryz.ntmps50
    go_wp2_with (at_builtin; refine wpList_append_own _ rfl (.tmp 5) (.tmp 6) 47 rfl w.heap.size 3 ti tz 1 8 Tryz.underlying47 HI.out HZ.out hz1 hz2 hz3 (by decide) _ 0 [] rfl (World.ownsRow_made w #[] 0 (Nat.le_refl _) (by decide) rfl) ad zs.length cap (zs.map I64v) rfl ?c0 ?c1 ?c2 ?c3 ?c4 ?c5 ?_)
    case c0 => simp
    case c1 => exact HN.out _ hb0
    case c2 => intro u hu; obtain ⟨x, _, rfl⟩ := List.mem_map.1 hu; rfl
    case c3 => simp [maxLen]; omega
    case c4 => omega
    case c5 => simp
    intro v' w' ho hg _
    obtain ⟨la, lc, rfl⟩ : ∃ la lc, v' = .slice la zs.length lc := by
      rcases ho.2 with ⟨e, e0⟩ | ⟨g, c, _, e, _⟩
      · exact ⟨none, 0, by rw [e, e0]⟩
      · exact ⟨_, _, e⟩
    go_wp2_with fail
    go_ret
    exact ⟨la, lc, rfl, ho, hb0.grown hg (by simp) (fun k e => by cases e; exact Nat.le_refl _)⟩

/-- a table in memory, at B or beyond -/
def TabIs (B T M : Nat) (w : World) (ageing : Int) (lims : List Int) (L : List Ent) : Prop := ∃ la lc, RowIs w T 155 #[.int .i64 ageing, .slice la lims.length lc, .map (some M)] ∧ B ≤ T ∧ B ≤ M ∧ w.ownsRow B 3 1 (.slice la lims.length lc) lims.length (lims.map I64v) ∧ MapP Tryz.prog 207 w M (L.map Ent.kv) ∧ ∀ e ∈ L, I64 e.v
theorem TabIs.perm {B T M : Nat} {w : World} {ageing : Int} {lims : List Int} {L L' : List Ent} (h : TabIs B T M w ageing lims L) (hp : L.Perm L') : TabIs B T M w ageing lims L' := by
  obtain ⟨la, lc, h1, h2, h3, h4, h5, h6⟩ := h
  exact ⟨la, lc, h1, h2, h3, h4, h5.perm (hp.map _), fun e he => h6 e (hp.mem_iff.2 he)⟩
theorem ownsLater' {w w' : World} {B e size n : Nat} {v : Value} {xs : List Value} (h : w.ownsRow B e size v n xs) (hb : Below w.heap.size w w') : w'.ownsRow B e size v n xs := by
  refine ⟨h.1, ?_⟩
  rcases h.2 with hn | ⟨g, cap, cur, rfl, hB, hgg, rest⟩
  · exact .inl hn
  · exact .inr ⟨g, cap, cur, rfl, hB, (hb.block g (Array.getElem?_eq_some_iff.1 hgg).1).trans hgg, rest⟩
theorem TabIs.later {B T M : Nat} {w w' : World} {ageing : Int} {lims : List Int} {L : List Ent} (h : TabIs B T M w ageing lims L) (hb : Below w.heap.size w w') : TabIs B T M w' ageing lims L := by
  obtain ⟨la, lc, h1, h2, h3, h4, h5, h6⟩ := h
  exact ⟨la, lc, h1.kept hb, h2, h3, ownsLater' h4 hb, h5.kept hb, h6⟩
theorem TabIs.lt {B T M : Nat} {w : World} {ageing : Int} {lims : List Int} {L : List Ent} (h : TabIs B T M w ageing lims L) : T < w.heap.size := by
  obtain ⟨la, lc, h1, _⟩ := h
  exact h1.lt

theorem TabIs.baseM {B T M : Nat} {w : World} {ageing : Int} {lims : List Int} {L : List Ent} (h : TabIs B T M w ageing lims L) : B ≤ M := by
  obtain ⟨la, lc, h1, h2, h3, _⟩ := h
  exact h3

set_option maxRecDepth 20000 in
set_option maxHeartbeats 2000000 in
theorem new_ok (ageing : Int) (ha : 1 ≤ ageing ∧ ageing ≤ 1000000) (ao : Option Addr) (zs : List Int) (cap : Nat) (w : World) (h : IntsAt w ao zs) (hz : zs.length ≤ 32) (hbad : anyBad zs = false) :
    Calls Tryz.prog 48 #[.int .i64 ageing, .slice ao zs.length cap] w fun e w' => ∃ T M, e = .returned (.tuple #[.pointer (some ⟨T, 0, none⟩), .int .i64 0]) ∧ TabIs w.heap.size T M w' ageing zs [] ∧ Below w.heap.size w w' := by
  have HK := Lib.hid (containsL_any ao zs cap w h (by omega))
  have HC := Lib.hid (clone_any ao zs cap w h (by omega))
  rw [hbad] at HK
  have g1 : decide (ageing < 1) = false := decide_eq_false (by omega)
  have g2 : decide (1000000 < ageing) = false := decide_eq_false (by omega)
  have g3 : decide ((32 : Int) < (zs.length : Int)) = false := decide_eq_false (by omega)
  have hmm := @run_makeMap Tryz.prog
  clear h hbad
  go_enter Tryz.func48, Tryz.ntmps48
  go_wp2_with fail
  refine HK.out.mono ?_
  rintro e w1 ⟨rfl, rfl⟩
  go_wp2_with fail
  refine HC.out.mono ?_
  rintro e w2 ⟨la, lc, rfl, ho, hb2⟩
  have HO := Lib.hid ho
  clear ho HC HK
  go_wp2_with fail
  have hb3 : Below w2.heap.size w2 ((w2.alloc (.map #[] 0)).alloc (.cells #[.int .i64 ageing, .slice la zs.length lc, .map (some w2.heap.size)] 155)) := ((Below.refl _ w2).alloc (Nat.le_refl _) _).alloc (by simp) _
  have hs := hb2.size
  go_ret2
  refine ⟨w2.heap.size + 1, w2.heap.size, rfl, ⟨la, lc, ?_, by omega, hs, ownsLater' HO.out hb3, (mapP_new w2).kept ((Below.refl _ _).alloc (Nat.le_refl _) _), by simp⟩, hb2.trans (hb3.mono hs)⟩
  have h := rowIs_new (w2.alloc (.map #[] 0)) 155 #[.int .i64 ageing, .slice la zs.length lc, .map (some w2.heap.size)]
  rw [World.size_alloc] at h
  exact h

set_option maxRecDepth 20000 in
set_option maxHeartbeats 2000000 in
theorem new_bad (ageing : Int) (ao : Option Addr) (zs : List Int) (cap : Nat) (w : World) (h : IntsAt w ao zs) (hz : zs.length ≤ 1000000) (hbad : ageing < 1 ∨ 1000000 < ageing ∨ 32 < zs.length ∨ anyBad zs = true) :
    Calls Tryz.prog 48 #[.int .i64 ageing, .slice ao zs.length cap] w fun e w' => e = .returned (.tuple #[.pointer none, .int .i64 1]) ∧ w = w' := by
  have HK := Lib.hid (containsL_any ao zs cap w h hz)
  clear h
  by_cases g1 : ageing < 1
  · have g1' : decide (ageing < 1) = true := decide_eq_true g1
    clear hbad
    go_enter Tryz.func48, Tryz.ntmps48
    go_wp2_with fail
    go_ret2
    exact ⟨rfl, rfl⟩
  · by_cases g2 : 1000000 < ageing
    · have g1' : decide (ageing < 1) = false := decide_eq_false g1
      have g2' : decide (1000000 < ageing) = true := decide_eq_true g2
      clear hbad
      go_enter Tryz.func48, Tryz.ntmps48
      go_wp2_with fail
      go_ret2
      exact ⟨rfl, rfl⟩
    · by_cases g3 : 32 < zs.length
      · have g1' : decide (ageing < 1) = false := decide_eq_false g1
        have g2' : decide (1000000 < ageing) = false := decide_eq_false g2
        have g3' : decide ((32 : Int) < (zs.length : Int)) = true := decide_eq_true (by omega)
        clear hbad
        go_enter Tryz.func48, Tryz.ntmps48
        go_wp2_with fail
        go_ret2
        exact ⟨rfl, rfl⟩
      · have hb : anyBad zs = true := by
          rcases hbad with h | h | h | h
          · exact absurd h g1
          · exact absurd h g2
          · exact absurd h g3
          · exact h
        rw [hb] at HK
        have g1' : decide (ageing < 1) = false := decide_eq_false g1
        have g2' : decide (1000000 < ageing) = false := decide_eq_false g2
        have g3' : decide ((32 : Int) < (zs.length : Int)) = false := decide_eq_false (by omega)
        clear hbad hb
        go_enter Tryz.func48, Tryz.ntmps48
        go_wp2_with fail
        refine HK.out.mono ?_
        rintro e w1 ⟨rfl, rfl⟩
        go_wp2_with fail
        go_ret2
        exact ⟨rfl, rfl⟩
end Go.Proofs.YthfckdnennfnoaaGreatDoor
