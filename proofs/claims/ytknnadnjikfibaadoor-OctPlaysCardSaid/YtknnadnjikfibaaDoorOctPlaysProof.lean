/- OctPlays: for every input the law returns true, and the input reads as it did. No condition. By an AI agent. -/
import Derived.Test.YtknnadnjikfibaaDoorTie
import Derived.Test.YtknnadnjikfibaaDoorCards
import Derived.Test.YtknnadnjikfibaaDoorKitLaid
import Derived.Test.YtknnadnjikfibaaDoorOpen
import Derived.Test.YtknnadnjikfibaaDoorOctPlays
namespace Go.Proofs.YtknnadnjikfibaaDoor.octPlays
open Go.ChangeShapes Go.WideShapes Go.ChangeAt Go.RowKit
open Go.ChangeMaps (open_string shut_string)
open Go.ChangeShapes
theorem own : ownKnob Tryd.prog.godebug = none := by kernel_rfl
theorem params : Tryd.f5.params = #[3, 9, 24, 28] := by kernel_rfl
set_option maxRecDepth 100000 in
theorem lifted (os : Os) (started : os.Started) (H : Type) (enc : TypeId × Value → H) :
    ReturnsInHanded {} Tryd.checked os 5 .any (fun w args => (Rows.octPlaysSpec.pre enc Tryd.prog Tryd.f5 [] false w args ∧ laidMetH Tryd.prog Rows.octPlaysRow.laid w) ∧ sizedMet enc Tryd.prog Tryd.f5 (OpenSpec.ofChange Rows.octPlaysSpec) false w args) (Rows.octPlaysSpec.post enc Tryd.prog Tryd.f5 false true false false) := by
  refine Kit.lifted_laid (laid := Rows.octPlaysRow.laid) (C := Tryd.checked) (fn := Tryd.f5) (s := Rows.octPlaysSpec) (tb := 4) rfl (fun ds h => ?_) (by kernel_rfl) ?_ (by kernel_rfl) Tryd.underlying4 own started (by kernel_rfl) Tryd.func5
    (ChangeSpec.witness_shaped (enc := enc) (C := Tryd.checked) (os := os) (X := fun w _ => laidMetH Tryd.prog Rows.octPlaysRow.laid w) false (World.laidAll Tryd.prog os Rows.octPlaysRow.laid) #[.int .i64 0, .string ByteArray.empty, .agg #[.int .u8 0, .int .u8 0, .int .u8 0, .int .u8 0, .int .u8 0, .int .u8 0], .agg #[.int .u8 0, .int .u8 0, .int .u8 0, .int .u8 0]] 8 (World.laidAll_os _ _ _)
      (World.shaped_of_ZipB (by kernel_rfl) (by kernel_rfl)) (by kernel_rfl) (by kernel_rfl) (by kernel_rfl)
      (by rw [MakeChecks.laidMetH_plain _ _ _ (by kernel_rfl)]; exact laidMet_laidAll _ (by kernel_rfl) (by kernel_rfl))) ?_
  · rw [params] at h
    match ds, h with
    | [_, _, _, _], _ => rfl
  · rw [params]
    intro t ht
    simp only [List.mem_cons, List.not_mem_nil, or_false] at ht
    rcases ht with rfl | rfl | rfl | rfl
    · exact ⟨by kernel_rfl, of_decide_eq_true (by kernel_rfl)⟩
    · exact ⟨by kernel_rfl, of_decide_eq_true (by kernel_rfl)⟩
    · exact ⟨by kernel_rfl, of_decide_eq_true (by kernel_rfl)⟩
    · exact ⟨by kernel_rfl, of_decide_eq_true (by kernel_rfl)⟩
  · intro W base args ds ps hval hA _
    rw [params] at hA hval
    obtain ⟨v0, vs0, d0, ds0, p0, q0, hargs, rfl, rfl, h0, r0⟩ := trodAll_cons hA
    obtain ⟨v1, vs1, d1, ds1, p1, q1, rfl, rfl, rfl, h1, r1⟩ := trodAll_cons r0
    obtain ⟨v2, vs2, d2, ds2, p2, q2, rfl, rfl, rfl, h2, r2⟩ := trodAll_cons r1
    obtain ⟨v3, vs3, d3, ds3, p3, q3, rfl, rfl, rfl, h3, r3⟩ := trodAll_cons r2
    obtain ⟨rfl, rfl, rfl⟩ := trodAll_nil r3
    obtain rfl : args = #[v0, v1, v2, v3] := by cases args; simp_all
    obtain ⟨a0, rfl, rfl, rfl, wa0⟩ := open_int Tryd.underlying3 (hval 0 3 v0 rfl rfl) h0
    obtain ⟨a1, rfl, rfl, rfl, wa1⟩ := open_string Tryd.underlying9 (hval 1 9 v1 rfl rfl) h1
    obtain ⟨a2_0, a2_1, a2_2, a2_3, a2_4, a2_5, rfl⟩ := open_mac (hval 2 24 v2 rfl rfl)
    obtain ⟨a3_0, a3_1, a3_2, a3_3, rfl⟩ := open_ip (hval 3 28 v3 rfl rfl)
    exact octPlays_walk a0 wa0 a1 a2_0 a2_1 a2_2 a2_3 a2_4 a2_5 a3_0 a3_1 a3_2 a3_3 W 

theorem holds : Rows.OctPlaysSaid :=
  OpenClaim.holds_of_wide (p := Tryd.pinned) (s := Rows.octPlaysSpec) (c := Rows.octPlaysRow) 5 Tryd.f5 rfl rfl rfl rfl rfl rfl rfl ⟨rfl, rfl, rfl, rfl, rfl⟩ rfl rfl rfl rfl rfl (by kernel_rfl) Tryd.func5 (by kernel_rfl)
    (of_decide_eq_true (by kernel_rfl)) (by unfold Func.isWrapper; rw [if_neg (of_decide_eq_false (by kernel_rfl))]; exact ⟨rfl, rfl⟩)
    (fun os started H enc _ => lifted os started H enc)
theorem card : Rows.OctPlaysCardSaid :=
  Claim7.holds_tied_plain_at .later [] [.data, .pinned] true (true, "170792a1f920abc4898ef2bd9c37d6ae8e8755e6c716a8b29b60c22983293927") false holds (fun _ h => by cases h) (by kernel_rfl) (fun _ h => by cases h) octPlays_row_tie rfl ⟨rfl, rfl⟩ (by kernel_rfl) rfl
    (fun f fn hf hfn => by
      obtain rfl : f = 5 := Option.some.inj ((show Tryd.prog.funcNamed "causey/causeylaw07.OctPlays" = some 5 by kernel_rfl).symm.trans hf) |>.symm
      obtain rfl : fn = Tryd.f5 := (Option.some.inj (Tryd.func5.symm.trans hfn)).symm
      exact ⟨by kernel_rfl, fun j t ht => by
        rw [params] at ht
        have hm : t ∈ [3, 9, 24, 28] := by simpa using Array.mem_of_getElem? ht
        have hall : ([3, 9, 24, 28].all fun u => !Tryd.prog.wantsStandIn u) = true := by kernel_rfl
        exact (show Tryd.prog.wantsStandIn t = false by simpa using List.all_eq_true.1 hall t hm)⟩)
    (by kernel_rfl)
end Go.Proofs.YtknnadnjikfibaaDoor.octPlays

