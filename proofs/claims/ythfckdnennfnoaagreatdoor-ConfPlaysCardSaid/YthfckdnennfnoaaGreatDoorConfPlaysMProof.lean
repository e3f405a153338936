/- ConfPlays: for every input the law returns true, and the input reads as it did. No condition. By an AI agent. -/
import Derived.Test.YthfckdnennfnoaaGreatDoorTie
import Derived.Test.YthfckdnennfnoaaGreatDoorCards
import Derived.Test.YthfckdnennfnoaaGreatDoorKitLaid
import Derived.Test.YthfckdnennfnoaaGreatDoorOpen
import Derived.Test.YthfckdnennfnoaaGreatDoorConfPd
namespace Go.Proofs.YthfckdnennfnoaaGreatDoor.confPlays
open Go.ChangeShapes Go.WideShapes Go.ChangeAt Go.RowKit
open Go.ChangeMaps (open_string shut_string)
open Go.ChangeShapes
theorem own : ownKnob Tryz.prog.godebug = none := by kernel_rfl
theorem params : Tryz.f3.params = #[9, 25] := by kernel_rfl
set_option maxRecDepth 100000 in
theorem lifted (os : Os) (started : os.Started) (H : Type) (enc : TypeId × Value → H) :
    ReturnsInHanded {} Tryz.checked os 3 .any (fun w args => (Rows.confPlaysSpec.pre enc Tryz.prog Tryz.f3 [] false w args ∧ laidMetH Tryz.prog Rows.confPlaysRow.laid w) ∧ sizedMet enc Tryz.prog Tryz.f3 (OpenSpec.ofChange Rows.confPlaysSpec) false w args) (Rows.confPlaysSpec.post enc Tryz.prog Tryz.f3 false true false false) := by
  refine Kit.lifted_laid (laid := Rows.confPlaysRow.laid) (C := Tryz.checked) (fn := Tryz.f3) (s := Rows.confPlaysSpec) (tb := 4) rfl (fun ds h => ?_) (by kernel_rfl) ?_ (by kernel_rfl) Tryz.underlying4 own started (by kernel_rfl) Tryz.func3
    (ChangeSpec.witness_shaped (enc := enc) (C := Tryz.checked) (os := os) (X := fun w _ => laidMetH Tryz.prog Rows.confPlaysRow.laid w) false (World.laidAll Tryz.prog os Rows.confPlaysRow.laid) #[.string ByteArray.empty, .agg #[.int .u8 0, .int .u8 0, .int .u8 0, .int .u8 0, .int .u8 0, .int .u8 0, .int .u8 0, .int .u8 0, .int .i64 0, .int .i64 0, .int .i64 0, .int .i64 0, .slice none 0 0]] 8 (World.laidAll_os _ _ _)
      (World.shaped_of_ZipB (by kernel_rfl) (by kernel_rfl)) (by kernel_rfl) (by kernel_rfl) (by kernel_rfl)
      (by rw [MakeChecks.laidMetH_plain _ _ _ (by kernel_rfl)]; exact laidMet_laidAll _ (by kernel_rfl) (by kernel_rfl))) ?_
  · rw [params] at h
    match ds, h with
    | [_, _], _ => rfl
  · rw [params]
    intro t ht
    simp only [List.mem_cons, List.not_mem_nil, or_false] at ht
    rcases ht with rfl | rfl
    · exact ⟨by kernel_rfl, of_decide_eq_true (by kernel_rfl)⟩
    · exact ⟨by kernel_rfl, of_decide_eq_true (by kernel_rfl)⟩
  · intro W base args ds ps hval hA _
    rw [params] at hA hval
    obtain ⟨v0, vs0, d0, ds0, p0, q0, hargs, rfl, rfl, h0, r0⟩ := trodAll_cons hA
    obtain ⟨v1, vs1, d1, ds1, p1, q1, rfl, rfl, rfl, h1, r1⟩ := trodAll_cons r0
    obtain ⟨rfl, rfl, rfl⟩ := trodAll_nil r1
    obtain rfl : args = #[v0, v1] := by cases args; simp_all
    obtain ⟨a0, rfl, rfl, rfl, wa0⟩ := open_string Tryz.underlying9 (hval 0 9 v0 rfl rfl) h0
    obtain ⟨x1, ma1, he1, de1, ag1, b1, off1, cap1, L1, ao1, rfl, ho1, hA1⟩ := open_conf0 (hval 1 25 v1 rfl rfl) h1
    exact confPlays_walk a0 x1 ma1 he1 de1 ag1 b1 off1 cap1 L1 W ao1 ho1 hA1

theorem holds : Rows.ConfPlaysSaid :=
  OpenClaim.holds_of_wide (p := Tryz.pinned) (s := Rows.confPlaysSpec) (c := Rows.confPlaysRow) 3 Tryz.f3 rfl rfl rfl rfl rfl rfl rfl ⟨rfl, rfl, rfl, rfl, rfl⟩ rfl rfl rfl rfl rfl (by kernel_rfl) Tryz.func3 (by kernel_rfl)
    (of_decide_eq_true (by kernel_rfl)) (by unfold Func.isWrapper; rw [if_neg (of_decide_eq_false (by kernel_rfl))]; exact ⟨rfl, rfl⟩)
    (fun os started H enc _ => lifted os started H enc)
theorem card : Rows.ConfPlaysCardSaid :=
  Claim7.holds_tied_plain_at .later [] [.data, .pinned] true (true, "9fcd173e113c02df645af3a1d7b125ea1aa67260a6a789dec9ddbb7cc2940f57") true holds (fun _ h => by cases h) (by kernel_rfl) (fun _ h => by cases h) confPlays_row_tie rfl ⟨rfl, rfl⟩ (by kernel_rfl) rfl
    (fun f fn hf hfn => by
      obtain rfl : f = 3 := Option.some.inj ((show Tryz.prog.funcNamed "causey/causeylaw23.ConfPlays" = some 3 by kernel_rfl).symm.trans hf) |>.symm
      obtain rfl : fn = Tryz.f3 := (Option.some.inj (Tryz.func3.symm.trans hfn)).symm
      exact ⟨by kernel_rfl, fun j t ht => by
        rw [params] at ht
        have hm : t ∈ [9, 25] := by simpa using Array.mem_of_getElem? ht
        have hall : ([9, 25].all fun u => !Tryz.prog.wantsStandIn u) = true := by kernel_rfl
        exact (show Tryz.prog.wantsStandIn t = false by simpa using List.all_eq_true.1 hall t hm)⟩)
    (by kernel_rfl)
end Go.Proofs.YthfckdnennfnoaaGreatDoor.confPlays

