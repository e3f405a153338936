/- ConfOnly: for every input the law returns true, and the input reads as it did. No condition. By an AI agent. -/
import Derived.Test.YthfckdnennfnoaaDoorTie
import Derived.Test.YthfckdnennfnoaaDoorCards
import Derived.Test.YthfckdnennfnoaaDoorKitLaid
import Derived.Test.YthfckdnennfnoaaDoorOpen
import Derived.Test.YthfckdnennfnoaaDoorConfOnlyM
namespace Go.Proofs.YthfckdnennfnoaaDoor.confOnly
open Go.ChangeShapes Go.WideShapes Go.ChangeAt Go.RowKit
open Go.ChangeMaps (open_string shut_string)
open Go.ChangeShapes
theorem own : ownKnob Tryd.prog.godebug = none := by kernel_rfl
theorem params : Tryd.f4.params = #[9] := by kernel_rfl
set_option maxRecDepth 100000 in
theorem lifted (os : Os) (started : os.Started) (H : Type) (enc : TypeId × Value → H) :
    ReturnsInHanded {} Tryd.checked os 4 .any (fun w args => (Rows.confOnlySpec.pre enc Tryd.prog Tryd.f4 [] false w args ∧ laidMetH Tryd.prog Rows.confOnlyRow.laid w) ∧ sizedMet enc Tryd.prog Tryd.f4 (OpenSpec.ofChange Rows.confOnlySpec) false w args) (Rows.confOnlySpec.post enc Tryd.prog Tryd.f4 false true false false) := by
  refine Kit.lifted_laid (laid := Rows.confOnlyRow.laid) (C := Tryd.checked) (fn := Tryd.f4) (s := Rows.confOnlySpec) (tb := 4) rfl (fun ds h => ?_) (by kernel_rfl) ?_ (by kernel_rfl) Tryd.underlying4 own started (by kernel_rfl) Tryd.func4
    (ChangeSpec.witness_shaped (enc := enc) (C := Tryd.checked) (os := os) (X := fun w _ => laidMetH Tryd.prog Rows.confOnlyRow.laid w) false (World.laidAll Tryd.prog os Rows.confOnlyRow.laid) #[.string ByteArray.empty] 8 (World.laidAll_os _ _ _)
      (World.shaped_of_ZipB (by kernel_rfl) (by kernel_rfl)) (by kernel_rfl) (by kernel_rfl) (by kernel_rfl)
      (by rw [MakeChecks.laidMetH_plain _ _ _ (by kernel_rfl)]; exact laidMet_laidAll _ (by kernel_rfl) (by kernel_rfl))) ?_
  · rw [params] at h
    match ds, h with
    | [_], _ => rfl
  · rw [params]
    intro t ht
    simp only [List.mem_cons, List.not_mem_nil, or_false] at ht
    subst ht
    exact ⟨by kernel_rfl, of_decide_eq_true (by kernel_rfl)⟩
  · intro W base args ds ps hval hA _
    rw [params] at hA hval
    obtain ⟨v0, vs0, d0, ds0, p0, q0, hargs, rfl, rfl, h0, r0⟩ := trodAll_cons hA
    obtain ⟨rfl, rfl, rfl⟩ := trodAll_nil r0
    obtain rfl : args = #[v0] := by cases args; simp_all
    obtain ⟨a0, rfl, rfl, rfl, wa0⟩ := open_string Tryd.underlying9 (hval 0 9 v0 rfl rfl) h0
    exact confOnly_walk a0 W 

theorem holds : Rows.ConfOnlySaid :=
  OpenClaim.holds_of_wide (p := Tryd.pinned) (s := Rows.confOnlySpec) (c := Rows.confOnlyRow) 4 Tryd.f4 rfl rfl rfl rfl rfl rfl rfl ⟨rfl, rfl, rfl, rfl, rfl⟩ rfl rfl rfl rfl rfl (by kernel_rfl) Tryd.func4 (by kernel_rfl)
    (of_decide_eq_true (by kernel_rfl)) (by unfold Func.isWrapper; rw [if_neg (of_decide_eq_false (by kernel_rfl))]; exact ⟨rfl, rfl⟩)
    (fun os started H enc _ => lifted os started H enc)
theorem card : Rows.ConfOnlyCardSaid :=
  Claim7.holds_tied_plain_at .later [] [.data, .pinned] true (true, "06178ce278844463a235eda5ea55843449b659f43128eaae628b72838e1f3923") true holds (fun _ h => by cases h) (by kernel_rfl) (fun _ h => by cases h) confOnly_row_tie rfl ⟨rfl, rfl⟩ (by kernel_rfl) rfl
    (fun f fn hf hfn => by
      obtain rfl : f = 4 := Option.some.inj ((show Tryd.prog.funcNamed "causey/causeylaw23.ConfOnly" = some 4 by kernel_rfl).symm.trans hf) |>.symm
      obtain rfl : fn = Tryd.f4 := (Option.some.inj (Tryd.func4.symm.trans hfn)).symm
      exact ⟨by kernel_rfl, fun j t ht => by
        rw [params] at ht
        have hm : t ∈ [9] := by simpa using Array.mem_of_getElem? ht
        have hall : ([9].all fun u => !Tryd.prog.wantsStandIn u) = true := by kernel_rfl
        exact (show Tryd.prog.wantsStandIn t = false by simpa using List.all_eq_true.1 hall t hm)⟩)
    (by kernel_rfl)
end Go.Proofs.YthfckdnennfnoaaDoor.confOnly

