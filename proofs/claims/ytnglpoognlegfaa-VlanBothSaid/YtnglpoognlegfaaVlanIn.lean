/- vlan.In; causeylaw08.Of; the law's awake and few. By an AI agent. -/
import Derived.Test.YtnglpoognlegfaaVlan
namespace Go.Proofs.Ytnglpoognlegfaa
open Go.RowKit
namespace Vlan
def inV (native v : Int) : Int := if v = -1 ∨ v = 0 then native else v
end Vlan

theorem below_alloc2 (w : World) (A B : Obj) : Below w.heap.size w ((w.alloc A).alloc B) := ((Below.refl _ _).alloc (Nat.le_refl _) _).alloc (by simp) _

theorem info_eth : (Try.prog.info? 36).map (·.size) = some 16 := by kernel_rfl
theorem info_eth8 : (Try.prog.info? 30).map (·.size) = some 16 := by kernel_rfl
theorem info_port : (Try.prog.info? 24).map (·.size) = some 2 := by kernel_rfl

set_option maxHeartbeats 2000000 in
theorem in_any (native : Int) (ao : Option Addr) (zs : List Int) (cap : Nat) (d s : Nat → UInt8) (ty v pr : Int) (body : ByteArray) (w : World) (h : IntsAt w ao zs) (hz : zs.length ≤ 1000000) :
    Calls Try.prog 11 #[.agg #[.int .i64 native, .slice ao zs.length cap], .agg #[.int .u8 ((d 0).toNat : Int), .int .u8 ((d 1).toNat : Int), .int .u8 ((d 2).toNat : Int), .int .u8 ((d 3).toNat : Int), .int .u8 ((d 4).toNat : Int), .int .u8 ((d 5).toNat : Int), .int .u8 ((s 0).toNat : Int), .int .u8 ((s 1).toNat : Int), .int .u8 ((s 2).toNat : Int), .int .u8 ((s 3).toNat : Int), .int .u8 ((s 4).toNat : Int), .int .u8 ((s 5).toNat : Int), .int .i64 ty, .string body, .int .i64 v, .int .i64 pr]] w
      fun e w' => e = .returned (.tuple #[.int .i64 (if Vlan.member native zs (Vlan.inV native v) = true then Vlan.inV native v else 0), .int .i64 (if Vlan.member native zs (Vlan.inV native v) = true then 0 else 12)]) ∧ Below w.heap.size w w' := by
  have HZ := Lib.hid h
  clear h
  have HB := fun A B => Lib.hid (below_alloc2 w A B)
  have key : ∀ x : Int, Vlan.inV native v = x → (((v == -1) = false ∧ (v == 0) = false ∧ x = v) ∨ (((v == -1) = true ∨ (v == -1) = false ∧ (v == 0) = true) ∧ x = native)) := by
    rintro x rfl
    unfold Vlan.inV
    by_cases h : v = -1 ∨ v = 0
    · rw [if_pos h]
      rcases h with rfl | rfl
      · exact Or.inr ⟨Or.inl rfl, rfl⟩
      · exact Or.inr ⟨Or.inr ⟨rfl, rfl⟩, rfl⟩
    · rw [if_neg h]
      exact Or.inl ⟨by simp; omega, by simp; omega, rfl⟩
  generalize Vlan.inV native v = x at key
  rcases key x rfl with ⟨h1, h2, hx⟩ | ⟨h1 | ⟨h1, h2⟩, hx⟩
  all_goals
    clear key
    rw [hx]
    clear hx
    generalize hm : Vlan.member native zs _ = m
    have HM := Lib.hid hm
    clear hm
    cases m
    all_goals
      simp only [Bool.false_eq_true, if_false, if_true]
      go_enter Try.func11, Try.ntmps11
      go_wp2_with fail
      refine (member_any _ ao zs cap _ _ (HZ.out.after (HB _ _).out) hz).mono ?_
      rintro e w1 ⟨rfl, hb2⟩
      rw [HM.out]
      go_wp2_with fail
      go_ret2
      exact ⟨rfl, (HB _ _).out.trans (hb2.mono (HB _ _).out.size)⟩

theorem few_any (n m : Int) (ao bo : Option Addr) (zs ys : List Int) (c1 c2 : Nat) (w : World) (hz : zs.length ≤ 9223372036854775807) (hy : ys.length ≤ 9223372036854775807) :
    Calls Try.prog 10 #[.agg #[.int .i64 n, .slice ao zs.length c1], .agg #[.int .i64 m, .slice bo ys.length c2]] w
      fun e w' => e = .returned (.bool (decide (zs.length ≤ 200) && decide (ys.length ≤ 200))) ∧ Below w.heap.size w w' := by
  by_cases h1 : zs.length ≤ 200 <;> by_cases h2 : ys.length ≤ 200
  all_goals
    go_enter Try.func10, Try.ntmps10
    go_wp2_with fail
    go_ret
    refine ⟨?_, below_alloc2 _ _ _⟩
    simp [h1, h2]
    try omega

/-- what 'in_any' says, at zeros -/
theorem in_zero (native : Int) (ao : Option Addr) (zs : List Int) (cap : Nat) (v : Int) (w : World) (h : IntsAt w ao zs) (hz : zs.length ≤ 1000000) (hm : Vlan.member native zs (Vlan.inV native v) = true) :
    Calls Try.prog 11 #[.agg #[.int .i64 native, .slice ao zs.length cap], .agg #[.int .u8 0, .int .u8 0, .int .u8 0, .int .u8 0, .int .u8 0, .int .u8 0, .int .u8 0, .int .u8 0, .int .u8 0, .int .u8 0, .int .u8 0, .int .u8 0, .int .i64 0, .string ⟨#[]⟩, .int .i64 v, .int .i64 0]] w
      fun e w' => e = .returned (.tuple #[.int .i64 (Vlan.inV native v), .int .i64 0]) ∧ Below w.heap.size w w' := by
  have := in_any native ao zs cap (fun _ => 0) (fun _ => 0) 0 v 0 ⟨#[]⟩ w h hz
  rw [hm] at this
  exact this

theorem in_aw1 (n : Nat) (w : World) (h : IntsAt w (some ⟨n, 0, none⟩) [20]) :
    Calls Try.prog 11 #[.agg #[.int .i64 10, .slice (some ⟨n, 0, none⟩) 1 1], .agg #[.int .u8 0, .int .u8 0, .int .u8 0, .int .u8 0, .int .u8 0, .int .u8 0, .int .u8 0, .int .u8 0, .int .u8 0, .int .u8 0, .int .u8 0, .int .u8 0, .int .i64 0, .string ⟨#[]⟩, .int .i64 (-1), .int .i64 0]] w
      fun e w' => e = .returned (.tuple #[.int .i64 10, .int .i64 0]) ∧ Below w.heap.size w w' :=
  in_zero 10 (some ⟨n, 0, none⟩) [20] 1 (-1) w h (by decide) (by decide)
theorem in_aw2 (n : Nat) (w : World) (h : IntsAt w (some ⟨n, 0, none⟩) [20]) :
    Calls Try.prog 11 #[.agg #[.int .i64 10, .slice (some ⟨n, 0, none⟩) 1 1], .agg #[.int .u8 0, .int .u8 0, .int .u8 0, .int .u8 0, .int .u8 0, .int .u8 0, .int .u8 0, .int .u8 0, .int .u8 0, .int .u8 0, .int .u8 0, .int .u8 0, .int .i64 0, .string ⟨#[]⟩, .int .i64 20, .int .i64 0]] w
      fun e w' => e = .returned (.tuple #[.int .i64 20, .int .i64 0]) ∧ Below w.heap.size w w' :=
  in_zero 10 (some ⟨n, 0, none⟩) [20] 1 20 w h (by decide) (by decide)

set_option maxHeartbeats 2000000 in
theorem awake_any (w : World) : Calls Try.prog 9 #[] w fun e w' => e = .returned (.bool true) ∧ Below w.heap.size w w' := by
  go_enter Try.func9, Try.ntmps9
  go_wp2_with fail
  generalize hW : (w.alloc _).alloc _ = W
  have hb : Below w.heap.size w W := by rw [← hW]; exact below_alloc2 _ _ _
  have hI : IntsAt W (some ⟨w.heap.size, 0, none⟩) [20] := by
    refine Or.inr ⟨w.heap.size, 0, rfl, fun i hi => ?_⟩
    have : i = 0 := by simp at hi; omega
    subst this
    subst hW
    go_simp
  have c0 : W.cell? ⟨w.heap.size + 1, 0, none⟩ = some (.int .i64 10) := by subst hW; go_simp
  have c1 : W.cell? ⟨w.heap.size + 1, 1, none⟩ = some (.slice (some ⟨w.heap.size, 0, none⟩) 1 1) := by subst hW; go_simp
  clear hW
  refine (in_aw1 _ _ hI).mono ?_
  rintro e w1 ⟨rfl, hb1⟩
  have d0 := cell_of_below hb1 c0
  have d1 := cell_of_below hb1 c1
  clear c0 c1
  go_wp2_with fail
  refine (in_aw2 _ _ (hI.after hb1)).mono ?_
  rintro e w2 ⟨rfl, hb2⟩
  go_wp2_with fail
  go_ret
  exact ⟨rfl, hb.trans ((hb1.trans (hb2.mono hb1.size)).mono hb.size)⟩
end Go.Proofs.Ytnglpoognlegfaa
