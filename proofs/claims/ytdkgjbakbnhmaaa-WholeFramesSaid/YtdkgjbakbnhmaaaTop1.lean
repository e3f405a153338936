/- ether.Right, ether.Print, causeylaw08.Plain. By an AI agent. -/
import Derived.Test.YtdkgjbakbnhmaaaEthLaw
import Derived.Test.YtdkgjbakbnhmaaaEthOf
import Derived.Test.YtdkgjbakbnhmaaaGrowKit
import Derived.Test.YtdkgjbakbnhmaaaTunCut
import Derived.Deep.DeepCutAuto
namespace Go.Proofs.Ytdkgjbakbnhmaaa
open Go.RowKit Go.Sort Grow

namespace Eth
def typed (ty : Int) : Bool := ty == 0 || (decide (1536 ≤ ty) && decide (ty ≤ 65535) && ty != 33024)
def tagged (v pr : Int) : Bool := (v == -1 && pr == 0) || (decide (0 ≤ v) && decide (v ≤ 4094) && decide (0 ≤ pr) && decide (pr ≤ 7))
theorem right_iff (ty v pr : Int) (z : Nat) : right ty v pr z ↔ (typed ty && tagged v pr && decide ((z : Int) ≤ 1500)) = true := by
  unfold right typed tagged
  simp only [Bool.and_eq_true, Bool.or_eq_true, decide_eq_true_eq, beq_iff_eq, bne_iff_ne, ne_eq]
  omega
theorem typed_cut (ty : Int) : (((ty == 0) = true ∨ (ty == 0) = false ∧ 1536 ≤ ty ∧ ty ≤ 65535 ∧ (ty != 33024) = true) ∧ typed ty = true) ∨
      (((ty == 0) = false ∧ (ty < 1536 ∨ 1536 ≤ ty ∧ 65535 < ty ∨ 1536 ≤ ty ∧ ty ≤ 65535 ∧ (ty != 33024) = false)) ∧ typed ty = false) := by
  cases h : typed ty
  · refine Or.inr ⟨?_, rfl⟩
    simp [typed] at h
    obtain ⟨h1, h2⟩ := h
    refine ⟨by simpa using h1, ?_⟩
    by_cases a : ty < 1536
    · exact Or.inl a
    · by_cases b : 65535 < ty
      · exact Or.inr (Or.inl ⟨by omega, b⟩)
      · exact Or.inr (Or.inr ⟨by omega, by omega, by simpa using h2 (by omega) (by omega)⟩)
  · refine Or.inl ⟨?_, rfl⟩
    simp [typed] at h
    rcases h with h | ⟨⟨h1, h2⟩, h3⟩
    · exact Or.inl (by simpa using h)
    · exact Or.inr ⟨by simp; omega, h1, h2, by simpa using h3⟩
theorem tagged_cut (v pr : Int) : (((v == -1) = true ∧ (pr == 0) = true ∨ (v == -1) = false ∧ 0 ≤ v ∧ v ≤ 4094 ∧ 0 ≤ pr ∧ pr ≤ 7) ∧ tagged v pr = true) ∨
      (((v == -1) = true ∧ (pr == 0) = false ∧ v < 0 ∨ (v == -1) = false ∧ (v < 0 ∨ 0 ≤ v ∧ 4094 < v ∨ 0 ≤ v ∧ v ≤ 4094 ∧ pr < 0 ∨ 0 ≤ v ∧ v ≤ 4094 ∧ 0 ≤ pr ∧ 7 < pr)) ∧ tagged v pr = false) := by
  unfold tagged
  by_cases a : v = -1
  · subst a
    by_cases b : pr = 0
    · subst b; simp
    · have : (pr == 0) = false := by simpa using b
      simp [this]
  · have e : (v == -1) = false := by simpa using a
    rw [e]
    simp
    omega
end Eth

set_option maxRecDepth 20000 in
set_option maxHeartbeats 4000000 in
theorem ethRight_all (d s : Nat → UInt8) (ty v pr : Int) (body : ByteArray) (w : World) :
    Calls Try.prog 13 #[.agg #[.int .u8 ((d 0).toNat : Int), .int .u8 ((d 1).toNat : Int), .int .u8 ((d 2).toNat : Int), .int .u8 ((d 3).toNat : Int), .int .u8 ((d 4).toNat : Int), .int .u8 ((d 5).toNat : Int), .int .u8 ((s 0).toNat : Int), .int .u8 ((s 1).toNat : Int), .int .u8 ((s 2).toNat : Int), .int .u8 ((s 3).toNat : Int), .int .u8 ((s 4).toNat : Int), .int .u8 ((s 5).toNat : Int), .int .i64 ty, .string body, .int .i64 v, .int .i64 pr]] w
      fun e w' => e = .returned (.bool (Eth.typed ty && Eth.tagged v pr && decide ((body.size : Int) ≤ 1500))) ∧ Below w.heap.size w w' := by
  have k1 := Eth.typed_cut ty
  have k2 := Eth.tagged_cut v pr
  generalize Eth.typed ty = tk at *
  generalize Eth.tagged v pr = tg at *
  have K1 := Lib.hid k1
  have K2 := Lib.hid k2
  clear k1 k2
  have HB : ∀ A, Hid (Below w.heap.size w (w.alloc A)) := fun A => (Below.refl _ _).alloc (Nat.le_refl _) _
  go_enter Try.func13, Try.ntmps13
  go_upto_region 2 with fail
  have hb := HB (.cells #[.int .u8 ((d 0).toNat : Int), .int .u8 ((d 1).toNat : Int), .int .u8 ((d 2).toNat : Int), .int .u8 ((d 3).toNat : Int), .int .u8 ((d 4).toNat : Int), .int .u8 ((d 5).toNat : Int), .int .u8 ((s 0).toNat : Int), .int .u8 ((s 1).toNat : Int), .int .u8 ((s 2).toNat : Int), .int .u8 ((s 3).toNat : Int), .int .u8 ((s 4).toNat : Int), .int .u8 ((s 5).toNat : Int), .int .i64 ty, .string body, .int .i64 v, .int .i64 pr] 33)
  have R1 : Hid (RowIs (w.alloc (.cells #[.int .u8 ((d 0).toNat : Int), .int .u8 ((d 1).toNat : Int), .int .u8 ((d 2).toNat : Int), .int .u8 ((d 3).toNat : Int), .int .u8 ((d 4).toNat : Int), .int .u8 ((d 5).toNat : Int), .int .u8 ((s 0).toNat : Int), .int .u8 ((s 1).toNat : Int), .int .u8 ((s 2).toNat : Int), .int .u8 ((s 3).toNat : Int), .int .u8 ((s 4).toNat : Int), .int .u8 ((s 5).toNat : Int), .int .i64 ty, .string body, .int .i64 v, .int .i64 pr] 33)) w.heap.size 33 #[.int .u8 ((d 0).toNat : Int), .int .u8 ((d 1).toNat : Int), .int .u8 ((d 2).toNat : Int), .int .u8 ((d 3).toNat : Int), .int .u8 ((d 4).toNat : Int), .int .u8 ((d 5).toNat : Int), .int .u8 ((s 0).toNat : Int), .int .u8 ((s 1).toNat : Int), .int .u8 ((s 2).toNat : Int), .int .u8 ((s 3).toNat : Int), .int .u8 ((s 4).toNat : Int), .int .u8 ((s 5).toNat : Int), .int .i64 ty, .string body, .int .i64 v, .int .i64 pr]) := by show RowIs _ _ _ _; exact rowIs_new w _ _
  generalize w.alloc (.cells #[.int .u8 ((d 0).toNat : Int), .int .u8 ((d 1).toNat : Int), .int .u8 ((d 2).toNat : Int), .int .u8 ((d 3).toNat : Int), .int .u8 ((d 4).toNat : Int), .int .u8 ((d 5).toNat : Int), .int .u8 ((s 0).toNat : Int), .int .u8 ((s 1).toNat : Int), .int .u8 ((s 2).toNat : Int), .int .u8 ((s 3).toNat : Int), .int .u8 ((s 4).toNat : Int), .int .u8 ((s 5).toNat : Int), .int .i64 ty, .string body, .int .i64 v, .int .i64 pr] 33) = W at *
  clear HB
  have c12 : W.cell? ⟨w.heap.size, 12, none⟩ = some (.int .i64 ty) := R1.out.cell 12
  have c13 : W.cell? ⟨w.heap.size, 13, none⟩ = some (.string body) := R1.out.cell 13
  have c14 : W.cell? ⟨w.heap.size, 14, none⟩ = some (.int .i64 v) := R1.out.cell 14
  have c15 : W.cell? ⟨w.heap.size, 15, none⟩ = some (.int .i64 pr) := R1.out.cell 15
  go_cut [4] (fun u wx => u = .bool tk ∧ W = wx)
  case first =>
    rcases K1.out with ⟨h1 | ⟨h1, h2, h3, h4⟩, rfl⟩ | ⟨⟨h1, h2 | ⟨h2, h3⟩ | ⟨h2, h3, h4⟩⟩, rfl⟩
    all_goals
      go_wp2_with fail
      go_meet
      exact ⟨rfl, rfl⟩
  case rest =>
    obtain ⟨rfl, rfl⟩ := hcut
    clear K1
    go_upto_region 3 with fail
    go_cut [5] (fun u wx => u = .bool tg ∧ W = wx)
    case first =>
      rcases K2.out with ⟨⟨h1, h2⟩ | ⟨h1, h2, h3, h4, h5⟩, rfl⟩ | ⟨⟨h1, h2, h3⟩ | ⟨h1, h2 | ⟨h2, h3⟩ | ⟨h2, h3, h4⟩ | ⟨h2, h3, h4, h5⟩⟩, rfl⟩
      all_goals
        go_wp2_with fail
        go_meet
        first | exact ⟨rfl, rfl⟩ | exact ⟨by simp; omega, rfl⟩
    case rest =>
      obtain ⟨rfl, rfl⟩ := hcut
      clear K2
      cases tk <;> cases tg
      all_goals
        go_wp2_with fail
        go_ret
        exact ⟨rfl, hb.out⟩

set_option maxHeartbeats 4000000 in
theorem plain_any (d s : Nat → UInt8) (ty v pr : Int) (body : ByteArray) (w : World) :
    Calls Try.prog 10 #[.agg #[.int .u8 ((d 0).toNat : Int), .int .u8 ((d 1).toNat : Int), .int .u8 ((d 2).toNat : Int), .int .u8 ((d 3).toNat : Int), .int .u8 ((d 4).toNat : Int), .int .u8 ((d 5).toNat : Int), .int .u8 ((s 0).toNat : Int), .int .u8 ((s 1).toNat : Int), .int .u8 ((s 2).toNat : Int), .int .u8 ((s 3).toNat : Int), .int .u8 ((s 4).toNat : Int), .int .u8 ((s 5).toNat : Int), .int .i64 ty, .string body, .int .i64 v, .int .i64 pr]] w
      fun e w' => e = .returned (.agg #[.int .u8 ((d 0).toNat : Int), .int .u8 ((d 1).toNat : Int), .int .u8 ((d 2).toNat : Int), .int .u8 ((d 3).toNat : Int), .int .u8 ((d 4).toNat : Int), .int .u8 ((d 5).toNat : Int), .int .u8 ((s 0).toNat : Int), .int .u8 ((s 1).toNat : Int), .int .u8 ((s 2).toNat : Int), .int .u8 ((s 3).toNat : Int), .int .u8 ((s 4).toNat : Int), .int .u8 ((s 5).toNat : Int), .int .i64 ty, .string body, .int .i64 v, .int .i64 pr]) ∧ Below w.heap.size w w' := by
  have hi : (Try.prog.info? 27).map (·.size) = some 16 := by kernel_rfl
  go_enter Try.func10, Try.ntmps10
  have HR : Hid (RowIs ((w.alloc (.cells #[.int .u8 ((d 0).toNat : Int), .int .u8 ((d 1).toNat : Int), .int .u8 ((d 2).toNat : Int), .int .u8 ((d 3).toNat : Int), .int .u8 ((d 4).toNat : Int), .int .u8 ((d 5).toNat : Int), .int .u8 ((s 0).toNat : Int), .int .u8 ((s 1).toNat : Int), .int .u8 ((s 2).toNat : Int), .int .u8 ((s 3).toNat : Int), .int .u8 ((s 4).toNat : Int), .int .u8 ((s 5).toNat : Int), .int .i64 ty, .string body, .int .i64 v, .int .i64 pr] 33)).alloc (.cells #[.int .u8 ((d 0).toNat : Int), .int .u8 ((d 1).toNat : Int), .int .u8 ((d 2).toNat : Int), .int .u8 ((d 3).toNat : Int), .int .u8 ((d 4).toNat : Int), .int .u8 ((d 5).toNat : Int), .int .u8 ((s 0).toNat : Int), .int .u8 ((s 1).toNat : Int), .int .u8 ((s 2).toNat : Int), .int .u8 ((s 3).toNat : Int), .int .u8 ((s 4).toNat : Int), .int .u8 ((s 5).toNat : Int), .int .i64 ty, .string body, .int .i64 v, .int .i64 pr] 27)) (w.heap.size + 1) 27 #[.int .u8 ((d 0).toNat : Int), .int .u8 ((d 1).toNat : Int), .int .u8 ((d 2).toNat : Int), .int .u8 ((d 3).toNat : Int), .int .u8 ((d 4).toNat : Int), .int .u8 ((d 5).toNat : Int), .int .u8 ((s 0).toNat : Int), .int .u8 ((s 1).toNat : Int), .int .u8 ((s 2).toNat : Int), .int .u8 ((s 3).toNat : Int), .int .u8 ((s 4).toNat : Int), .int .u8 ((s 5).toNat : Int), .int .i64 ty, .string body, .int .i64 v, .int .i64 pr]) := by
    have := rowIs_new (w.alloc (.cells #[.int .u8 ((d 0).toNat : Int), .int .u8 ((d 1).toNat : Int), .int .u8 ((d 2).toNat : Int), .int .u8 ((d 3).toNat : Int), .int .u8 ((d 4).toNat : Int), .int .u8 ((d 5).toNat : Int), .int .u8 ((s 0).toNat : Int), .int .u8 ((s 1).toNat : Int), .int .u8 ((s 2).toNat : Int), .int .u8 ((s 3).toNat : Int), .int .u8 ((s 4).toNat : Int), .int .u8 ((s 5).toNat : Int), .int .i64 ty, .string body, .int .i64 v, .int .i64 pr] 33)) 27 #[.int .u8 ((d 0).toNat : Int), .int .u8 ((d 1).toNat : Int), .int .u8 ((d 2).toNat : Int), .int .u8 ((d 3).toNat : Int), .int .u8 ((d 4).toNat : Int), .int .u8 ((d 5).toNat : Int), .int .u8 ((s 0).toNat : Int), .int .u8 ((s 1).toNat : Int), .int .u8 ((s 2).toNat : Int), .int .u8 ((s 3).toNat : Int), .int .u8 ((s 4).toNat : Int), .int .u8 ((s 5).toNat : Int), .int .i64 ty, .string body, .int .i64 v, .int .i64 pr]
    show RowIs _ _ _ _
    simpa using this
  go_wp2_with fail
  refine bodyPost_ret (results_row Try.results10 _ _ (w.heap.size + 1) _ _ _ rfl HR.out Try.underlying27 rfl hi) rfl ?_
  exact ⟨rfl, ((Below.refl _ _).alloc (Nat.le_refl _) _).alloc (by simp) _⟩
end Go.Proofs.Ytdkgjbakbnhmaaa
