/- causeyref12.Take of what is no piece. By an AI agent. -/
import Derived.Test.YtmipdbmmhoacpaaTt0
import Derived.Test.YtmipdbmmhoacpaaRefOct
import Derived.Test.YtmipdbmmhoacpaaOwn
namespace Go.Proofs.Ytmipdbmmhoacpaa
open Go.RowKit Go.Sort Grow

theorem results_four {fn : Func} {t u v x : Tmp} (h : fn.results = #[.tmp t, .tmp u, .tmp v, .tmp x]) (tmps : Array Value) (P : Program) (w : World) :
    (results fn tmps).run P w = .ok (.tuple #[tmps.getD t undef, tmps.getD u undef, tmps.getD v undef, tmps.getD x undef]) w := by
  simp [results, h]

set_option maxRecDepth 20000 in
theorem refTake_empty (v0 : Value) (w : World) : Calls Try.prog 20 #[v0, .string ⟨#[]⟩] w fun e w' => e = .returned (.tuple #[v0, .string ⟨#[]⟩, .bool false, .int .i64 2]) ∧ Below w.heap.size w w' := by
  go_enter Try.func20, Try.ntmps20
  go_wp2_with fail
  refine bodyPost_ret (results_four Try.results20 _ _ _) rfl ?_
  exact ⟨rfl, Below.refl _ _⟩

set_option maxRecDepth 20000 in
set_option maxHeartbeats 1000000 in
theorem refTake_small (v0 : Value) (s : ByteArray) (w : World) (h1 : 1 ≤ s.size) (x : Nat) (h0 : s[0].toNat = x) (er : Nat)
    (hcase : (x = 0 ∧ 1 < s.size ∧ er = 3) ∨ (x = 0 ∧ s.size = 1 ∧ er = 0) ∨ (2 ≤ x ∧ er = 3) ∨ (x = 1 ∧ s.size < 8 ∧ er = 2)) : Calls Try.prog 20 #[v0, .string s] w fun e w' => e = .returned (.tuple #[v0, .string ⟨#[]⟩, .bool false, .int .i64 (er : Nat)]) ∧ Below w.heap.size w w' := by
  have hz : ((s.size : Int) == 0) = false := by rw [beq_eq_false_iff_ne]; omega
  have hx0 : (0 : Int) < (s.size : Int) := by omega
  rcases hcase with ⟨rfl, h2, rfl⟩ | ⟨rfl, h2, rfl⟩ | ⟨h2, rfl⟩ | ⟨rfl, h2, rfl⟩
  · have d1 : decide (1 < (s.size : Int)) = true := decide_eq_true (by omega)
    go_enter Try.func20, Try.ntmps20
    go_wp2_with fail
    refine bodyPost_ret (results_four Try.results20 _ _ _) rfl ?_
    exact ⟨rfl, Below.refl _ _⟩
  · have d1 : decide (1 < (s.size : Int)) = false := decide_eq_false (by omega)
    clear h2
    go_enter Try.func20, Try.ntmps20
    go_wp2_with fail
    refine bodyPost_ret (results_four Try.results20 _ _ _) rfl ?_
    exact ⟨rfl, Below.refl _ _⟩
  · have e1 : ((x : Int) == 0) = false := by rw [beq_eq_false_iff_ne]; omega
    have e2 : ((x : Int) == 1) = false := by rw [beq_eq_false_iff_ne]; omega
    clear h2
    go_enter Try.func20, Try.ntmps20
    go_wp2_with fail
    refine bodyPost_ret (results_four Try.results20 _ _ _) rfl ?_
    exact ⟨rfl, Below.refl _ _⟩
  · have d1 : decide ((s.size : Int) < 8) = true := decide_eq_true (by omega)
    go_enter Try.func20, Try.ntmps20
    go_wp2_with fail
    refine bodyPost_ret (results_four Try.results20 _ _ _) rfl ?_
    exact ⟨rfl, Below.refl _ _⟩

set_option maxRecDepth 20000 in
set_option maxHeartbeats 2000000 in
theorem refTake_form (v0 : Value) (s : ByteArray) (w : World) (x y : Nat) (h8 : 8 ≤ s.size) (h2000 : s.size ≤ 100000) (h0 : s[0].toNat = 1) (ha : s[5].toNat = x) (hc : s[6].toNat = y) (hf : ¬ Tun.fits x y (s.size - 7)) : Calls Try.prog 20 #[v0, .string s] w fun e w' => e = .returned (.tuple #[v0, .string ⟨#[]⟩, .bool false, .int .i64 3]) ∧ Below w.heap.size w w' := by
  have HF := Lib.hid hf
  clear hf
  have N := Lib.hid (fun w => refNumber_any (s.extract 1 5) w (by simp; omega))
  have hnum := Oct.num_lt 4 (s.extract 1 5).data.toList (by simp; omega)
  have hnum : Oct.num (s.extract 1 5).data.toList < 4294967296 := Nat.lt_of_lt_of_eq hnum (by decide)
  generalize Oct.num (s.extract 1 5).data.toList = n at *
  have hab := s[5].toNat_lt
  have hcb := s[6].toNat_lt
  have hxs : (s.extract 7 s.size).size = s.size - 7 := by rw [ByteArray.size_extract]; omega
  have hz : ((s.size : Int) == 0) = false := by rw [beq_eq_false_iff_ne]; omega
  have hx0 : (0 : Int) < (s.size : Int) := by omega
  have dd : decide ((s.size : Int) < 8) = false := decide_eq_false (by omega)
  have wn : IntKind.u32.wrap (n : Int) = n := by rw [IntKind.wrap_u32']; omega
  have wx : IntKind.i64.wrap (x : Int) = x := by rw [IntKind.wrap_i64]; omega
  have wy : IntKind.i64.wrap (y : Int) = y := by rw [IntKind.wrap_i64]; omega
  have wy1 : IntKind.i64.wrap ((y : Int) - 1) = (y : Int) - 1 := by rw [IntKind.wrap_i64]; omega
  go_enter Try.func20, Try.ntmps20
  go_wp2_with fail
  refine (N.out _).mono ?_
  rintro e w1 ⟨rfl, rfl⟩
  clear N
  go_upto_region 12 with fail
  go_quiet (fail)
  have hbq : Below w.heap.size w (w.drewN nq) := below_drewN (Below.refl _ _) _
  generalize w.drewN nq = w2 at *
  by_cases g1 : y < 1
  · have d1 : decide ((y : Int) < 1) = true := decide_eq_true (by omega)
    go_wp2_with fail
    refine bodyPost_ret (results_four Try.results20 _ _ _) rfl ?_
    exact ⟨rfl, hbq⟩
  have d1 : decide ((y : Int) < 1) = false := decide_eq_false (by omega)
  have f1 : 1 ≤ y := by omega
  clear g1
  by_cases g2 : 3 < y
  · have d2 : decide (3 < (y : Int)) = true := decide_eq_true (by omega)
    go_wp2_with fail
    refine bodyPost_ret (results_four Try.results20 _ _ _) rfl ?_
    exact ⟨rfl, hbq⟩
  have d2 : decide (3 < (y : Int)) = false := decide_eq_false (by omega)
  have f2 : y ≤ 3 := by omega
  clear g2
  by_cases g3 : y ≤ x
  · have d3 : decide ((y : Int) ≤ (x : Int)) = true := decide_eq_true (by omega)
    go_wp2_with fail
    refine bodyPost_ret (results_four Try.results20 _ _ _) rfl ?_
    exact ⟨rfl, hbq⟩
  have d3 : decide ((y : Int) ≤ (x : Int)) = false := decide_eq_false (by omega)
  have f3 : x < y := by omega
  clear g3
  by_cases g5 : 512 < s.size - 7
  · have d5 : decide (512 < ((s.size - 7 : Nat) : Int)) = true := decide_eq_true (by omega)
    go_wp2_with fail
    refine bodyPost_ret (results_four Try.results20 _ _ _) rfl ?_
    exact ⟨rfl, hbq⟩
  have d5 : decide (512 < ((s.size - 7 : Nat) : Int)) = false := decide_eq_false (by omega)
  have f5 : s.size - 7 ≤ 512 := by omega
  have g6 : x + 1 ≠ y ∧ s.size - 7 < 512 := by
    have := HF.out
    unfold Tun.fits at this
    omega
  have d6 : decide ((x : Int) < (y : Int) - 1) = true := decide_eq_true (by omega)
  have d7 : decide (((s.size - 7 : Nat) : Int) < 512) = true := decide_eq_true (by omega)
  have f6 := g6.2
  clear g5 g6
  go_wp2_with fail
  refine bodyPost_ret (results_four Try.results20 _ _ _) rfl ?_
  exact ⟨rfl, hbq⟩

end Go.Proofs.Ytmipdbmmhoacpaa
