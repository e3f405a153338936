/- The walk of OctTexts. By an AI agent. -/
import Derived.Test.YtknnadnjikfibaaOctLaws
import Derived.Test.YtknnadnjikfibaaArrays
import Derived.Deep.DeepCutAuto
import Derived.Lib.QuietBelow
namespace Go.Proofs.Ytknnadnjikfibaa
open Go.RowKit Go.Sort

namespace Oct
theorem mac_same (m n : List UInt8) (hm : 0 < m.length) (hn : 0 < n.length) : (macText m == macText n) = eqB m n := by
  rw [Bool.eq_iff_iff, beq_iff_eq, eqB_true]
  exact ⟨macText_inj m n hm hn, fun h => by rw [h]⟩
theorem ip_same (a b c d a' b' c' d' : UInt8) : (ipText a b c d == ipText a' b' c' d') = eqB [a, b, c, d] [a', b', c', d'] := by
  rw [Bool.eq_iff_iff, beq_iff_eq, eqB_true]
  constructor
  · intro h
    obtain ⟨rfl, rfl, rfl, rfl⟩ := ipText_inj _ _ _ _ _ _ _ _ h
    rfl
  · intro h
    simp only [List.cons.injEq, and_true] at h
    obtain ⟨rfl, rfl, rfl, rfl⟩ := h
    rfl
end Oct

set_option maxHeartbeats 2000000 in
theorem octTexts_walk (a b c d e f a' b' c' d' e' f' p q r s p' q' r' s' : UInt8) (w : World) :
    Calls Try.prog 4 #[.agg #[.int .u8 (a.toNat : Int), .int .u8 (b.toNat : Int), .int .u8 (c.toNat : Int), .int .u8 (d.toNat : Int), .int .u8 (e.toNat : Int), .int .u8 (f.toNat : Int)],
      .agg #[.int .u8 (a'.toNat : Int), .int .u8 (b'.toNat : Int), .int .u8 (c'.toNat : Int), .int .u8 (d'.toNat : Int), .int .u8 (e'.toNat : Int), .int .u8 (f'.toNat : Int)],
      .agg #[.int .u8 (p.toNat : Int), .int .u8 (q.toNat : Int), .int .u8 (r.toNat : Int), .int .u8 (s.toNat : Int)],
      .agg #[.int .u8 (p'.toNat : Int), .int .u8 (q'.toNat : Int), .int .u8 (r'.toNat : Int), .int .u8 (s'.toNat : Int)]] w fun e w' => e = .returned (.bool true) ∧ Below w.heap.size w w' := by
  go_enter Try.func4, Try.ntmps4
  go_wp2_with fail
  generalize hW : (((w.alloc _).alloc _).alloc _).alloc _ = W
  have hz : W.heap.size = w.heap.size + 4 := by rw [← hW]; simp
  have hbW : Below w.heap.size w W := by rw [← hW]; exact ((((Below.refl _ _).alloc (Nat.le_refl _) _).alloc (by simp) _).alloc (by simp; omega) _).alloc (by simp; omega) _
  have c0_0 : W.cell? ⟨w.heap.size, 0, none⟩ = some (.int .u8 (a.toNat : Int)) := by subst hW; go_simp
  have c0_1 : W.cell? ⟨w.heap.size, 1, none⟩ = some (.int .u8 (b.toNat : Int)) := by subst hW; go_simp
  have c0_2 : W.cell? ⟨w.heap.size, 2, none⟩ = some (.int .u8 (c.toNat : Int)) := by subst hW; go_simp
  have c0_3 : W.cell? ⟨w.heap.size, 3, none⟩ = some (.int .u8 (d.toNat : Int)) := by subst hW; go_simp
  have c0_4 : W.cell? ⟨w.heap.size, 4, none⟩ = some (.int .u8 (e.toNat : Int)) := by subst hW; go_simp
  have c0_5 : W.cell? ⟨w.heap.size, 5, none⟩ = some (.int .u8 (f.toNat : Int)) := by subst hW; go_simp
  have c1_0 : W.cell? ⟨w.heap.size + 1, 0, none⟩ = some (.int .u8 (a'.toNat : Int)) := by subst hW; go_simp
  have c1_1 : W.cell? ⟨w.heap.size + 1, 1, none⟩ = some (.int .u8 (b'.toNat : Int)) := by subst hW; go_simp
  have c1_2 : W.cell? ⟨w.heap.size + 1, 2, none⟩ = some (.int .u8 (c'.toNat : Int)) := by subst hW; go_simp
  have c1_3 : W.cell? ⟨w.heap.size + 1, 3, none⟩ = some (.int .u8 (d'.toNat : Int)) := by subst hW; go_simp
  have c1_4 : W.cell? ⟨w.heap.size + 1, 4, none⟩ = some (.int .u8 (e'.toNat : Int)) := by subst hW; go_simp
  have c1_5 : W.cell? ⟨w.heap.size + 1, 5, none⟩ = some (.int .u8 (f'.toNat : Int)) := by subst hW; go_simp
  have c2_0 : W.cell? ⟨w.heap.size + 1 + 1, 0, none⟩ = some (.int .u8 (p.toNat : Int)) := by subst hW; go_simp
  have c2_1 : W.cell? ⟨w.heap.size + 1 + 1, 1, none⟩ = some (.int .u8 (q.toNat : Int)) := by subst hW; go_simp
  have c2_2 : W.cell? ⟨w.heap.size + 1 + 1, 2, none⟩ = some (.int .u8 (r.toNat : Int)) := by subst hW; go_simp
  have c2_3 : W.cell? ⟨w.heap.size + 1 + 1, 3, none⟩ = some (.int .u8 (s.toNat : Int)) := by subst hW; go_simp
  have c3_0 : W.cell? ⟨w.heap.size + 1 + 1 + 1, 0, none⟩ = some (.int .u8 (p'.toNat : Int)) := by subst hW; go_simp
  have c3_1 : W.cell? ⟨w.heap.size + 1 + 1 + 1, 1, none⟩ = some (.int .u8 (q'.toNat : Int)) := by subst hW; go_simp
  have c3_2 : W.cell? ⟨w.heap.size + 1 + 1 + 1, 2, none⟩ = some (.int .u8 (r'.toNat : Int)) := by subst hW; go_simp
  have c3_3 : W.cell? ⟨w.heap.size + 1 + 1 + 1, 3, none⟩ = some (.int .u8 (s'.toNat : Int)) := by subst hW; go_simp
  have HZ := Lib.hid hz
  clear hz hW
  have k0_0 := cell_regrown c0_0
  have k0_1 := cell_regrown c0_1
  have k0_2 := cell_regrown c0_2
  have k0_3 := cell_regrown c0_3
  have k0_4 := cell_regrown c0_4
  have k0_5 := cell_regrown c0_5
  have k1_0 := cell_regrown c1_0
  have k1_1 := cell_regrown c1_1
  have k1_2 := cell_regrown c1_2
  have k1_3 := cell_regrown c1_3
  have k1_4 := cell_regrown c1_4
  have k1_5 := cell_regrown c1_5
  have k2_0 := cell_regrown c2_0
  have k2_1 := cell_regrown c2_1
  have k2_2 := cell_regrown c2_2
  have k2_3 := cell_regrown c2_3
  have k3_0 := cell_regrown c3_0
  have k3_1 := cell_regrown c3_1
  have k3_2 := cell_regrown c3_2
  have k3_3 := cell_regrown c3_3
  have cA : ∀ dd os, Calls Try.prog 8 #[.agg #[.int .u8 (a.toNat : Int), .int .u8 (b.toNat : Int), .int .u8 (c.toNat : Int), .int .u8 (d.toNat : Int), .int .u8 (e.toNat : Int), .int .u8 (f.toNat : Int)]] (grow (redrawn W dd) os) fun e'' w'' => e'' = .returned (.string ⟨(Oct.macText [a, b, c, d, e, f]).toArray⟩) ∧ ∃ p : Regrown, w'' = grow (redrawn W p.d) p.os := fun dd os => Calls.regrown_of (macText_any a b c d e f _)
  have cB : ∀ dd os, Calls Try.prog 8 #[.agg #[.int .u8 (a'.toNat : Int), .int .u8 (b'.toNat : Int), .int .u8 (c'.toNat : Int), .int .u8 (d'.toNat : Int), .int .u8 (e'.toNat : Int), .int .u8 (f'.toNat : Int)]] (grow (redrawn W dd) os) fun e'' w'' => e'' = .returned (.string ⟨(Oct.macText [a', b', c', d', e', f']).toArray⟩) ∧ ∃ p : Regrown, w'' = grow (redrawn W p.d) p.os := fun dd os => Calls.regrown_of (macText_any a' b' c' d' e' f' _)
  have CA := Lib.hid cA
  have CB := Lib.hid cB
  clear cA cB
  refine wp_region_quiet_below (by kernel_rfl) (by kernel_rfl) ?_
  repeat (quiet_step (first | (with_reducible exact CA.out _ _) | (with_reducible exact CB.out _ _)))
  refine wpQuiet_nil ?_
  intro _ hw'
  obtain ⟨⟨dq, osq⟩, hw''⟩ := hw'
  subst hw''
  have b2 := below_regrown W dq osq
  go_wp2_with fail
  generalize hW2 : grow (redrawn W dq) osq = W2 at b2 ⊢
  clear hW2
  clear k0_0 k0_1 k0_2 k0_3 k0_4 k0_5 k1_0 k1_1 k1_2 k1_3 k1_4 k1_5 k2_0 k2_1 k2_2 k2_3 k3_0 k3_1 k3_2 k3_3
  have d0_0 := cell_of_below b2 c0_0
  have d0_1 := cell_of_below b2 c0_1
  have d0_2 := cell_of_below b2 c0_2
  have d0_3 := cell_of_below b2 c0_3
  have d0_4 := cell_of_below b2 c0_4
  have d0_5 := cell_of_below b2 c0_5
  have d1_0 := cell_of_below b2 c1_0
  have d1_1 := cell_of_below b2 c1_1
  have d1_2 := cell_of_below b2 c1_2
  have d1_3 := cell_of_below b2 c1_3
  have d1_4 := cell_of_below b2 c1_4
  have d1_5 := cell_of_below b2 c1_5
  have d2_0 := cell_of_below b2 c2_0
  have d2_1 := cell_of_below b2 c2_1
  have d2_2 := cell_of_below b2 c2_2
  have d2_3 := cell_of_below b2 c2_3
  have d3_0 := cell_of_below b2 c3_0
  have d3_1 := cell_of_below b2 c3_1
  have d3_2 := cell_of_below b2 c3_2
  have d3_3 := cell_of_below b2 c3_3
  have k0_0 := cell_regrown d0_0
  have k0_1 := cell_regrown d0_1
  have k0_2 := cell_regrown d0_2
  have k0_3 := cell_regrown d0_3
  have k0_4 := cell_regrown d0_4
  have k0_5 := cell_regrown d0_5
  have k1_0 := cell_regrown d1_0
  have k1_1 := cell_regrown d1_1
  have k1_2 := cell_regrown d1_2
  have k1_3 := cell_regrown d1_3
  have k1_4 := cell_regrown d1_4
  have k1_5 := cell_regrown d1_5
  have k2_0 := cell_regrown d2_0
  have k2_1 := cell_regrown d2_1
  have k2_2 := cell_regrown d2_2
  have k2_3 := cell_regrown d2_3
  have k3_0 := cell_regrown d3_0
  have k3_1 := cell_regrown d3_1
  have k3_2 := cell_regrown d3_2
  have k3_3 := cell_regrown d3_3
  clear c0_0 c0_1 c0_2 c0_3 c0_4 c0_5 c1_0 c1_1 c1_2 c1_3 c1_4 c1_5 c2_0 c2_1 c2_2 c2_3 c3_0 c3_1 c3_2 c3_3
  have cA : ∀ dd os, Calls Try.prog 9 #[.agg #[.int .u8 (p.toNat : Int), .int .u8 (q.toNat : Int), .int .u8 (r.toNat : Int), .int .u8 (s.toNat : Int)]] (grow (redrawn W2 dd) os) fun e'' w'' => e'' = .returned (.string ⟨(Oct.ipText p q r s).toArray⟩) ∧ ∃ p : Regrown, w'' = grow (redrawn W2 p.d) p.os := fun dd os => Calls.regrown_of (ipText_any p q r s _)
  have cB : ∀ dd os, Calls Try.prog 9 #[.agg #[.int .u8 (p'.toNat : Int), .int .u8 (q'.toNat : Int), .int .u8 (r'.toNat : Int), .int .u8 (s'.toNat : Int)]] (grow (redrawn W2 dd) os) fun e'' w'' => e'' = .returned (.string ⟨(Oct.ipText p' q' r' s').toArray⟩) ∧ ∃ p : Regrown, w'' = grow (redrawn W2 p.d) p.os := fun dd os => Calls.regrown_of (ipText_any p' q' r' s' _)
  have CC := Lib.hid cA
  have CD := Lib.hid cB
  clear cA cB
  refine wp_region_quiet_below (by kernel_rfl) (by kernel_rfl) ?_
  repeat (quiet_step (first | (with_reducible exact CC.out _ _) | (with_reducible exact CD.out _ _)))
  refine wpQuiet_nil ?_
  intro _ hw'
  obtain ⟨⟨dq2, osq2⟩, hw''⟩ := hw'
  subst hw''
  have b3 := below_regrown W2 dq2 osq2
  go_wp2_with fail
  generalize hW3 : grow (redrawn W2 dq2) osq2 = W3 at b3 ⊢
  clear hW3
  refine (awake_any _).mono ?_
  rintro e'' W4 ⟨rfl, b4⟩
  clear k0_0 k0_1 k0_2 k0_3 k0_4 k0_5 k1_0 k1_1 k1_2 k1_3 k1_4 k1_5 k2_0 k2_1 k2_2 k2_3 k3_0 k3_1 k3_2 k3_3
  have f0_0 := cell_of_below b4 (cell_of_below b3 d0_0)
  have f0_1 := cell_of_below b4 (cell_of_below b3 d0_1)
  have f0_2 := cell_of_below b4 (cell_of_below b3 d0_2)
  have f0_3 := cell_of_below b4 (cell_of_below b3 d0_3)
  have f0_4 := cell_of_below b4 (cell_of_below b3 d0_4)
  have f0_5 := cell_of_below b4 (cell_of_below b3 d0_5)
  have f1_0 := cell_of_below b4 (cell_of_below b3 d1_0)
  have f1_1 := cell_of_below b4 (cell_of_below b3 d1_1)
  have f1_2 := cell_of_below b4 (cell_of_below b3 d1_2)
  have f1_3 := cell_of_below b4 (cell_of_below b3 d1_3)
  have f1_4 := cell_of_below b4 (cell_of_below b3 d1_4)
  have f1_5 := cell_of_below b4 (cell_of_below b3 d1_5)
  have f2_0 := cell_of_below b4 (cell_of_below b3 d2_0)
  have f2_1 := cell_of_below b4 (cell_of_below b3 d2_1)
  have f2_2 := cell_of_below b4 (cell_of_below b3 d2_2)
  have f2_3 := cell_of_below b4 (cell_of_below b3 d2_3)
  have f3_0 := cell_of_below b4 (cell_of_below b3 d3_0)
  have f3_1 := cell_of_below b4 (cell_of_below b3 d3_1)
  have f3_2 := cell_of_below b4 (cell_of_below b3 d3_2)
  have f3_3 := cell_of_below b4 (cell_of_below b3 d3_3)
  clear d0_0 d0_1 d0_2 d0_3 d0_4 d0_5 d1_0 d1_1 d1_2 d1_3 d1_4 d1_5 d2_0 d2_1 d2_2 d2_3 d3_0 d3_1 d3_2 d3_3
  have e1 := run_equalIn_mac 9998 a b c d e f a' b' c' d' e' f'
  have e2 := run_equalIn_ip 9998 p q r s p' q' r' s'
  have l1 : ((Oct.macText [a, b, c, d, e, f]).length : Int) = 17 := by rw [Oct.macText_length]; rfl
  have l1b : (((Oct.macText [a, b, c, d, e, f]).length : Int) == 17) = true := by rw [l1]; rfl
  have l2 := Oct.ipText_length p q r s
  clear l1
  have h1 := Oct.mac_same [a, b, c, d, e, f] [a', b', c', d', e', f'] (by simp) (by simp)
  have h2 := Oct.ip_same p q r s p' q' r' s'
  go_wp2_with fail
  go_ret
  exact ⟨rfl, hbW.trans (((b2.trans (b3.mono b2.size)).trans (b4.mono (Nat.le_trans b2.size b3.size))).mono hbW.size)⟩
end Go.Proofs.Ytknnadnjikfibaa
