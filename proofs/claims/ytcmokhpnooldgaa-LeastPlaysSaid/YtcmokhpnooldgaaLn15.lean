/- awake; roots, distances, ports are there. By an AI agent. -/
import Derived.Test.YtcmokhpnooldgaaLn14
namespace Go.Proofs.Ytcmokhpnooldgaa
open Go.RowKit Go.WideShapes Go.Sort Grow

theorem roots_from {N : LN} (hok : N.Ok) : ∀ (m : Nat) (r : List Nat), RInv N r → rankSum N r ≤ m → ∃ r, IsRoots N r
  | m, r, h, hm => by
    rcases rdR_change hok h N.dirs.length (Nat.le_refl _) with ⟨_, h2⟩ | ⟨_, h2⟩
    · cases m with
      | zero => omega
      | succ m => exact roots_from hok m _ (rdR_inv hok h N.dirs.length (Nat.le_refl _)) (by omega)
    · refine ⟨r, h.fixed hok fun d hd => ?_⟩
      obtain ⟨k, hk, rfl⟩ := List.mem_iff_getElem.1 hd
      exact h2 k _ hk (List.getElem?_eq_getElem hk)
theorem roots_ex {N : LN} (hok : N.Ok) : ∃ r, IsRoots N r := roots_from hok _ _ (rinv_start N) (Nat.le_refl _)
/-- all that is told of a right net -/
structure Sol (N : LN) (R : List Nat) (D q : List Int) : Prop where
  ok : N.Ok
  roots : IsRoots N R
  dist : IsDist N R D
  ports : IsPorts N R D q
theorem sol_ex {N : LN} (hok : N.Ok) : ∃ R D q, Sol N R D q := by
  obtain ⟨R, hR⟩ := roots_ex hok
  exact ⟨R, _, _, hok, hR, dist_is hok hR, ports_is hok hR _⟩

/-- the document's example -/
def N0 : LN := ⟨[⟨1, 0, 0, 0, 0, 0, 0, 0⟩, ⟨2, 0, 0, 0, 0, 0, 0, 0⟩], [[5, 5], [5, 5]], [⟨0, 0, 1, 0⟩, ⟨0, 1, 1, 1⟩]⟩
theorem n0_ok : N0.Ok := right_iff.1 (by decide)
theorem n0_roots : IsRoots N0 [0, 0] := by
  have h2 : ∀ i, i < N0.ids.length → i = 0 ∨ i = 1 := fun i hi => by
    have hi : i < 2 := hi
    omega
  refine ⟨rfl, fun i hi => ?_, fun i hi => ?_, fun i j hi hc => ?_⟩
  · rcases h2 i hi with rfl | rfl <;> decide
  · rcases h2 i hi with rfl | rfl
    · exact .refl 0
    · exact Conn.step (d := ⟨1, 0, 0, 0⟩) (.refl 1) (mem_dirs.2 ⟨⟨0, 0, 1, 0⟩, by simp [N0], .inr rfl⟩)
  · have hj := conn_lt n0_ok hi hc
    rcases h2 i hi with rfl | rfl <;> rcases h2 j hj with rfl | rfl <;> decide
theorem n0_dist : IsDist N0 [0, 0] [0, 5] := by
  have h := dist_is n0_ok n0_roots
  rwa [show rounds18 (stD N0) N0.dirs N0.ids.length (startD [0, 0]) = [0, 5] from by decide] at h
theorem n0_ports : IsPorts N0 [0, 0] [0, 5] [-1, 0] := by
  have h := ports_is n0_ok n0_roots [0, 5]
  rwa [show (stPs N0 [0, 0] [0, 5] N0.dirs.length).1 = [-1, 0] from by decide] at h

set_option maxRecDepth 20000 in
set_option maxHeartbeats 2000000 in
theorem awake18 (w : World) : Calls Try.prog 9 #[] w fun e w' => e = .returned (.bool true) ∧ Below w.heap.size w w' := by
  go_enter Try.func9, Try.ntmps9
  go_upto_region 2 with fail
  have r0 : Hid (RowIs ((((((w.alloc (.cells #[.int .u8 1, .int .u8 0, .int .u8 0, .int .u8 0, .int .u8 0, .int .u8 0, .int .u8 0, .int .u8 0, .int .u8 2, .int .u8 0, .int .u8 0, .int .u8 0, .int .u8 0, .int .u8 0, .int .u8 0, .int .u8 0] 61)).alloc (.cells #[.int .i64 5, .int .i64 5] 3)).alloc (.cells #[.int .i64 5, .int .i64 5] 3)).alloc (.cells #[.slice (some ⟨w.heap.size + 1, 0, none⟩) 2 2, .slice (some ⟨w.heap.size + 1 + 1, 0, none⟩) 2 2] 35)).alloc (.cells #[.int .i64 0, .int .i64 0, .int .i64 1, .int .i64 0, .int .i64 0, .int .i64 1, .int .i64 1, .int .i64 1] 64)).alloc (.cells #[.slice (some ⟨w.heap.size, 0, none⟩) 2 2, .slice (some ⟨w.heap.size + 1 + 1 + 1, 0, none⟩) 2 2, .slice (some ⟨w.heap.size + 1 + 1 + 1 + 1, 0, none⟩) 2 2] 32)) (w.heap.size) 61 #[.int .u8 1, .int .u8 0, .int .u8 0, .int .u8 0, .int .u8 0, .int .u8 0, .int .u8 0, .int .u8 0, .int .u8 2, .int .u8 0, .int .u8 0, .int .u8 0, .int .u8 0, .int .u8 0, .int .u8 0, .int .u8 0]) := by
    have h := rowIs_new w 61 #[.int .u8 1, .int .u8 0, .int .u8 0, .int .u8 0, .int .u8 0, .int .u8 0, .int .u8 0, .int .u8 0, .int .u8 2, .int .u8 0, .int .u8 0, .int .u8 0, .int .u8 0, .int .u8 0, .int .u8 0, .int .u8 0]
    (try simp only [World.size_alloc] at h)
    exact (((((h).alloc _).alloc _).alloc _).alloc _).alloc _
  have r1 : Hid (RowIs ((((((w.alloc (.cells #[.int .u8 1, .int .u8 0, .int .u8 0, .int .u8 0, .int .u8 0, .int .u8 0, .int .u8 0, .int .u8 0, .int .u8 2, .int .u8 0, .int .u8 0, .int .u8 0, .int .u8 0, .int .u8 0, .int .u8 0, .int .u8 0] 61)).alloc (.cells #[.int .i64 5, .int .i64 5] 3)).alloc (.cells #[.int .i64 5, .int .i64 5] 3)).alloc (.cells #[.slice (some ⟨w.heap.size + 1, 0, none⟩) 2 2, .slice (some ⟨w.heap.size + 1 + 1, 0, none⟩) 2 2] 35)).alloc (.cells #[.int .i64 0, .int .i64 0, .int .i64 1, .int .i64 0, .int .i64 0, .int .i64 1, .int .i64 1, .int .i64 1] 64)).alloc (.cells #[.slice (some ⟨w.heap.size, 0, none⟩) 2 2, .slice (some ⟨w.heap.size + 1 + 1 + 1, 0, none⟩) 2 2, .slice (some ⟨w.heap.size + 1 + 1 + 1 + 1, 0, none⟩) 2 2] 32)) (w.heap.size + 1) 3 #[.int .i64 5, .int .i64 5]) := by
    have h := rowIs_new (w.alloc (.cells #[.int .u8 1, .int .u8 0, .int .u8 0, .int .u8 0, .int .u8 0, .int .u8 0, .int .u8 0, .int .u8 0, .int .u8 2, .int .u8 0, .int .u8 0, .int .u8 0, .int .u8 0, .int .u8 0, .int .u8 0, .int .u8 0] 61)) 3 #[.int .i64 5, .int .i64 5]
    (try simp only [World.size_alloc] at h)
    exact ((((h).alloc _).alloc _).alloc _).alloc _
  have r2 : Hid (RowIs ((((((w.alloc (.cells #[.int .u8 1, .int .u8 0, .int .u8 0, .int .u8 0, .int .u8 0, .int .u8 0, .int .u8 0, .int .u8 0, .int .u8 2, .int .u8 0, .int .u8 0, .int .u8 0, .int .u8 0, .int .u8 0, .int .u8 0, .int .u8 0] 61)).alloc (.cells #[.int .i64 5, .int .i64 5] 3)).alloc (.cells #[.int .i64 5, .int .i64 5] 3)).alloc (.cells #[.slice (some ⟨w.heap.size + 1, 0, none⟩) 2 2, .slice (some ⟨w.heap.size + 1 + 1, 0, none⟩) 2 2] 35)).alloc (.cells #[.int .i64 0, .int .i64 0, .int .i64 1, .int .i64 0, .int .i64 0, .int .i64 1, .int .i64 1, .int .i64 1] 64)).alloc (.cells #[.slice (some ⟨w.heap.size, 0, none⟩) 2 2, .slice (some ⟨w.heap.size + 1 + 1 + 1, 0, none⟩) 2 2, .slice (some ⟨w.heap.size + 1 + 1 + 1 + 1, 0, none⟩) 2 2] 32)) (w.heap.size + 1 + 1) 3 #[.int .i64 5, .int .i64 5]) := by
    have h := rowIs_new ((w.alloc (.cells #[.int .u8 1, .int .u8 0, .int .u8 0, .int .u8 0, .int .u8 0, .int .u8 0, .int .u8 0, .int .u8 0, .int .u8 2, .int .u8 0, .int .u8 0, .int .u8 0, .int .u8 0, .int .u8 0, .int .u8 0, .int .u8 0] 61)).alloc (.cells #[.int .i64 5, .int .i64 5] 3)) 3 #[.int .i64 5, .int .i64 5]
    (try simp only [World.size_alloc] at h)
    exact (((h).alloc _).alloc _).alloc _
  have r3 : Hid (RowIs ((((((w.alloc (.cells #[.int .u8 1, .int .u8 0, .int .u8 0, .int .u8 0, .int .u8 0, .int .u8 0, .int .u8 0, .int .u8 0, .int .u8 2, .int .u8 0, .int .u8 0, .int .u8 0, .int .u8 0, .int .u8 0, .int .u8 0, .int .u8 0] 61)).alloc (.cells #[.int .i64 5, .int .i64 5] 3)).alloc (.cells #[.int .i64 5, .int .i64 5] 3)).alloc (.cells #[.slice (some ⟨w.heap.size + 1, 0, none⟩) 2 2, .slice (some ⟨w.heap.size + 1 + 1, 0, none⟩) 2 2] 35)).alloc (.cells #[.int .i64 0, .int .i64 0, .int .i64 1, .int .i64 0, .int .i64 0, .int .i64 1, .int .i64 1, .int .i64 1] 64)).alloc (.cells #[.slice (some ⟨w.heap.size, 0, none⟩) 2 2, .slice (some ⟨w.heap.size + 1 + 1 + 1, 0, none⟩) 2 2, .slice (some ⟨w.heap.size + 1 + 1 + 1 + 1, 0, none⟩) 2 2] 32)) (w.heap.size + 1 + 1 + 1) 35 #[.slice (some ⟨w.heap.size + 1, 0, none⟩) 2 2, .slice (some ⟨w.heap.size + 1 + 1, 0, none⟩) 2 2]) := by
    have h := rowIs_new (((w.alloc (.cells #[.int .u8 1, .int .u8 0, .int .u8 0, .int .u8 0, .int .u8 0, .int .u8 0, .int .u8 0, .int .u8 0, .int .u8 2, .int .u8 0, .int .u8 0, .int .u8 0, .int .u8 0, .int .u8 0, .int .u8 0, .int .u8 0] 61)).alloc (.cells #[.int .i64 5, .int .i64 5] 3)).alloc (.cells #[.int .i64 5, .int .i64 5] 3)) 35 #[.slice (some ⟨w.heap.size + 1, 0, none⟩) 2 2, .slice (some ⟨w.heap.size + 1 + 1, 0, none⟩) 2 2]
    (try simp only [World.size_alloc] at h)
    exact ((h).alloc _).alloc _
  have r4 : Hid (RowIs ((((((w.alloc (.cells #[.int .u8 1, .int .u8 0, .int .u8 0, .int .u8 0, .int .u8 0, .int .u8 0, .int .u8 0, .int .u8 0, .int .u8 2, .int .u8 0, .int .u8 0, .int .u8 0, .int .u8 0, .int .u8 0, .int .u8 0, .int .u8 0] 61)).alloc (.cells #[.int .i64 5, .int .i64 5] 3)).alloc (.cells #[.int .i64 5, .int .i64 5] 3)).alloc (.cells #[.slice (some ⟨w.heap.size + 1, 0, none⟩) 2 2, .slice (some ⟨w.heap.size + 1 + 1, 0, none⟩) 2 2] 35)).alloc (.cells #[.int .i64 0, .int .i64 0, .int .i64 1, .int .i64 0, .int .i64 0, .int .i64 1, .int .i64 1, .int .i64 1] 64)).alloc (.cells #[.slice (some ⟨w.heap.size, 0, none⟩) 2 2, .slice (some ⟨w.heap.size + 1 + 1 + 1, 0, none⟩) 2 2, .slice (some ⟨w.heap.size + 1 + 1 + 1 + 1, 0, none⟩) 2 2] 32)) (w.heap.size + 1 + 1 + 1 + 1) 64 #[.int .i64 0, .int .i64 0, .int .i64 1, .int .i64 0, .int .i64 0, .int .i64 1, .int .i64 1, .int .i64 1]) := by
    have h := rowIs_new ((((w.alloc (.cells #[.int .u8 1, .int .u8 0, .int .u8 0, .int .u8 0, .int .u8 0, .int .u8 0, .int .u8 0, .int .u8 0, .int .u8 2, .int .u8 0, .int .u8 0, .int .u8 0, .int .u8 0, .int .u8 0, .int .u8 0, .int .u8 0] 61)).alloc (.cells #[.int .i64 5, .int .i64 5] 3)).alloc (.cells #[.int .i64 5, .int .i64 5] 3)).alloc (.cells #[.slice (some ⟨w.heap.size + 1, 0, none⟩) 2 2, .slice (some ⟨w.heap.size + 1 + 1, 0, none⟩) 2 2] 35)) 64 #[.int .i64 0, .int .i64 0, .int .i64 1, .int .i64 0, .int .i64 0, .int .i64 1, .int .i64 1, .int .i64 1]
    (try simp only [World.size_alloc] at h)
    exact (h).alloc _
  have r5 : Hid (RowIs ((((((w.alloc (.cells #[.int .u8 1, .int .u8 0, .int .u8 0, .int .u8 0, .int .u8 0, .int .u8 0, .int .u8 0, .int .u8 0, .int .u8 2, .int .u8 0, .int .u8 0, .int .u8 0, .int .u8 0, .int .u8 0, .int .u8 0, .int .u8 0] 61)).alloc (.cells #[.int .i64 5, .int .i64 5] 3)).alloc (.cells #[.int .i64 5, .int .i64 5] 3)).alloc (.cells #[.slice (some ⟨w.heap.size + 1, 0, none⟩) 2 2, .slice (some ⟨w.heap.size + 1 + 1, 0, none⟩) 2 2] 35)).alloc (.cells #[.int .i64 0, .int .i64 0, .int .i64 1, .int .i64 0, .int .i64 0, .int .i64 1, .int .i64 1, .int .i64 1] 64)).alloc (.cells #[.slice (some ⟨w.heap.size, 0, none⟩) 2 2, .slice (some ⟨w.heap.size + 1 + 1 + 1, 0, none⟩) 2 2, .slice (some ⟨w.heap.size + 1 + 1 + 1 + 1, 0, none⟩) 2 2] 32)) (w.heap.size + 1 + 1 + 1 + 1 + 1) 32 #[.slice (some ⟨w.heap.size, 0, none⟩) 2 2, .slice (some ⟨w.heap.size + 1 + 1 + 1, 0, none⟩) 2 2, .slice (some ⟨w.heap.size + 1 + 1 + 1 + 1, 0, none⟩) 2 2]) := by
    have h := rowIs_new (((((w.alloc (.cells #[.int .u8 1, .int .u8 0, .int .u8 0, .int .u8 0, .int .u8 0, .int .u8 0, .int .u8 0, .int .u8 0, .int .u8 2, .int .u8 0, .int .u8 0, .int .u8 0, .int .u8 0, .int .u8 0, .int .u8 0, .int .u8 0] 61)).alloc (.cells #[.int .i64 5, .int .i64 5] 3)).alloc (.cells #[.int .i64 5, .int .i64 5] 3)).alloc (.cells #[.slice (some ⟨w.heap.size + 1, 0, none⟩) 2 2, .slice (some ⟨w.heap.size + 1 + 1, 0, none⟩) 2 2] 35)).alloc (.cells #[.int .i64 0, .int .i64 0, .int .i64 1, .int .i64 0, .int .i64 0, .int .i64 1, .int .i64 1, .int .i64 1] 64)) 32 #[.slice (some ⟨w.heap.size, 0, none⟩) 2 2, .slice (some ⟨w.heap.size + 1 + 1 + 1, 0, none⟩) 2 2, .slice (some ⟨w.heap.size + 1 + 1 + 1 + 1, 0, none⟩) 2 2]
    (try simp only [World.size_alloc] at h)
    exact h
  have hbw : Below w.heap.size w ((((((w.alloc (.cells #[.int .u8 1, .int .u8 0, .int .u8 0, .int .u8 0, .int .u8 0, .int .u8 0, .int .u8 0, .int .u8 0, .int .u8 2, .int .u8 0, .int .u8 0, .int .u8 0, .int .u8 0, .int .u8 0, .int .u8 0, .int .u8 0] 61)).alloc (.cells #[.int .i64 5, .int .i64 5] 3)).alloc (.cells #[.int .i64 5, .int .i64 5] 3)).alloc (.cells #[.slice (some ⟨w.heap.size + 1, 0, none⟩) 2 2, .slice (some ⟨w.heap.size + 1 + 1, 0, none⟩) 2 2] 35)).alloc (.cells #[.int .i64 0, .int .i64 0, .int .i64 1, .int .i64 0, .int .i64 0, .int .i64 1, .int .i64 1, .int .i64 1] 64)).alloc (.cells #[.slice (some ⟨w.heap.size, 0, none⟩) 2 2, .slice (some ⟨w.heap.size + 1 + 1 + 1, 0, none⟩) 2 2, .slice (some ⟨w.heap.size + 1 + 1 + 1 + 1, 0, none⟩) 2 2] 32)) := ((((((Below.refl _ _).alloc (Nat.le_refl _) _).alloc (by simp) _).alloc (by simp; omega) _).alloc (by simp; omega) _).alloc (by simp; omega) _).alloc (by simp; omega) _
  generalize ((((((w.alloc (.cells #[.int .u8 1, .int .u8 0, .int .u8 0, .int .u8 0, .int .u8 0, .int .u8 0, .int .u8 0, .int .u8 0, .int .u8 2, .int .u8 0, .int .u8 0, .int .u8 0, .int .u8 0, .int .u8 0, .int .u8 0, .int .u8 0] 61)).alloc (.cells #[.int .i64 5, .int .i64 5] 3)).alloc (.cells #[.int .i64 5, .int .i64 5] 3)).alloc (.cells #[.slice (some ⟨w.heap.size + 1, 0, none⟩) 2 2, .slice (some ⟨w.heap.size + 1 + 1, 0, none⟩) 2 2] 35)).alloc (.cells #[.int .i64 0, .int .i64 0, .int .i64 1, .int .i64 0, .int .i64 0, .int .i64 1, .int .i64 1, .int .i64 1] 64)).alloc (.cells #[.slice (some ⟨w.heap.size, 0, none⟩) 2 2, .slice (some ⟨w.heap.size + 1 + 1 + 1, 0, none⟩) 2 2, .slice (some ⟨w.heap.size + 1 + 1 + 1 + 1, 0, none⟩) 2 2] 32)) = W0 at *
  have HN : Hid (NetAt W0 ⟨some ⟨w.heap.size, 0, none⟩, 2, some ⟨w.heap.size + 1 + 1 + 1, 0, none⟩, 2, some ⟨w.heap.size + 1 + 1 + 1 + 1, 0, none⟩, 2⟩ N0) := by
    refine ⟨.inr ⟨_, 0, rfl, r0.out.lt, fun i hi j x hj => ?_⟩, .inr ⟨_, 0, rfl, r3.out.lt, fun i hi => ?_⟩, .inr ⟨_, 0, rfl, r4.out.lt, fun i hi j x hj => ?_⟩⟩
    · have hi : i < 2 := hi
      rw [r0.out.cell]
      rcases (show i = 0 ∨ i = 1 by omega) with rfl | rfl
      · have hj8 : j < 8 := (List.getElem?_eq_some_iff.1 hj).1
        rcases (show j = 0 ∨ j = 1 ∨ j = 2 ∨ j = 3 ∨ j = 4 ∨ j = 5 ∨ j = 6 ∨ j = 7 by omega) with rfl | rfl | rfl | rfl | rfl | rfl | rfl | rfl <;> exact hj
      · have hj8 : j < 8 := (List.getElem?_eq_some_iff.1 hj).1
        rcases (show j = 0 ∨ j = 1 ∨ j = 2 ∨ j = 3 ∨ j = 4 ∨ j = 5 ∨ j = 6 ∨ j = 7 by omega) with rfl | rfl | rfl | rfl | rfl | rfl | rfl | rfl <;> exact hj
    · have hi : i < 2 := hi
      have hin : ∀ (b : Nat), RowIs W0 b 3 #[.int .i64 5, .int .i64 5] → IntsAt W0 (some ⟨b, 0, none⟩) [5, 5] := fun b hb => .inr ⟨b, 0, rfl, fun i hi => by
        have hi : i < 2 := hi
        rw [hb.cell]
        rcases (show i = 0 ∨ i = 1 by omega) with rfl | rfl <;> rfl⟩
      rw [r3.out.cell]
      rcases (show i = 0 ∨ i = 1 by omega) with rfl | rfl
      · exact ⟨_, 2, rfl, hin _ r1.out⟩
      · exact ⟨_, 2, rfl, hin _ r2.out⟩
    · have hi : i < 2 := hi
      have hj4 : j < 4 := (List.getElem?_eq_some_iff.1 hj).1
      rw [r4.out.cell]
      rcases (show i = 0 ∨ i = 1 by omega) with rfl | rfl <;> rcases (show j = 0 ∨ j = 1 ∨ j = 2 ∨ j = 3 by omega) with rfl | rfl | rfl | rfl <;> exact hj
  have RB := Lib.hid r5.out
  have hb : Below W0.heap.size W0 W0 := Below.refl _ _
  clear r0 r1 r2 r3 r4 r5
  have HRT := Lib.hid (right18 ⟨some ⟨w.heap.size, 0, none⟩, 2, some ⟨w.heap.size + 1 + 1 + 1, 0, none⟩, 2, some ⟨w.heap.size + 1 + 1 + 1 + 1, 0, none⟩, 2⟩ N0 W0 HN.out (by decide))
  rw [right_iff.2 n0_ok] at HRT
  go_wp2_with ((with_reducible refine at_load 32 (.tmp 1) ?_); refine wpList_load_own rfl 32 (.tmp 1) rfl (w.heap.size + 1 + 1 + 1 + 1 + 1) rfl _ _ _ RB.out Try.underlying32 rfl (by kernel_rfl) ?_)
  refine HRT.out.mono ?_
  rintro e W1 ⟨rfl, hbk⟩
  have RB := Lib.hid (RB.out.kept hbk)
  have hb := hb.trans (hbk.mono hb.size)
  have hbw := hbw.trans (hbk.mono hbw.size)
  clear hbk HRT
  have H0 := Lib.hid (forw_yes ⟨some ⟨w.heap.size, 0, none⟩, 2, some ⟨w.heap.size + 1 + 1 + 1, 0, none⟩, 2, some ⟨w.heap.size + 1 + 1 + 1 + 1, 0, none⟩, 2⟩ N0 0 0 W1 (HN.out.kept hb) (by decide) n0_ok [0, 0] n0_roots [0, 5] n0_dist [-1, 0] n0_ports (by decide))
  rw [show forwB N0 [0, 5] [-1, 0] 0 0 = true from by decide] at H0
  go_wp2_with ((with_reducible refine at_load 32 (.tmp 1) ?_); refine wpList_load_own rfl 32 (.tmp 1) rfl (w.heap.size + 1 + 1 + 1 + 1 + 1) rfl _ _ _ RB.out Try.underlying32 rfl (by kernel_rfl) ?_)
  refine H0.out.mono ?_
  rintro e W2 ⟨rfl, hbk⟩
  have RB := Lib.hid (RB.out.kept hbk)
  have hb := hb.trans (hbk.mono hb.size)
  have hbw := hbw.trans (hbk.mono hbw.size)
  clear hbk H0
  have H1 := Lib.hid (forw_yes ⟨some ⟨w.heap.size, 0, none⟩, 2, some ⟨w.heap.size + 1 + 1 + 1, 0, none⟩, 2, some ⟨w.heap.size + 1 + 1 + 1 + 1, 0, none⟩, 2⟩ N0 0 1 W2 (HN.out.kept hb) (by decide) n0_ok [0, 0] n0_roots [0, 5] n0_dist [-1, 0] n0_ports (by decide))
  rw [show forwB N0 [0, 5] [-1, 0] 0 1 = true from by decide] at H1
  go_wp2_with ((with_reducible refine at_load 32 (.tmp 1) ?_); refine wpList_load_own rfl 32 (.tmp 1) rfl (w.heap.size + 1 + 1 + 1 + 1 + 1) rfl _ _ _ RB.out Try.underlying32 rfl (by kernel_rfl) ?_)
  refine H1.out.mono ?_
  rintro e W3 ⟨rfl, hbk⟩
  have RB := Lib.hid (RB.out.kept hbk)
  have hb := hb.trans (hbk.mono hb.size)
  have hbw := hbw.trans (hbk.mono hbw.size)
  clear hbk H1
  have H2 := Lib.hid (forw_yes ⟨some ⟨w.heap.size, 0, none⟩, 2, some ⟨w.heap.size + 1 + 1 + 1, 0, none⟩, 2, some ⟨w.heap.size + 1 + 1 + 1 + 1, 0, none⟩, 2⟩ N0 1 0 W3 (HN.out.kept hb) (by decide) n0_ok [0, 0] n0_roots [0, 5] n0_dist [-1, 0] n0_ports (by decide))
  rw [show forwB N0 [0, 5] [-1, 0] 1 0 = true from by decide] at H2
  go_wp2_with ((with_reducible refine at_load 32 (.tmp 1) ?_); refine wpList_load_own rfl 32 (.tmp 1) rfl (w.heap.size + 1 + 1 + 1 + 1 + 1) rfl _ _ _ RB.out Try.underlying32 rfl (by kernel_rfl) ?_)
  refine H2.out.mono ?_
  rintro e W4 ⟨rfl, hbk⟩
  have RB := Lib.hid (RB.out.kept hbk)
  have hb := hb.trans (hbk.mono hb.size)
  have hbw := hbw.trans (hbk.mono hbw.size)
  clear hbk H2
  have H3 := Lib.hid (forw_yes ⟨some ⟨w.heap.size, 0, none⟩, 2, some ⟨w.heap.size + 1 + 1 + 1, 0, none⟩, 2, some ⟨w.heap.size + 1 + 1 + 1 + 1, 0, none⟩, 2⟩ N0 1 1 W4 (HN.out.kept hb) (by decide) n0_ok [0, 0] n0_roots [0, 5] n0_dist [-1, 0] n0_ports (by decide))
  rw [show forwB N0 [0, 5] [-1, 0] 1 1 = false from by decide] at H3
  go_wp2_with ((with_reducible refine at_load 32 (.tmp 1) ?_); refine wpList_load_own rfl 32 (.tmp 1) rfl (w.heap.size + 1 + 1 + 1 + 1 + 1) rfl _ _ _ RB.out Try.underlying32 rfl (by kernel_rfl) ?_)
  refine H3.out.mono ?_
  rintro e W5 ⟨rfl, hbk⟩
  have RB := Lib.hid (RB.out.kept hbk)
  have hb := hb.trans (hbk.mono hb.size)
  have hbw := hbw.trans (hbk.mono hbw.size)
  clear hbk H3
  go_wp2_with fail
  go_ret
  exact ⟨rfl, hbw⟩
end Go.Proofs.Ytcmokhpnooldgaa
