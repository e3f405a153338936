/- causeyref16.Better, Held: by definition. By an AI agent. -/
import Derived.Test.YthadlpiioabajaaRefLess
import Derived.Test.YthadlpiioabajaaBestRun
namespace Go.Proofs.Ythadlpiioabajaa
open Go.RowKit Go.Sort Grow

theorem refHeld_any (n : Int) (w : World) : Calls Try.prog 16 #[.int .i64 n] w fun e w' => e = .returned (.int .i64 (Vec.held n)) ∧ w = w' := by
  have key : (n < 0 ∧ Vec.held n = 0) ∨ (¬ n < 0 ∧ 1099511627776 < n ∧ Vec.held n = 1099511627776) ∨ (¬ n < 0 ∧ ¬ 1099511627776 < n ∧ Vec.held n = n) := by unfold Vec.held; omega
  rcases key with ⟨h, e⟩ | ⟨h, h2, e⟩ | ⟨h, h2, e⟩
  all_goals
    rw [e]
    clear e
    go_enter Try.func16, Try.ntmps16
    go_wp2_with fail
    go_ret
    exact ⟨rfl, rfl⟩

set_option maxHeartbeats 2000000 in
theorem refBetter_any (v u : Vec.D) (w : World) :
    Calls Try.prog 15 #[.agg v.cells.toArray, .agg u.cells.toArray] w fun e w' => e = .returned (.bool (v.better u)) ∧ Below w.heap.size w w' := by
  have E1 := fun w => run_equalIn_id8 9998 v.r u.r w
  have E2 := fun w => run_equalIn_id8 9998 v.b u.b w
  have L1 := fun w => refLess_any v.r u.r w
  have L2 := fun w => refLess_any v.b u.b w
  have hk : (eqB [v.r 0, v.r 1, v.r 2, v.r 3, v.r 4, v.r 5, v.r 6, v.r 7] [u.r 0, u.r 1, u.r 2, u.r 3, u.r 4, u.r 5, u.r 6, u.r 7] = false ∧ v.better u = Ord.lt [v.r 0, v.r 1, v.r 2, v.r 3, v.r 4, v.r 5, v.r 6, v.r 7] [u.r 0, u.r 1, u.r 2, u.r 3, u.r 4, u.r 5, u.r 6, u.r 7]) ∨
      (eqB [v.r 0, v.r 1, v.r 2, v.r 3, v.r 4, v.r 5, v.r 6, v.r 7] [u.r 0, u.r 1, u.r 2, u.r 3, u.r 4, u.r 5, u.r 6, u.r 7] = true ∧ ¬ v.c = u.c ∧ v.better u = decide (v.c < u.c)) ∨
      (eqB [v.r 0, v.r 1, v.r 2, v.r 3, v.r 4, v.r 5, v.r 6, v.r 7] [u.r 0, u.r 1, u.r 2, u.r 3, u.r 4, u.r 5, u.r 6, u.r 7] = true ∧ v.c = u.c ∧ eqB [v.b 0, v.b 1, v.b 2, v.b 3, v.b 4, v.b 5, v.b 6, v.b 7] [u.b 0, u.b 1, u.b 2, u.b 3, u.b 4, u.b 5, u.b 6, u.b 7] = false ∧ v.better u = Ord.lt [v.b 0, v.b 1, v.b 2, v.b 3, v.b 4, v.b 5, v.b 6, v.b 7] [u.b 0, u.b 1, u.b 2, u.b 3, u.b 4, u.b 5, u.b 6, u.b 7]) ∨
      (eqB [v.r 0, v.r 1, v.r 2, v.r 3, v.r 4, v.r 5, v.r 6, v.r 7] [u.r 0, u.r 1, u.r 2, u.r 3, u.r 4, u.r 5, u.r 6, u.r 7] = true ∧ v.c = u.c ∧ eqB [v.b 0, v.b 1, v.b 2, v.b 3, v.b 4, v.b 5, v.b 6, v.b 7] [u.b 0, u.b 1, u.b 2, u.b 3, u.b 4, u.b 5, u.b 6, u.b 7] = true ∧ v.better u = decide (v.p < u.p)) := by
    have B := Vec.better_iff [v.r 0, v.r 1, v.r 2, v.r 3, v.r 4, v.r 5, v.r 6, v.r 7] v.c [v.b 0, v.b 1, v.b 2, v.b 3, v.b 4, v.b 5, v.b 6, v.b 7] v.p [u.r 0, u.r 1, u.r 2, u.r 3, u.r 4, u.r 5, u.r 6, u.r 7] u.c [u.b 0, u.b 1, u.b 2, u.b 3, u.b 4, u.b 5, u.b 6, u.b 7] u.p
    have B : v.better u = true ↔ _ := B
    cases h1 : eqB [v.r 0, v.r 1, v.r 2, v.r 3, v.r 4, v.r 5, v.r 6, v.r 7] [u.r 0, u.r 1, u.r 2, u.r 3, u.r 4, u.r 5, u.r 6, u.r 7]
    · refine .inl ⟨rfl, ?_⟩
      have n1 := eqB_false.1 h1
      rw [Bool.eq_iff_iff, B]
      constructor
      · rintro (h | ⟨h, _⟩)
        · exact h
        · exact absurd h n1
      · exact .inl
    · have n1 := eqB_true.1 h1
      have i1 : Ord.lt [v.r 0, v.r 1, v.r 2, v.r 3, v.r 4, v.r 5, v.r 6, v.r 7] [u.r 0, u.r 1, u.r 2, u.r 3, u.r 4, u.r 5, u.r 6, u.r 7] = false := by rw [n1]; exact Ord.lt_irrefl _
      refine .inr ?_
      by_cases h2 : v.c = u.c
      · refine .inr ?_
        cases h3 : eqB [v.b 0, v.b 1, v.b 2, v.b 3, v.b 4, v.b 5, v.b 6, v.b 7] [u.b 0, u.b 1, u.b 2, u.b 3, u.b 4, u.b 5, u.b 6, u.b 7]
        · refine .inl ⟨rfl, h2, rfl, ?_⟩
          have n3 := eqB_false.1 h3
          rw [Bool.eq_iff_iff, B]
          constructor
          · rintro (h | ⟨_, h | ⟨_, h | ⟨h, _⟩⟩⟩)
            · rw [i1] at h; cases h
            · omega
            · exact h
            · exact absurd h n3
          · exact fun h => .inr ⟨n1, .inr ⟨h2, .inl h⟩⟩
        · refine .inr ⟨rfl, h2, rfl, ?_⟩
          have n3 := eqB_true.1 h3
          have i3 : Ord.lt [v.b 0, v.b 1, v.b 2, v.b 3, v.b 4, v.b 5, v.b 6, v.b 7] [u.b 0, u.b 1, u.b 2, u.b 3, u.b 4, u.b 5, u.b 6, u.b 7] = false := by rw [n3]; exact Ord.lt_irrefl _
          rw [Bool.eq_iff_iff, B, decide_eq_true_eq]
          constructor
          · rintro (h | ⟨_, h | ⟨_, h | ⟨_, h⟩⟩⟩)
            · rw [i1] at h; cases h
            · omega
            · rw [i3] at h; cases h
            · exact h
          · exact fun h => .inr ⟨n1, .inr ⟨h2, .inr ⟨n3, h⟩⟩⟩
      · refine .inl ⟨rfl, h2, ?_⟩
        rw [Bool.eq_iff_iff, B, decide_eq_true_eq]
        constructor
        · rintro (h | ⟨_, h | ⟨h, _⟩⟩)
          · rw [i1] at h; cases h
          · exact h
          · exact absurd h h2
        · exact fun h => .inr ⟨n1, .inl h⟩
  generalize v.better u = bt at hk ⊢
  generalize eqB [v.r 0, v.r 1, v.r 2, v.r 3, v.r 4, v.r 5, v.r 6, v.r 7] [u.r 0, u.r 1, u.r 2, u.r 3, u.r 4, u.r 5, u.r 6, u.r 7] = e1 at hk E1
  generalize eqB [v.b 0, v.b 1, v.b 2, v.b 3, v.b 4, v.b 5, v.b 6, v.b 7] [u.b 0, u.b 1, u.b 2, u.b 3, u.b 4, u.b 5, u.b 6, u.b 7] = e2 at hk E2
  generalize Ord.lt [v.r 0, v.r 1, v.r 2, v.r 3, v.r 4, v.r 5, v.r 6, v.r 7] [u.r 0, u.r 1, u.r 2, u.r 3, u.r 4, u.r 5, u.r 6, u.r 7] = l1 at hk L1
  generalize Ord.lt [v.b 0, v.b 1, v.b 2, v.b 3, v.b 4, v.b 5, v.b 6, v.b 7] [u.b 0, u.b 1, u.b 2, u.b 3, u.b 4, u.b 5, u.b 6, u.b 7] = l2 at hk L2
  have L1 := Lib.hid L1
  have L2 := Lib.hid L2
  go_enter Try.func15, Try.ntmps15
  go_upto_region 1 with fail
  generalize hW : (w.alloc _).alloc _ = W
  have hbW : Below w.heap.size w W := by rw [← hW]; exact ((Below.refl _ _).alloc (Nat.le_refl _) _).alloc (by simp) _
  have R1 : RowIs W w.heap.size 29 v.cells.toArray := by rw [← hW]; exact (rowIs_new w _ _).alloc _
  have R2 : RowIs W (w.heap.size + 1) 29 u.cells.toArray := by rw [← hW]; exact rowIs_new1 w _ _ _
  clear hW
  have Gvr := Lib.hid (range_of_row (off := 0) (sub := [.int .u8 ((v.r 0).toNat : Int), .int .u8 ((v.r 1).toNat : Int), .int .u8 ((v.r 2).toNat : Int), .int .u8 ((v.r 3).toNat : Int), .int .u8 ((v.r 4).toNat : Int), .int .u8 ((v.r 5).toNat : Int), .int .u8 ((v.r 6).toNat : Int), .int .u8 ((v.r 7).toNat : Int)]) R1 rfl)
  have Gvb := Lib.hid (range_of_row (off := 9) (sub := [.int .u8 ((v.b 0).toNat : Int), .int .u8 ((v.b 1).toNat : Int), .int .u8 ((v.b 2).toNat : Int), .int .u8 ((v.b 3).toNat : Int), .int .u8 ((v.b 4).toNat : Int), .int .u8 ((v.b 5).toNat : Int), .int .u8 ((v.b 6).toNat : Int), .int .u8 ((v.b 7).toNat : Int)]) R1 rfl)
  have Gur := Lib.hid (range_of_row (off := 0) (sub := [.int .u8 ((u.r 0).toNat : Int), .int .u8 ((u.r 1).toNat : Int), .int .u8 ((u.r 2).toNat : Int), .int .u8 ((u.r 3).toNat : Int), .int .u8 ((u.r 4).toNat : Int), .int .u8 ((u.r 5).toNat : Int), .int .u8 ((u.r 6).toNat : Int), .int .u8 ((u.r 7).toNat : Int)]) R2 rfl)
  have Gub := Lib.hid (range_of_row (off := 9) (sub := [.int .u8 ((u.b 0).toNat : Int), .int .u8 ((u.b 1).toNat : Int), .int .u8 ((u.b 2).toNat : Int), .int .u8 ((u.b 3).toNat : Int), .int .u8 ((u.b 4).toNat : Int), .int .u8 ((u.b 5).toNat : Int), .int .u8 ((u.b 6).toNat : Int), .int .u8 ((u.b 7).toNat : Int)]) R2 rfl)
  have c1 : W.cell? ⟨w.heap.size, 8, none⟩ = some (.int .i64 v.c) := R1.cell 8
  have c2 : W.cell? ⟨w.heap.size, 17, none⟩ = some (.int .i64 v.p) := R1.cell 17
  have c3 : W.cell? ⟨w.heap.size + 1, 8, none⟩ = some (.int .i64 u.c) := R2.cell 8
  have c4 : W.cell? ⟨w.heap.size + 1, 17, none⟩ = some (.int .i64 u.p) := R2.cell 17
  clear R1 R2
  rcases hk with ⟨rfl, rfl⟩ | ⟨rfl, h2, rfl⟩ | ⟨rfl, h2, rfl, rfl⟩ | ⟨rfl, h2, rfl, rfl⟩
  · go_wp2_with (first | ((with_reducible refine at_load 27 (.tmp 5) ?_); refine wpList_load_mid rfl 27 (.tmp 5) rfl w.heap.size 0 rfl [.int .u8 ((v.r 0).toNat : Int), .int .u8 ((v.r 1).toNat : Int), .int .u8 ((v.r 2).toNat : Int), .int .u8 ((v.r 3).toNat : Int), .int .u8 ((v.r 4).toNat : Int), .int .u8 ((v.r 5).toNat : Int), .int .u8 ((v.r 6).toNat : Int), .int .u8 ((v.r 7).toNat : Int)] _ Gvr.out Try.underlying27 rfl (by kernel_rfl) ?_) | ((with_reducible refine at_load 27 (.tmp 7) ?_); refine wpList_load_mid rfl 27 (.tmp 7) rfl (w.heap.size + 1) 0 rfl [.int .u8 ((u.r 0).toNat : Int), .int .u8 ((u.r 1).toNat : Int), .int .u8 ((u.r 2).toNat : Int), .int .u8 ((u.r 3).toNat : Int), .int .u8 ((u.r 4).toNat : Int), .int .u8 ((u.r 5).toNat : Int), .int .u8 ((u.r 6).toNat : Int), .int .u8 ((u.r 7).toNat : Int)] _ Gur.out Try.underlying27 rfl (by kernel_rfl) ?_) | ((with_reducible refine at_load 27 (.tmp 10) ?_); refine wpList_load_mid rfl 27 (.tmp 10) rfl w.heap.size 0 rfl [.int .u8 ((v.r 0).toNat : Int), .int .u8 ((v.r 1).toNat : Int), .int .u8 ((v.r 2).toNat : Int), .int .u8 ((v.r 3).toNat : Int), .int .u8 ((v.r 4).toNat : Int), .int .u8 ((v.r 5).toNat : Int), .int .u8 ((v.r 6).toNat : Int), .int .u8 ((v.r 7).toNat : Int)] _ Gvr.out Try.underlying27 rfl (by kernel_rfl) ?_) | ((with_reducible refine at_load 27 (.tmp 12) ?_); refine wpList_load_mid rfl 27 (.tmp 12) rfl (w.heap.size + 1) 0 rfl [.int .u8 ((u.r 0).toNat : Int), .int .u8 ((u.r 1).toNat : Int), .int .u8 ((u.r 2).toNat : Int), .int .u8 ((u.r 3).toNat : Int), .int .u8 ((u.r 4).toNat : Int), .int .u8 ((u.r 5).toNat : Int), .int .u8 ((u.r 6).toNat : Int), .int .u8 ((u.r 7).toNat : Int)] _ Gur.out Try.underlying27 rfl (by kernel_rfl) ?_) | ((with_reducible refine at_load 27 (.tmp 25) ?_); refine wpList_load_mid rfl 27 (.tmp 25) rfl w.heap.size 9 rfl [.int .u8 ((v.b 0).toNat : Int), .int .u8 ((v.b 1).toNat : Int), .int .u8 ((v.b 2).toNat : Int), .int .u8 ((v.b 3).toNat : Int), .int .u8 ((v.b 4).toNat : Int), .int .u8 ((v.b 5).toNat : Int), .int .u8 ((v.b 6).toNat : Int), .int .u8 ((v.b 7).toNat : Int)] _ Gvb.out Try.underlying27 rfl (by kernel_rfl) ?_) | ((with_reducible refine at_load 27 (.tmp 27) ?_); refine wpList_load_mid rfl 27 (.tmp 27) rfl (w.heap.size + 1) 9 rfl [.int .u8 ((u.b 0).toNat : Int), .int .u8 ((u.b 1).toNat : Int), .int .u8 ((u.b 2).toNat : Int), .int .u8 ((u.b 3).toNat : Int), .int .u8 ((u.b 4).toNat : Int), .int .u8 ((u.b 5).toNat : Int), .int .u8 ((u.b 6).toNat : Int), .int .u8 ((u.b 7).toNat : Int)] _ Gub.out Try.underlying27 rfl (by kernel_rfl) ?_) | ((with_reducible refine at_load 27 (.tmp 30) ?_); refine wpList_load_mid rfl 27 (.tmp 30) rfl w.heap.size 9 rfl [.int .u8 ((v.b 0).toNat : Int), .int .u8 ((v.b 1).toNat : Int), .int .u8 ((v.b 2).toNat : Int), .int .u8 ((v.b 3).toNat : Int), .int .u8 ((v.b 4).toNat : Int), .int .u8 ((v.b 5).toNat : Int), .int .u8 ((v.b 6).toNat : Int), .int .u8 ((v.b 7).toNat : Int)] _ Gvb.out Try.underlying27 rfl (by kernel_rfl) ?_) | ((with_reducible refine at_load 27 (.tmp 32) ?_); refine wpList_load_mid rfl 27 (.tmp 32) rfl (w.heap.size + 1) 9 rfl [.int .u8 ((u.b 0).toNat : Int), .int .u8 ((u.b 1).toNat : Int), .int .u8 ((u.b 2).toNat : Int), .int .u8 ((u.b 3).toNat : Int), .int .u8 ((u.b 4).toNat : Int), .int .u8 ((u.b 5).toNat : Int), .int .u8 ((u.b 6).toNat : Int), .int .u8 ((u.b 7).toNat : Int)] _ Gub.out Try.underlying27 rfl (by kernel_rfl) ?_))
    refine (L1.out _).mono ?_
    rintro e w1 ⟨rfl, hb⟩
    go_wp2_with fail
    go_ret
    exact ⟨rfl, hbW.trans (hb.mono hbW.size)⟩
  · go_wp2_with (first | ((with_reducible refine at_load 27 (.tmp 5) ?_); refine wpList_load_mid rfl 27 (.tmp 5) rfl w.heap.size 0 rfl [.int .u8 ((v.r 0).toNat : Int), .int .u8 ((v.r 1).toNat : Int), .int .u8 ((v.r 2).toNat : Int), .int .u8 ((v.r 3).toNat : Int), .int .u8 ((v.r 4).toNat : Int), .int .u8 ((v.r 5).toNat : Int), .int .u8 ((v.r 6).toNat : Int), .int .u8 ((v.r 7).toNat : Int)] _ Gvr.out Try.underlying27 rfl (by kernel_rfl) ?_) | ((with_reducible refine at_load 27 (.tmp 7) ?_); refine wpList_load_mid rfl 27 (.tmp 7) rfl (w.heap.size + 1) 0 rfl [.int .u8 ((u.r 0).toNat : Int), .int .u8 ((u.r 1).toNat : Int), .int .u8 ((u.r 2).toNat : Int), .int .u8 ((u.r 3).toNat : Int), .int .u8 ((u.r 4).toNat : Int), .int .u8 ((u.r 5).toNat : Int), .int .u8 ((u.r 6).toNat : Int), .int .u8 ((u.r 7).toNat : Int)] _ Gur.out Try.underlying27 rfl (by kernel_rfl) ?_) | ((with_reducible refine at_load 27 (.tmp 10) ?_); refine wpList_load_mid rfl 27 (.tmp 10) rfl w.heap.size 0 rfl [.int .u8 ((v.r 0).toNat : Int), .int .u8 ((v.r 1).toNat : Int), .int .u8 ((v.r 2).toNat : Int), .int .u8 ((v.r 3).toNat : Int), .int .u8 ((v.r 4).toNat : Int), .int .u8 ((v.r 5).toNat : Int), .int .u8 ((v.r 6).toNat : Int), .int .u8 ((v.r 7).toNat : Int)] _ Gvr.out Try.underlying27 rfl (by kernel_rfl) ?_) | ((with_reducible refine at_load 27 (.tmp 12) ?_); refine wpList_load_mid rfl 27 (.tmp 12) rfl (w.heap.size + 1) 0 rfl [.int .u8 ((u.r 0).toNat : Int), .int .u8 ((u.r 1).toNat : Int), .int .u8 ((u.r 2).toNat : Int), .int .u8 ((u.r 3).toNat : Int), .int .u8 ((u.r 4).toNat : Int), .int .u8 ((u.r 5).toNat : Int), .int .u8 ((u.r 6).toNat : Int), .int .u8 ((u.r 7).toNat : Int)] _ Gur.out Try.underlying27 rfl (by kernel_rfl) ?_) | ((with_reducible refine at_load 27 (.tmp 25) ?_); refine wpList_load_mid rfl 27 (.tmp 25) rfl w.heap.size 9 rfl [.int .u8 ((v.b 0).toNat : Int), .int .u8 ((v.b 1).toNat : Int), .int .u8 ((v.b 2).toNat : Int), .int .u8 ((v.b 3).toNat : Int), .int .u8 ((v.b 4).toNat : Int), .int .u8 ((v.b 5).toNat : Int), .int .u8 ((v.b 6).toNat : Int), .int .u8 ((v.b 7).toNat : Int)] _ Gvb.out Try.underlying27 rfl (by kernel_rfl) ?_) | ((with_reducible refine at_load 27 (.tmp 27) ?_); refine wpList_load_mid rfl 27 (.tmp 27) rfl (w.heap.size + 1) 9 rfl [.int .u8 ((u.b 0).toNat : Int), .int .u8 ((u.b 1).toNat : Int), .int .u8 ((u.b 2).toNat : Int), .int .u8 ((u.b 3).toNat : Int), .int .u8 ((u.b 4).toNat : Int), .int .u8 ((u.b 5).toNat : Int), .int .u8 ((u.b 6).toNat : Int), .int .u8 ((u.b 7).toNat : Int)] _ Gub.out Try.underlying27 rfl (by kernel_rfl) ?_) | ((with_reducible refine at_load 27 (.tmp 30) ?_); refine wpList_load_mid rfl 27 (.tmp 30) rfl w.heap.size 9 rfl [.int .u8 ((v.b 0).toNat : Int), .int .u8 ((v.b 1).toNat : Int), .int .u8 ((v.b 2).toNat : Int), .int .u8 ((v.b 3).toNat : Int), .int .u8 ((v.b 4).toNat : Int), .int .u8 ((v.b 5).toNat : Int), .int .u8 ((v.b 6).toNat : Int), .int .u8 ((v.b 7).toNat : Int)] _ Gvb.out Try.underlying27 rfl (by kernel_rfl) ?_) | ((with_reducible refine at_load 27 (.tmp 32) ?_); refine wpList_load_mid rfl 27 (.tmp 32) rfl (w.heap.size + 1) 9 rfl [.int .u8 ((u.b 0).toNat : Int), .int .u8 ((u.b 1).toNat : Int), .int .u8 ((u.b 2).toNat : Int), .int .u8 ((u.b 3).toNat : Int), .int .u8 ((u.b 4).toNat : Int), .int .u8 ((u.b 5).toNat : Int), .int .u8 ((u.b 6).toNat : Int), .int .u8 ((u.b 7).toNat : Int)] _ Gub.out Try.underlying27 rfl (by kernel_rfl) ?_))
    go_ret
    exact ⟨rfl, hbW⟩
  · generalize v.c = x at *
    generalize u.c = y at *
    subst h2
    go_wp2_with (first | ((with_reducible refine at_load 27 (.tmp 5) ?_); refine wpList_load_mid rfl 27 (.tmp 5) rfl w.heap.size 0 rfl [.int .u8 ((v.r 0).toNat : Int), .int .u8 ((v.r 1).toNat : Int), .int .u8 ((v.r 2).toNat : Int), .int .u8 ((v.r 3).toNat : Int), .int .u8 ((v.r 4).toNat : Int), .int .u8 ((v.r 5).toNat : Int), .int .u8 ((v.r 6).toNat : Int), .int .u8 ((v.r 7).toNat : Int)] _ Gvr.out Try.underlying27 rfl (by kernel_rfl) ?_) | ((with_reducible refine at_load 27 (.tmp 7) ?_); refine wpList_load_mid rfl 27 (.tmp 7) rfl (w.heap.size + 1) 0 rfl [.int .u8 ((u.r 0).toNat : Int), .int .u8 ((u.r 1).toNat : Int), .int .u8 ((u.r 2).toNat : Int), .int .u8 ((u.r 3).toNat : Int), .int .u8 ((u.r 4).toNat : Int), .int .u8 ((u.r 5).toNat : Int), .int .u8 ((u.r 6).toNat : Int), .int .u8 ((u.r 7).toNat : Int)] _ Gur.out Try.underlying27 rfl (by kernel_rfl) ?_) | ((with_reducible refine at_load 27 (.tmp 10) ?_); refine wpList_load_mid rfl 27 (.tmp 10) rfl w.heap.size 0 rfl [.int .u8 ((v.r 0).toNat : Int), .int .u8 ((v.r 1).toNat : Int), .int .u8 ((v.r 2).toNat : Int), .int .u8 ((v.r 3).toNat : Int), .int .u8 ((v.r 4).toNat : Int), .int .u8 ((v.r 5).toNat : Int), .int .u8 ((v.r 6).toNat : Int), .int .u8 ((v.r 7).toNat : Int)] _ Gvr.out Try.underlying27 rfl (by kernel_rfl) ?_) | ((with_reducible refine at_load 27 (.tmp 12) ?_); refine wpList_load_mid rfl 27 (.tmp 12) rfl (w.heap.size + 1) 0 rfl [.int .u8 ((u.r 0).toNat : Int), .int .u8 ((u.r 1).toNat : Int), .int .u8 ((u.r 2).toNat : Int), .int .u8 ((u.r 3).toNat : Int), .int .u8 ((u.r 4).toNat : Int), .int .u8 ((u.r 5).toNat : Int), .int .u8 ((u.r 6).toNat : Int), .int .u8 ((u.r 7).toNat : Int)] _ Gur.out Try.underlying27 rfl (by kernel_rfl) ?_) | ((with_reducible refine at_load 27 (.tmp 25) ?_); refine wpList_load_mid rfl 27 (.tmp 25) rfl w.heap.size 9 rfl [.int .u8 ((v.b 0).toNat : Int), .int .u8 ((v.b 1).toNat : Int), .int .u8 ((v.b 2).toNat : Int), .int .u8 ((v.b 3).toNat : Int), .int .u8 ((v.b 4).toNat : Int), .int .u8 ((v.b 5).toNat : Int), .int .u8 ((v.b 6).toNat : Int), .int .u8 ((v.b 7).toNat : Int)] _ Gvb.out Try.underlying27 rfl (by kernel_rfl) ?_) | ((with_reducible refine at_load 27 (.tmp 27) ?_); refine wpList_load_mid rfl 27 (.tmp 27) rfl (w.heap.size + 1) 9 rfl [.int .u8 ((u.b 0).toNat : Int), .int .u8 ((u.b 1).toNat : Int), .int .u8 ((u.b 2).toNat : Int), .int .u8 ((u.b 3).toNat : Int), .int .u8 ((u.b 4).toNat : Int), .int .u8 ((u.b 5).toNat : Int), .int .u8 ((u.b 6).toNat : Int), .int .u8 ((u.b 7).toNat : Int)] _ Gub.out Try.underlying27 rfl (by kernel_rfl) ?_) | ((with_reducible refine at_load 27 (.tmp 30) ?_); refine wpList_load_mid rfl 27 (.tmp 30) rfl w.heap.size 9 rfl [.int .u8 ((v.b 0).toNat : Int), .int .u8 ((v.b 1).toNat : Int), .int .u8 ((v.b 2).toNat : Int), .int .u8 ((v.b 3).toNat : Int), .int .u8 ((v.b 4).toNat : Int), .int .u8 ((v.b 5).toNat : Int), .int .u8 ((v.b 6).toNat : Int), .int .u8 ((v.b 7).toNat : Int)] _ Gvb.out Try.underlying27 rfl (by kernel_rfl) ?_) | ((with_reducible refine at_load 27 (.tmp 32) ?_); refine wpList_load_mid rfl 27 (.tmp 32) rfl (w.heap.size + 1) 9 rfl [.int .u8 ((u.b 0).toNat : Int), .int .u8 ((u.b 1).toNat : Int), .int .u8 ((u.b 2).toNat : Int), .int .u8 ((u.b 3).toNat : Int), .int .u8 ((u.b 4).toNat : Int), .int .u8 ((u.b 5).toNat : Int), .int .u8 ((u.b 6).toNat : Int), .int .u8 ((u.b 7).toNat : Int)] _ Gub.out Try.underlying27 rfl (by kernel_rfl) ?_))
    refine (L2.out _).mono ?_
    rintro e w1 ⟨rfl, hb⟩
    go_wp2_with fail
    go_ret
    exact ⟨rfl, hbW.trans (hb.mono hbW.size)⟩
  · generalize v.c = x at *
    generalize u.c = y at *
    subst h2
    go_wp2_with (first | ((with_reducible refine at_load 27 (.tmp 5) ?_); refine wpList_load_mid rfl 27 (.tmp 5) rfl w.heap.size 0 rfl [.int .u8 ((v.r 0).toNat : Int), .int .u8 ((v.r 1).toNat : Int), .int .u8 ((v.r 2).toNat : Int), .int .u8 ((v.r 3).toNat : Int), .int .u8 ((v.r 4).toNat : Int), .int .u8 ((v.r 5).toNat : Int), .int .u8 ((v.r 6).toNat : Int), .int .u8 ((v.r 7).toNat : Int)] _ Gvr.out Try.underlying27 rfl (by kernel_rfl) ?_) | ((with_reducible refine at_load 27 (.tmp 7) ?_); refine wpList_load_mid rfl 27 (.tmp 7) rfl (w.heap.size + 1) 0 rfl [.int .u8 ((u.r 0).toNat : Int), .int .u8 ((u.r 1).toNat : Int), .int .u8 ((u.r 2).toNat : Int), .int .u8 ((u.r 3).toNat : Int), .int .u8 ((u.r 4).toNat : Int), .int .u8 ((u.r 5).toNat : Int), .int .u8 ((u.r 6).toNat : Int), .int .u8 ((u.r 7).toNat : Int)] _ Gur.out Try.underlying27 rfl (by kernel_rfl) ?_) | ((with_reducible refine at_load 27 (.tmp 10) ?_); refine wpList_load_mid rfl 27 (.tmp 10) rfl w.heap.size 0 rfl [.int .u8 ((v.r 0).toNat : Int), .int .u8 ((v.r 1).toNat : Int), .int .u8 ((v.r 2).toNat : Int), .int .u8 ((v.r 3).toNat : Int), .int .u8 ((v.r 4).toNat : Int), .int .u8 ((v.r 5).toNat : Int), .int .u8 ((v.r 6).toNat : Int), .int .u8 ((v.r 7).toNat : Int)] _ Gvr.out Try.underlying27 rfl (by kernel_rfl) ?_) | ((with_reducible refine at_load 27 (.tmp 12) ?_); refine wpList_load_mid rfl 27 (.tmp 12) rfl (w.heap.size + 1) 0 rfl [.int .u8 ((u.r 0).toNat : Int), .int .u8 ((u.r 1).toNat : Int), .int .u8 ((u.r 2).toNat : Int), .int .u8 ((u.r 3).toNat : Int), .int .u8 ((u.r 4).toNat : Int), .int .u8 ((u.r 5).toNat : Int), .int .u8 ((u.r 6).toNat : Int), .int .u8 ((u.r 7).toNat : Int)] _ Gur.out Try.underlying27 rfl (by kernel_rfl) ?_) | ((with_reducible refine at_load 27 (.tmp 25) ?_); refine wpList_load_mid rfl 27 (.tmp 25) rfl w.heap.size 9 rfl [.int .u8 ((v.b 0).toNat : Int), .int .u8 ((v.b 1).toNat : Int), .int .u8 ((v.b 2).toNat : Int), .int .u8 ((v.b 3).toNat : Int), .int .u8 ((v.b 4).toNat : Int), .int .u8 ((v.b 5).toNat : Int), .int .u8 ((v.b 6).toNat : Int), .int .u8 ((v.b 7).toNat : Int)] _ Gvb.out Try.underlying27 rfl (by kernel_rfl) ?_) | ((with_reducible refine at_load 27 (.tmp 27) ?_); refine wpList_load_mid rfl 27 (.tmp 27) rfl (w.heap.size + 1) 9 rfl [.int .u8 ((u.b 0).toNat : Int), .int .u8 ((u.b 1).toNat : Int), .int .u8 ((u.b 2).toNat : Int), .int .u8 ((u.b 3).toNat : Int), .int .u8 ((u.b 4).toNat : Int), .int .u8 ((u.b 5).toNat : Int), .int .u8 ((u.b 6).toNat : Int), .int .u8 ((u.b 7).toNat : Int)] _ Gub.out Try.underlying27 rfl (by kernel_rfl) ?_) | ((with_reducible refine at_load 27 (.tmp 30) ?_); refine wpList_load_mid rfl 27 (.tmp 30) rfl w.heap.size 9 rfl [.int .u8 ((v.b 0).toNat : Int), .int .u8 ((v.b 1).toNat : Int), .int .u8 ((v.b 2).toNat : Int), .int .u8 ((v.b 3).toNat : Int), .int .u8 ((v.b 4).toNat : Int), .int .u8 ((v.b 5).toNat : Int), .int .u8 ((v.b 6).toNat : Int), .int .u8 ((v.b 7).toNat : Int)] _ Gvb.out Try.underlying27 rfl (by kernel_rfl) ?_) | ((with_reducible refine at_load 27 (.tmp 32) ?_); refine wpList_load_mid rfl 27 (.tmp 32) rfl (w.heap.size + 1) 9 rfl [.int .u8 ((u.b 0).toNat : Int), .int .u8 ((u.b 1).toNat : Int), .int .u8 ((u.b 2).toNat : Int), .int .u8 ((u.b 3).toNat : Int), .int .u8 ((u.b 4).toNat : Int), .int .u8 ((u.b 5).toNat : Int), .int .u8 ((u.b 6).toNat : Int), .int .u8 ((u.b 7).toNat : Int)] _ Gub.out Try.underlying27 rfl (by kernel_rfl) ?_))
    go_ret
    exact ⟨rfl, hbW⟩
end Go.Proofs.Ythadlpiioabajaa
