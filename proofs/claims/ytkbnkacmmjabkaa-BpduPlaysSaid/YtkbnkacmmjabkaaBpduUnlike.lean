/- The walk of BpduFlags. By an AI agent. -/
import Derived.Test.YtkbnkacmmjabkaaBpduWords
import Derived.Test.YtkbnkacmmjabkaaBpduBack
namespace Go.Proofs.Ytkbnkacmmjabkaa
open Go.RowKit Go.Sort Grow

theorem Grow.rowIs_new1 (w : World) (o : Obj) (t : TypeId) (cs : Array Value) : RowIs ((w.alloc o).alloc (.cells cs t)) (w.heap.size + 1) t cs := by
  have h := rowIs_new (w.alloc o) t cs
  rwa [show (w.alloc o).heap.size = w.heap.size + 1 by simp] at h

set_option maxHeartbeats 4000000 in
theorem run_equalIn_rword (d : Nat) (r b : Nat → UInt8) (co po ag ma he de : Int) (ch ak : Bool) (r' b' : Nat → UInt8) (co' po' ag' ma' he' de' : Int) (ch' ak' : Bool) (w : World) :
    (Op.equalIn (d + 1 + 1 + 1) 28 (.agg #[.int .u8 ((r 0).toNat : Int), .int .u8 ((r 1).toNat : Int), .int .u8 ((r 2).toNat : Int), .int .u8 ((r 3).toNat : Int), .int .u8 ((r 4).toNat : Int), .int .u8 ((r 5).toNat : Int), .int .u8 ((r 6).toNat : Int), .int .u8 ((r 7).toNat : Int), .int .u8 ((b 0).toNat : Int), .int .u8 ((b 1).toNat : Int), .int .u8 ((b 2).toNat : Int), .int .u8 ((b 3).toNat : Int), .int .u8 ((b 4).toNat : Int), .int .u8 ((b 5).toNat : Int), .int .u8 ((b 6).toNat : Int), .int .u8 ((b 7).toNat : Int), .int .i64 co, .int .i64 po, .int .i64 ag, .int .i64 ma, .int .i64 he, .int .i64 de, .bool ch, .bool ak]) (.agg #[.int .u8 ((r' 0).toNat : Int), .int .u8 ((r' 1).toNat : Int), .int .u8 ((r' 2).toNat : Int), .int .u8 ((r' 3).toNat : Int), .int .u8 ((r' 4).toNat : Int), .int .u8 ((r' 5).toNat : Int), .int .u8 ((r' 6).toNat : Int), .int .u8 ((r' 7).toNat : Int), .int .u8 ((b' 0).toNat : Int), .int .u8 ((b' 1).toNat : Int), .int .u8 ((b' 2).toNat : Int), .int .u8 ((b' 3).toNat : Int), .int .u8 ((b' 4).toNat : Int), .int .u8 ((b' 5).toNat : Int), .int .u8 ((b' 6).toNat : Int), .int .u8 ((b' 7).toNat : Int), .int .i64 co', .int .i64 po', .int .i64 ag', .int .i64 ma', .int .i64 he', .int .i64 de', .bool ch', .bool ak'])).run Try.prog w = .ok (Bpdu.eqW r b co po ag ma he de ch ak r' b' co' po' ag' ma' he' de' ch' ak') w := by
  unfold Bpdu.eqW
  have m1 := run_equalIn_id8 d r r' w
  have m2 := run_equalIn_id8 d b b' w
  generalize eqB [r 0, r 1, r 2, r 3, r 4, r 5, r 6, r 7] [r' 0, r' 1, r' 2, r' 3, r' 4, r' 5, r' 6, r' 7] = e1 at m1 ⊢
  generalize eqB [b 0, b 1, b 2, b 3, b 4, b 5, b 6, b 7] [b' 0, b' 1, b' 2, b' 3, b' 4, b' 5, b' 6, b' 7] = e2 at m2 ⊢
  cases e1
  · go_simp
  cases e2
  · go_simp
  by_cases h_co : ¬ co = co'
  · have k : (co == co') = false := by rw [Bool.eq_false_iff]; simpa using h_co
    rw [k]
    clear k
    go_simp
  have h_co := Decidable.not_not.1 h_co
  subst h_co
  rw [show (co == co) = true by simp]
  by_cases h_po : ¬ po = po'
  · have k : (po == po') = false := by rw [Bool.eq_false_iff]; simpa using h_po
    rw [k]
    clear k
    go_simp
  have h_po := Decidable.not_not.1 h_po
  subst h_po
  rw [show (po == po) = true by simp]
  by_cases h_ag : ¬ ag = ag'
  · have k : (ag == ag') = false := by rw [Bool.eq_false_iff]; simpa using h_ag
    rw [k]
    clear k
    go_simp
  have h_ag := Decidable.not_not.1 h_ag
  subst h_ag
  rw [show (ag == ag) = true by simp]
  by_cases h_ma : ¬ ma = ma'
  · have k : (ma == ma') = false := by rw [Bool.eq_false_iff]; simpa using h_ma
    rw [k]
    clear k
    go_simp
  have h_ma := Decidable.not_not.1 h_ma
  subst h_ma
  rw [show (ma == ma) = true by simp]
  by_cases h_he : ¬ he = he'
  · have k : (he == he') = false := by rw [Bool.eq_false_iff]; simpa using h_he
    rw [k]
    clear k
    go_simp
  have h_he := Decidable.not_not.1 h_he
  subst h_he
  rw [show (he == he) = true by simp]
  by_cases h_de : ¬ de = de'
  · have k : (de == de') = false := by rw [Bool.eq_false_iff]; simpa using h_de
    rw [k]
    clear k
    go_simp
  have h_de := Decidable.not_not.1 h_de
  subst h_de
  rw [show (de == de) = true by simp]
  cases ch <;> cases ch' <;> cases ak <;> cases ak' <;> go_simp

set_option maxRecDepth 20000 in
set_option maxHeartbeats 4000000 in
theorem bpduFlags_bad (r b : Nat → UInt8) (co po ag ma he de : Int) (ch ak : Bool) (r' b' : Nat → UInt8) (co' po' ag' ma' he' de' : Int) (ch' ak' : Bool) (w : World) (h : Bpdu.right co po ag ma he de = false ∨ (Bpdu.right co po ag ma he de = true ∧ Bpdu.right co' po' ag' ma' he' de' = false)) :
    Calls Try.prog 6 #[.agg #[.int .u8 ((r 0).toNat : Int), .int .u8 ((r 1).toNat : Int), .int .u8 ((r 2).toNat : Int), .int .u8 ((r 3).toNat : Int), .int .u8 ((r 4).toNat : Int), .int .u8 ((r 5).toNat : Int), .int .u8 ((r 6).toNat : Int), .int .u8 ((r 7).toNat : Int), .int .u8 ((b 0).toNat : Int), .int .u8 ((b 1).toNat : Int), .int .u8 ((b 2).toNat : Int), .int .u8 ((b 3).toNat : Int), .int .u8 ((b 4).toNat : Int), .int .u8 ((b 5).toNat : Int), .int .u8 ((b 6).toNat : Int), .int .u8 ((b 7).toNat : Int), .int .i64 co, .int .i64 po, .int .i64 ag, .int .i64 ma, .int .i64 he, .int .i64 de, .bool ch, .bool ak], .agg #[.int .u8 ((r' 0).toNat : Int), .int .u8 ((r' 1).toNat : Int), .int .u8 ((r' 2).toNat : Int), .int .u8 ((r' 3).toNat : Int), .int .u8 ((r' 4).toNat : Int), .int .u8 ((r' 5).toNat : Int), .int .u8 ((r' 6).toNat : Int), .int .u8 ((r' 7).toNat : Int), .int .u8 ((b' 0).toNat : Int), .int .u8 ((b' 1).toNat : Int), .int .u8 ((b' 2).toNat : Int), .int .u8 ((b' 3).toNat : Int), .int .u8 ((b' 4).toNat : Int), .int .u8 ((b' 5).toNat : Int), .int .u8 ((b' 6).toNat : Int), .int .u8 ((b' 7).toNat : Int), .int .i64 co', .int .i64 po', .int .i64 ag', .int .i64 ma', .int .i64 he', .int .i64 de', .bool ch', .bool ak']] w fun e w' => e = .returned (.bool true) ∧ Below w.heap.size w w' := by
  rcases h with h1 | ⟨h1, h2⟩
  · have H1 := Lib.hid h1
    clear h1
    cases h2 : Bpdu.right co' po' ag' ma' he' de'
    · have H2 := Lib.hid h2
      clear h2
      go_enter Try.func6, Try.ntmps6
      go_upto_region 1 with fail
      generalize hW : World.alloc _ _ = W
      have hbW : Below w.heap.size w W := by rw [← hW]; exact ((Below.refl _ _).alloc (Nat.le_refl _) _).alloc (by simp) _
      have R2 : Hid (RowIs W w.heap.size 28 #[.int .u8 ((r 0).toNat : Int), .int .u8 ((r 1).toNat : Int), .int .u8 ((r 2).toNat : Int), .int .u8 ((r 3).toNat : Int), .int .u8 ((r 4).toNat : Int), .int .u8 ((r 5).toNat : Int), .int .u8 ((r 6).toNat : Int), .int .u8 ((r 7).toNat : Int), .int .u8 ((b 0).toNat : Int), .int .u8 ((b 1).toNat : Int), .int .u8 ((b 2).toNat : Int), .int .u8 ((b 3).toNat : Int), .int .u8 ((b 4).toNat : Int), .int .u8 ((b 5).toNat : Int), .int .u8 ((b 6).toNat : Int), .int .u8 ((b 7).toNat : Int), .int .i64 co, .int .i64 po, .int .i64 ag, .int .i64 ma, .int .i64 he, .int .i64 de, .bool ch, .bool ak]) := by subst hW; exact (rowIs_new w _ _).alloc _
      have R3 : Hid (RowIs W (w.heap.size + 1) 28 #[.int .u8 ((r' 0).toNat : Int), .int .u8 ((r' 1).toNat : Int), .int .u8 ((r' 2).toNat : Int), .int .u8 ((r' 3).toNat : Int), .int .u8 ((r' 4).toNat : Int), .int .u8 ((r' 5).toNat : Int), .int .u8 ((r' 6).toNat : Int), .int .u8 ((r' 7).toNat : Int), .int .u8 ((b' 0).toNat : Int), .int .u8 ((b' 1).toNat : Int), .int .u8 ((b' 2).toNat : Int), .int .u8 ((b' 3).toNat : Int), .int .u8 ((b' 4).toNat : Int), .int .u8 ((b' 5).toNat : Int), .int .u8 ((b' 6).toNat : Int), .int .u8 ((b' 7).toNat : Int), .int .i64 co', .int .i64 po', .int .i64 ag', .int .i64 ma', .int .i64 he', .int .i64 de', .bool ch', .bool ak']) := by subst hW; exact rowIs_new1 w _ _ _
      clear hW
      go_wp2_with (first | ((with_reducible refine at_load 28 (.tmp 2) ?_); refine wpList_load_own rfl 28 (.tmp 2) rfl _ rfl _ _ _ R2.out Try.underlying28 rfl info_rword ?_) | ((with_reducible refine at_load 28 (.tmp 3) ?_); refine wpList_load_own rfl 28 (.tmp 3) rfl _ rfl _ _ _ R3.out Try.underlying28 rfl info_rword ?_))
      refine (of_any r b co po ag ma he de ch ak _).mono ?_
      rintro e w9 ⟨rfl, hb9⟩
      have hbW := hbW.trans (hb9.mono hbW.size)
      have R2 := Lib.hid (R2.out.kept hb9)
      have R3 := Lib.hid (R3.out.kept hb9)
      clear hb9
      go_wp2_with fail
      refine (print_bad r b co po ag ma he de ch ak _ H1.out).mono ?_
      rintro e w9 ⟨rfl, hb9⟩
      have hbW := hbW.trans (hb9.mono hbW.size)
      have R2 := Lib.hid (R2.out.kept hb9)
      have R3 := Lib.hid (R3.out.kept hb9)
      clear hb9
      go_wp2_with (first | ((with_reducible refine at_load 28 (.tmp 2) ?_); refine wpList_load_own rfl 28 (.tmp 2) rfl _ rfl _ _ _ R2.out Try.underlying28 rfl info_rword ?_) | ((with_reducible refine at_load 28 (.tmp 3) ?_); refine wpList_load_own rfl 28 (.tmp 3) rfl _ rfl _ _ _ R3.out Try.underlying28 rfl info_rword ?_))
      refine (of_any r' b' co' po' ag' ma' he' de' ch' ak' _).mono ?_
      rintro e w9 ⟨rfl, hb9⟩
      have hbW := hbW.trans (hb9.mono hbW.size)
      have R2 := Lib.hid (R2.out.kept hb9)
      have R3 := Lib.hid (R3.out.kept hb9)
      clear hb9
      go_wp2_with fail
      refine (print_bad r' b' co' po' ag' ma' he' de' ch' ak' _ H2.out).mono ?_
      rintro e w9 ⟨rfl, hb9⟩
      have hbW := hbW.trans (hb9.mono hbW.size)
      have R2 := Lib.hid (R2.out.kept hb9)
      have R3 := Lib.hid (R3.out.kept hb9)
      clear hb9
      go_wp2_with fail
      refine (awake_any _).mono ?_
      rintro e w9 ⟨rfl, hb9⟩
      have hbW := hbW.trans (hb9.mono hbW.size)
      clear hb9
      go_wp2_with fail
      refine (awake_any _).mono ?_
      rintro e w9 ⟨rfl, hb9⟩
      have hbW := hbW.trans (hb9.mono hbW.size)
      clear hb9
      go_wp2_with fail
      go_ret
      exact ⟨rfl, hbW⟩
    · have H2 := Lib.hid h2
      clear h2
      go_enter Try.func6, Try.ntmps6
      go_upto_region 1 with fail
      generalize hW : World.alloc _ _ = W
      have hbW : Below w.heap.size w W := by rw [← hW]; exact ((Below.refl _ _).alloc (Nat.le_refl _) _).alloc (by simp) _
      have R2 : Hid (RowIs W w.heap.size 28 #[.int .u8 ((r 0).toNat : Int), .int .u8 ((r 1).toNat : Int), .int .u8 ((r 2).toNat : Int), .int .u8 ((r 3).toNat : Int), .int .u8 ((r 4).toNat : Int), .int .u8 ((r 5).toNat : Int), .int .u8 ((r 6).toNat : Int), .int .u8 ((r 7).toNat : Int), .int .u8 ((b 0).toNat : Int), .int .u8 ((b 1).toNat : Int), .int .u8 ((b 2).toNat : Int), .int .u8 ((b 3).toNat : Int), .int .u8 ((b 4).toNat : Int), .int .u8 ((b 5).toNat : Int), .int .u8 ((b 6).toNat : Int), .int .u8 ((b 7).toNat : Int), .int .i64 co, .int .i64 po, .int .i64 ag, .int .i64 ma, .int .i64 he, .int .i64 de, .bool ch, .bool ak]) := by subst hW; exact (rowIs_new w _ _).alloc _
      have R3 : Hid (RowIs W (w.heap.size + 1) 28 #[.int .u8 ((r' 0).toNat : Int), .int .u8 ((r' 1).toNat : Int), .int .u8 ((r' 2).toNat : Int), .int .u8 ((r' 3).toNat : Int), .int .u8 ((r' 4).toNat : Int), .int .u8 ((r' 5).toNat : Int), .int .u8 ((r' 6).toNat : Int), .int .u8 ((r' 7).toNat : Int), .int .u8 ((b' 0).toNat : Int), .int .u8 ((b' 1).toNat : Int), .int .u8 ((b' 2).toNat : Int), .int .u8 ((b' 3).toNat : Int), .int .u8 ((b' 4).toNat : Int), .int .u8 ((b' 5).toNat : Int), .int .u8 ((b' 6).toNat : Int), .int .u8 ((b' 7).toNat : Int), .int .i64 co', .int .i64 po', .int .i64 ag', .int .i64 ma', .int .i64 he', .int .i64 de', .bool ch', .bool ak']) := by subst hW; exact rowIs_new1 w _ _ _
      clear hW
      go_wp2_with (first | ((with_reducible refine at_load 28 (.tmp 2) ?_); refine wpList_load_own rfl 28 (.tmp 2) rfl _ rfl _ _ _ R2.out Try.underlying28 rfl info_rword ?_) | ((with_reducible refine at_load 28 (.tmp 3) ?_); refine wpList_load_own rfl 28 (.tmp 3) rfl _ rfl _ _ _ R3.out Try.underlying28 rfl info_rword ?_))
      refine (of_any r b co po ag ma he de ch ak _).mono ?_
      rintro e w9 ⟨rfl, hb9⟩
      have hbW := hbW.trans (hb9.mono hbW.size)
      have R2 := Lib.hid (R2.out.kept hb9)
      have R3 := Lib.hid (R3.out.kept hb9)
      clear hb9
      go_wp2_with fail
      refine (print_bad r b co po ag ma he de ch ak _ H1.out).mono ?_
      rintro e w9 ⟨rfl, hb9⟩
      have hbW := hbW.trans (hb9.mono hbW.size)
      have R2 := Lib.hid (R2.out.kept hb9)
      have R3 := Lib.hid (R3.out.kept hb9)
      clear hb9
      go_wp2_with (first | ((with_reducible refine at_load 28 (.tmp 2) ?_); refine wpList_load_own rfl 28 (.tmp 2) rfl _ rfl _ _ _ R2.out Try.underlying28 rfl info_rword ?_) | ((with_reducible refine at_load 28 (.tmp 3) ?_); refine wpList_load_own rfl 28 (.tmp 3) rfl _ rfl _ _ _ R3.out Try.underlying28 rfl info_rword ?_))
      refine (of_any r' b' co' po' ag' ma' he' de' ch' ak' _).mono ?_
      rintro e w9 ⟨rfl, hb9⟩
      have hbW := hbW.trans (hb9.mono hbW.size)
      have R2 := Lib.hid (R2.out.kept hb9)
      have R3 := Lib.hid (R3.out.kept hb9)
      clear hb9
      go_wp2_with fail
      refine (print_good r' b' co' po' ag' ma' he' de' ch' ak' _ H2.out).mono ?_
      rintro e w9 ⟨rfl, hb9⟩
      have hbW := hbW.trans (hb9.mono hbW.size)
      have R2 := Lib.hid (R2.out.kept hb9)
      have R3 := Lib.hid (R3.out.kept hb9)
      clear hb9
      go_wp2_with fail
      refine (awake_any _).mono ?_
      rintro e w9 ⟨rfl, hb9⟩
      have hbW := hbW.trans (hb9.mono hbW.size)
      clear hb9
      go_wp2_with fail
      refine (awake_any _).mono ?_
      rintro e w9 ⟨rfl, hb9⟩
      have hbW := hbW.trans (hb9.mono hbW.size)
      clear hb9
      go_wp2_with fail
      go_ret
      exact ⟨rfl, hbW⟩
  · have H1 := Lib.hid h1
    have H2 := Lib.hid h2
    clear h1 h2
    go_enter Try.func6, Try.ntmps6
    go_upto_region 1 with fail
    generalize hW : World.alloc _ _ = W
    have hbW : Below w.heap.size w W := by rw [← hW]; exact ((Below.refl _ _).alloc (Nat.le_refl _) _).alloc (by simp) _
    have R2 : Hid (RowIs W w.heap.size 28 #[.int .u8 ((r 0).toNat : Int), .int .u8 ((r 1).toNat : Int), .int .u8 ((r 2).toNat : Int), .int .u8 ((r 3).toNat : Int), .int .u8 ((r 4).toNat : Int), .int .u8 ((r 5).toNat : Int), .int .u8 ((r 6).toNat : Int), .int .u8 ((r 7).toNat : Int), .int .u8 ((b 0).toNat : Int), .int .u8 ((b 1).toNat : Int), .int .u8 ((b 2).toNat : Int), .int .u8 ((b 3).toNat : Int), .int .u8 ((b 4).toNat : Int), .int .u8 ((b 5).toNat : Int), .int .u8 ((b 6).toNat : Int), .int .u8 ((b 7).toNat : Int), .int .i64 co, .int .i64 po, .int .i64 ag, .int .i64 ma, .int .i64 he, .int .i64 de, .bool ch, .bool ak]) := by subst hW; exact (rowIs_new w _ _).alloc _
    have R3 : Hid (RowIs W (w.heap.size + 1) 28 #[.int .u8 ((r' 0).toNat : Int), .int .u8 ((r' 1).toNat : Int), .int .u8 ((r' 2).toNat : Int), .int .u8 ((r' 3).toNat : Int), .int .u8 ((r' 4).toNat : Int), .int .u8 ((r' 5).toNat : Int), .int .u8 ((r' 6).toNat : Int), .int .u8 ((r' 7).toNat : Int), .int .u8 ((b' 0).toNat : Int), .int .u8 ((b' 1).toNat : Int), .int .u8 ((b' 2).toNat : Int), .int .u8 ((b' 3).toNat : Int), .int .u8 ((b' 4).toNat : Int), .int .u8 ((b' 5).toNat : Int), .int .u8 ((b' 6).toNat : Int), .int .u8 ((b' 7).toNat : Int), .int .i64 co', .int .i64 po', .int .i64 ag', .int .i64 ma', .int .i64 he', .int .i64 de', .bool ch', .bool ak']) := by subst hW; exact rowIs_new1 w _ _ _
    clear hW
    go_wp2_with (first | ((with_reducible refine at_load 28 (.tmp 2) ?_); refine wpList_load_own rfl 28 (.tmp 2) rfl _ rfl _ _ _ R2.out Try.underlying28 rfl info_rword ?_) | ((with_reducible refine at_load 28 (.tmp 3) ?_); refine wpList_load_own rfl 28 (.tmp 3) rfl _ rfl _ _ _ R3.out Try.underlying28 rfl info_rword ?_))
    refine (of_any r b co po ag ma he de ch ak _).mono ?_
    rintro e w9 ⟨rfl, hb9⟩
    have hbW := hbW.trans (hb9.mono hbW.size)
    have R2 := Lib.hid (R2.out.kept hb9)
    have R3 := Lib.hid (R3.out.kept hb9)
    clear hb9
    go_wp2_with fail
    refine (print_good r b co po ag ma he de ch ak _ H1.out).mono ?_
    rintro e w9 ⟨rfl, hb9⟩
    have hbW := hbW.trans (hb9.mono hbW.size)
    have R2 := Lib.hid (R2.out.kept hb9)
    have R3 := Lib.hid (R3.out.kept hb9)
    clear hb9
    go_wp2_with (first | ((with_reducible refine at_load 28 (.tmp 2) ?_); refine wpList_load_own rfl 28 (.tmp 2) rfl _ rfl _ _ _ R2.out Try.underlying28 rfl info_rword ?_) | ((with_reducible refine at_load 28 (.tmp 3) ?_); refine wpList_load_own rfl 28 (.tmp 3) rfl _ rfl _ _ _ R3.out Try.underlying28 rfl info_rword ?_))
    refine (of_any r' b' co' po' ag' ma' he' de' ch' ak' _).mono ?_
    rintro e w9 ⟨rfl, hb9⟩
    have hbW := hbW.trans (hb9.mono hbW.size)
    have R2 := Lib.hid (R2.out.kept hb9)
    have R3 := Lib.hid (R3.out.kept hb9)
    clear hb9
    go_wp2_with fail
    refine (print_bad r' b' co' po' ag' ma' he' de' ch' ak' _ H2.out).mono ?_
    rintro e w9 ⟨rfl, hb9⟩
    have hbW := hbW.trans (hb9.mono hbW.size)
    have R2 := Lib.hid (R2.out.kept hb9)
    have R3 := Lib.hid (R3.out.kept hb9)
    clear hb9
    go_wp2_with fail
    refine (awake_any _).mono ?_
    rintro e w9 ⟨rfl, hb9⟩
    have hbW := hbW.trans (hb9.mono hbW.size)
    clear hb9
    go_wp2_with fail
    refine (awake_any _).mono ?_
    rintro e w9 ⟨rfl, hb9⟩
    have hbW := hbW.trans (hb9.mono hbW.size)
    clear hb9
    go_wp2_with fail
    go_ret
    exact ⟨rfl, hbW⟩

end Go.Proofs.Ytkbnkacmmjabkaa
