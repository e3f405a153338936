/- vec.Better and what it calls. By an AI agent. -/
import Derived.Test.YthfckdnennfnoaaGreatDoorGrowKit
import Derived.Test.YthfckdnennfnoaaGreatDoorOrder
import Derived.Test.YthfckdnennfnoaaGreatDoorIdText
import Derived.Test.YthfckdnennfnoaaGreatDoorArrays
import Derived.Lib.Strings
import Derived.Deep.DeepCutAuto
namespace Go.Proofs.YthfckdnennfnoaaGreatDoor
open Go.RowKit Go.Sort Grow

namespace Vec
def cmpS (x y : List UInt8) : Int := if Ord.lt x y then -1 else if Ord.lt y x then 1 else 0
def cmpI (x y : Int) : Int := if x < y then -1 else if y < x then 1 else 0
/-- the first that is not 0 -/
def orL : List Int → Int
  | [] => 0
  | n :: l => if n ≠ 0 then n else orL l
/-- is a vector better? -/
def better (r : List UInt8) (c : Int) (b : List UInt8) (p : Int) (r' : List UInt8) (c' : Int) (b' : List UInt8) (p' : Int) : Bool := decide (orL [cmpS r r', cmpI c c', cmpS b b', cmpI p p'] < 0)
def held (n : Int) : Int := max (min n 1099511627776) 0

theorem cmpS_lt (x y : List UInt8) : (cmpS x y < 0 ↔ Ord.lt x y = true) ∧ (cmpS x y = 0 ↔ x = y) := by
  unfold cmpS
  cases h : Ord.lt x y
  · cases h2 : Ord.lt y x
    · have := Ord.lt_ne x y h h2
      simp [this]
    · have : x ≠ y := by rintro rfl; rw [h] at h2; cases h2
      simp [this]
  · have : x ≠ y := by rintro rfl; rw [Ord.lt_irrefl] at h; cases h
    simp [this]
theorem cmpI_lt (x y : Int) : (cmpI x y < 0 ↔ x < y) ∧ (cmpI x y = 0 ↔ x = y) := by
  unfold cmpI
  split
  · omega
  · split <;> omega

/-- better, part by part -/
theorem better_iff (r : List UInt8) (c : Int) (b : List UInt8) (p : Int) (r' : List UInt8) (c' : Int) (b' : List UInt8) (p' : Int) :
    better r c b p r' c' b' p' = true ↔ Ord.lt r r' = true ∨ r = r' ∧ (c < c' ∨ c = c' ∧ (Ord.lt b b' = true ∨ b = b' ∧ p < p')) := by
  have h1 := cmpS_lt r r'
  have h2 := cmpI_lt c c'
  have h3 := cmpS_lt b b'
  have h4 := cmpI_lt p p'
  unfold better
  rw [decide_eq_true_eq]
  simp only [orL]
  rw [← h1.1, ← h1.2, ← h2.1, ← h2.2, ← h3.1, ← h3.2, ← h4.1]
  generalize cmpS r r' = a
  generalize cmpI c c' = d
  generalize cmpS b b' = e
  generalize cmpI p p' = f
  by_cases a0 : a = 0 <;> by_cases d0 : d = 0 <;> by_cases e0 : e = 0 <;> by_cases f0 : f = 0 <;> simp [a0, d0, e0, f0]

theorem better_irrefl (r : List UInt8) (c : Int) (b : List UInt8) (p : Int) : better r c b p r c b p = false := by
  cases h : better r c b p r c b p
  · rfl
  · rw [better_iff, Ord.lt_irrefl, Ord.lt_irrefl] at h
    simp at h

theorem better_trans {r : List UInt8} {c : Int} {b : List UInt8} {p : Int} {r' : List UInt8} {c' : Int} {b' : List UInt8} {p' : Int} {r'' : List UInt8} {c'' : Int} {b'' : List UInt8} {p'' : Int}
    (h : better r c b p r' c' b' p' = true) (k : better r' c' b' p' r'' c'' b'' p'' = true) : better r c b p r'' c'' b'' p'' = true := by
  rw [better_iff] at h k ⊢
  have t1 := Ord.lt_trans r r' r''
  have t2 := Ord.lt_trans b b' b''
  rcases h with h | ⟨rfl, h⟩
  · rcases k with k | ⟨rfl, k⟩
    · exact Or.inl (t1 h k)
    · exact Or.inl h
  · rcases k with k | ⟨rfl, k⟩
    · exact Or.inl k
    · refine Or.inr ⟨rfl, ?_⟩
      rcases h with h | ⟨rfl, h⟩
      · rcases k with k | ⟨rfl, k⟩
        · exact Or.inl (by omega)
        · exact Or.inl h
      · rcases k with k | ⟨rfl, k⟩
        · exact Or.inl k
        · refine Or.inr ⟨rfl, ?_⟩
          rcases h with h | ⟨rfl, h⟩
          · rcases k with k | ⟨rfl, k⟩
            · exact Or.inl (t2 h k)
            · exact Or.inl h
          · rcases k with k | ⟨rfl, k⟩
            · exact Or.inl k
            · exact Or.inr ⟨rfl, by omega⟩

theorem better_asymm {r : List UInt8} {c : Int} {b : List UInt8} {p : Int} {r' : List UInt8} {c' : Int} {b' : List UInt8} {p' : Int} (h : better r c b p r' c' b' p' = true) : better r' c' b' p' r c b p = false := by
  cases k : better r' c' b' p' r c b p
  · rfl
  · have := better_trans h k
    rw [better_irrefl] at this
    cases this

theorem better_total (r : List UInt8) (c : Int) (b : List UInt8) (p : Int) (r' : List UInt8) (c' : Int) (b' : List UInt8) (p' : Int) (h1 : better r c b p r' c' b' p' = false) (h2 : better r' c' b' p' r c b p = false) : r = r' ∧ c = c' ∧ b = b' ∧ p = p' := by
  have n1 : ¬ _ := fun h => Bool.false_ne_true (h1.symm.trans ((better_iff r c b p r' c' b' p').2 h))
  have n2 : ¬ _ := fun h => Bool.false_ne_true (h2.symm.trans ((better_iff r' c' b' p' r c b p).2 h))
  have hr : r = r' := by
    by_cases h : r = r'
    · exact h
    · rcases Ord.lt_total r r' h with h | h
      · exact absurd (Or.inl h) n1
      · exact absurd (Or.inl h) n2
  subst hr
  have hc : c = c' := by
    by_cases h : c = c'
    · exact h
    · rcases (show c < c' ∨ c' < c by omega) with h | h
      · exact absurd (Or.inr ⟨rfl, Or.inl h⟩) n1
      · exact absurd (Or.inr ⟨rfl, Or.inl h⟩) n2
  subst hc
  have hb : b = b' := by
    by_cases h : b = b'
    · exact h
    · rcases Ord.lt_total b b' h with h | h
      · exact absurd (Or.inr ⟨rfl, Or.inr ⟨rfl, Or.inl h⟩⟩) n1
      · exact absurd (Or.inr ⟨rfl, Or.inr ⟨rfl, Or.inl h⟩⟩) n2
  subst hb
  refine ⟨rfl, rfl, rfl, ?_⟩
  by_cases h : p = p'
  · exact h
  · rcases (show p < p' ∨ p' < p by omega) with h | h
    · exact absurd (Or.inr ⟨rfl, Or.inr ⟨rfl, Or.inr ⟨rfl, h⟩⟩⟩) n1
    · exact absurd (Or.inr ⟨rfl, Or.inr ⟨rfl, Or.inr ⟨rfl, h⟩⟩⟩) n2
end Vec

theorem strNaN_any (x : ByteArray) (w : World) : Calls Tryz.prog 101 #[.string x] w fun e w' => e = .returned (.bool false) ∧ w = w' := by
  go_enter Tryz.func101, Tryz.ntmps101
  go_wp2_with fail
  go_ret
  exact ⟨by simp, rfl⟩
theorem intNaN_any (x : Int) (w : World) : Calls Tryz.prog 99 #[.int .i64 x] w fun e w' => e = .returned (.bool false) ∧ w = w' := by
  go_enter Tryz.func99, Tryz.ntmps99
  go_wp2_with fail
  go_ret
  exact ⟨by simp, rfl⟩

set_option maxRecDepth 20000 in
theorem compareI_any (x y : Int) (w : World) : Calls Tryz.prog 92 #[.int .i64 x, .int .i64 y] w fun e w' => e = .returned (.int .i64 (Vec.cmpI x y)) ∧ w = w' := by
  have h : Vec.cmpI x y = if x < y then -1 else if y < x then 1 else 0 := rfl
  have H := Lib.hid h
  clear h
  rcases (show x < y ∨ y < x ∨ x = y by omega) with q | q | q
  all_goals
    have q2 := Lib.hid q
    clear q
    have hh : Vec.cmpI x y = (if x < y then -1 else if y < x then 1 else 0) := H.out
    first
      | (have q : x < y := q2.out
         rw [if_pos q] at hh)
      | (have q : y < x := q2.out
         rw [if_neg (by omega), if_pos q] at hh)
      | (have q0 : x = y := q2.out
         subst q0
         rw [if_neg (by omega), if_neg (by omega)] at hh)
    rw [hh]
    clear hh
    go_enter Tryz.func92, Tryz.ntmps92
    go_wp2_with (go_at_call 99; refine (intNaN_any _ _).mono ?_; rintro e w' ⟨rfl, rfl⟩)
    go_ret
    exact ⟨rfl, rfl⟩

set_option maxRecDepth 20000 in
theorem compareS_any (x y : ByteArray) (w : World) : Calls Tryz.prog 98 #[.string x, .string y] w fun e w' => e = .returned (.int .i64 (Vec.cmpS x.toList y.toList)) ∧ w = w' := by
  have key : (Ord.lt x.toList y.toList = true ∧ Vec.cmpS x.toList y.toList = -1 ∧ True) ∨ (Ord.lt x.toList y.toList = false ∧ Vec.cmpS x.toList y.toList = 1 ∧ (x.toList == y.toList) = false) ∨ (Ord.lt x.toList y.toList = false ∧ Vec.cmpS x.toList y.toList = 0 ∧ (x.toList == y.toList) = true) := by
    unfold Vec.cmpS
    cases h1 : Ord.lt x.toList y.toList
    · cases h2 : Ord.lt y.toList x.toList
      · have e := Ord.lt_ne _ _ h1 h2
        rw [e]
        simp
      · have e : x.toList ≠ y.toList := by
          intro e
          rw [e, Ord.lt_irrefl] at h2
          cases h2
        simp [e]
    · simp
  unfold Ord.lt at key
  rcases key with ⟨h1, h3, h2⟩ | ⟨h1, h3, h2⟩ | ⟨h1, h3, h2⟩
  all_goals
    rw [h3]
    clear h3
    go_enter Tryz.func98, Tryz.ntmps98
    go_wp2_with (go_at_call 101; refine (strNaN_any _ _).mono ?_; rintro e w' ⟨rfl, rfl⟩)
    go_ret
    exact ⟨rfl, rfl⟩

set_option maxRecDepth 20000 in
theorem or_any (n : Nat) (a b c d : Int) (w : World) (T : TypeId) (H : Hid (RowIs w n T #[.int .i64 a, .int .i64 b, .int .i64 c, .int .i64 d])) :
    Calls Tryz.prog 90 #[.slice (some ⟨n, 0, none⟩) 4 4] w fun e w' => e = .returned (.int .i64 (Vec.orL [a, b, c, d])) ∧ w = w' := by
  have k0 := H.out.cell 0
  have k1 := H.out.cell 1
  have k2 := H.out.cell 2
  have k3 := H.out.cell 3
  simp at k0 k1 k2 k3
  have key : (a ≠ 0 ∧ Vec.orL [a, b, c, d] = a) ∨ (a = 0 ∧ b ≠ 0 ∧ Vec.orL [a, b, c, d] = b) ∨ (a = 0 ∧ b = 0 ∧ c ≠ 0 ∧ Vec.orL [a, b, c, d] = c) ∨ (a = 0 ∧ b = 0 ∧ c = 0 ∧ d ≠ 0 ∧ Vec.orL [a, b, c, d] = d) ∨ (a = 0 ∧ b = 0 ∧ c = 0 ∧ d = 0 ∧ Vec.orL [a, b, c, d] = 0) := by
    simp only [Vec.orL]
    by_cases ha : a = 0 <;> by_cases hb : b = 0 <;> by_cases hc : c = 0 <;> by_cases hd : d = 0 <;> simp [ha, hb, hc, hd]
  rcases key with ⟨h1, h⟩ | ⟨rfl, h1, h⟩ | ⟨rfl, rfl, h1, h⟩ | ⟨rfl, rfl, rfl, h1, h⟩ | ⟨rfl, rfl, rfl, rfl, h⟩
  all_goals
    rw [h]
    clear h
    go_enter Tryz.func90, Tryz.ntmps90
    go_wp2
    refine wp_loop_rounds 5 ?_
    iterate 5
      (try rw [rounds_succ]; go_wp2)
    go_ret
    exact ⟨rfl, rfl⟩


set_option maxRecDepth 20000 in
theorem order_any (a b : Nat → UInt8) (w : World) : Calls Tryz.prog 91 #[.agg #[.int .u8 ((a 0).toNat : Int), .int .u8 ((a 1).toNat : Int), .int .u8 ((a 2).toNat : Int), .int .u8 ((a 3).toNat : Int), .int .u8 ((a 4).toNat : Int), .int .u8 ((a 5).toNat : Int), .int .u8 ((a 6).toNat : Int), .int .u8 ((a 7).toNat : Int)], .agg #[.int .u8 ((b 0).toNat : Int), .int .u8 ((b 1).toNat : Int), .int .u8 ((b 2).toNat : Int), .int .u8 ((b 3).toNat : Int), .int .u8 ((b 4).toNat : Int), .int .u8 ((b 5).toNat : Int), .int .u8 ((b 6).toNat : Int), .int .u8 ((b 7).toNat : Int)]] w
    fun e w' => e = .returned (.int .i64 (Vec.cmpS [a 0, a 1, a 2, a 3, a 4, a 5, a 6, a 7] [b 0, b 1, b 2, b 3, b 4, b 5, b 6, b 7])) ∧ Below w.heap.size w w' := by
  go_enter Tryz.func91, Tryz.ntmps91
  go_wp2_with fail
  generalize hW : (w.alloc _).alloc _ = W
  have hbW : Below w.heap.size w W := by rw [← hW]; exact ((Below.refl _ _).alloc (Nat.le_refl _) _).alloc (by simp) _
  have cA : ∀ i, i < 8 → W.cell? ⟨w.heap.size, i, none⟩ = some (.int .u8 ((a i).toNat : Int)) := by
    intro i hi
    subst hW
    rcases (show i = 0 ∨ i = 1 ∨ i = 2 ∨ i = 3 ∨ i = 4 ∨ i = 5 ∨ i = 6 ∨ i = 7 from by omega) with rfl | rfl | rfl | rfl | rfl | rfl | rfl | rfl <;> go_simp
  have cB : ∀ i, i < 8 → W.cell? ⟨w.heap.size + 1, i, none⟩ = some (.int .u8 ((b i).toNat : Int)) := by
    intro i hi
    subst hW
    rcases (show i = 0 ∨ i = 1 ∨ i = 2 ∨ i = 3 ∨ i = 4 ∨ i = 5 ∨ i = 6 ∨ i = 7 from by omega) with rfl | rfl | rfl | rfl | rfl | rfl | rfl | rfl <;> go_simp
  have sA := fun dd os => run_id_string a (grow (redrawn W dd) os) w.heap.size (fun i hi => cell_regrown (cA i hi) dd os)
  have sB := fun dd os => run_id_string b (grow (redrawn W dd) os) (w.heap.size + 1) (fun i hi => cell_regrown (cB i hi) dd os)
  have cL : ∀ dd os, Calls Tryz.prog 98 #[.string ⟨#[a 0, a 1, a 2, a 3, a 4, a 5, a 6, a 7]⟩, .string ⟨#[b 0, b 1, b 2, b 3, b 4, b 5, b 6, b 7]⟩] (grow (redrawn W dd) os) fun e'' w'' => e'' = .returned (.int .i64 (Vec.cmpS [a 0, a 1, a 2, a 3, a 4, a 5, a 6, a 7] [b 0, b 1, b 2, b 3, b 4, b 5, b 6, b 7])) ∧ ∃ p : Regrown, w'' = grow (redrawn W p.d) p.os := fun dd os =>
    Calls.regrown_of ((compareS_any _ _ _).mono fun e w' ⟨he, hw⟩ => by
      subst hw
      rw [he, toList_mk [a 0, a 1, a 2, a 3, a 4, a 5, a 6, a 7], toList_mk [b 0, b 1, b 2, b 3, b 4, b 5, b 6, b 7]]
      exact ⟨rfl, Below.refl _ _⟩)
  clear hW cA cB
  refine wp_region_quiet_below (by kernel_rfl) (by kernel_rfl) ?_
  repeat (quiet_step (exact cL _ _))
  refine wpQuiet_nil ?_
  intro _ hw'
  obtain ⟨⟨dq, osq⟩, hw''⟩ := hw'
  subst hw''
  go_wp2_with fail
  go_ret
  exact ⟨rfl, hbW.trans ((below_regrown W dq osq).mono hbW.size)⟩

set_option maxRecDepth 20000 in
theorem better_any (r b r' b' : Nat → UInt8) (c p c' p' : Int) (w : World) : Calls Tryz.prog 81 #[.agg #[.int .u8 ((r 0).toNat : Int), .int .u8 ((r 1).toNat : Int), .int .u8 ((r 2).toNat : Int), .int .u8 ((r 3).toNat : Int), .int .u8 ((r 4).toNat : Int), .int .u8 ((r 5).toNat : Int), .int .u8 ((r 6).toNat : Int), .int .u8 ((r 7).toNat : Int), .int .i64 c, .int .u8 ((b 0).toNat : Int), .int .u8 ((b 1).toNat : Int), .int .u8 ((b 2).toNat : Int), .int .u8 ((b 3).toNat : Int), .int .u8 ((b 4).toNat : Int), .int .u8 ((b 5).toNat : Int), .int .u8 ((b 6).toNat : Int), .int .u8 ((b 7).toNat : Int), .int .i64 p], .agg #[.int .u8 ((r' 0).toNat : Int), .int .u8 ((r' 1).toNat : Int), .int .u8 ((r' 2).toNat : Int), .int .u8 ((r' 3).toNat : Int), .int .u8 ((r' 4).toNat : Int), .int .u8 ((r' 5).toNat : Int), .int .u8 ((r' 6).toNat : Int), .int .u8 ((r' 7).toNat : Int), .int .i64 c', .int .u8 ((b' 0).toNat : Int), .int .u8 ((b' 1).toNat : Int), .int .u8 ((b' 2).toNat : Int), .int .u8 ((b' 3).toNat : Int), .int .u8 ((b' 4).toNat : Int), .int .u8 ((b' 5).toNat : Int), .int .u8 ((b' 6).toNat : Int), .int .u8 ((b' 7).toNat : Int), .int .i64 p']] w
    fun e w' => e = .returned (.bool (Vec.better [r 0, r 1, r 2, r 3, r 4, r 5, r 6, r 7] c [b 0, b 1, b 2, b 3, b 4, b 5, b 6, b 7] p [r' 0, r' 1, r' 2, r' 3, r' 4, r' 5, r' 6, r' 7] c' [b' 0, b' 1, b' 2, b' 3, b' 4, b' 5, b' 6, b' 7] p')) ∧ Below w.heap.size w w' := by
  go_enter Tryz.func81, Tryz.ntmps81
  go_wp2_with fail
  generalize hW : (w.alloc _).alloc _ = W
  have hbW : Below w.heap.size w W := by rw [← hW]; exact ((Below.refl _ _).alloc (Nat.le_refl _) _).alloc (by simp) _
  have R1 : Hid (RowIs W w.heap.size 136 #[.int .u8 ((r 0).toNat : Int), .int .u8 ((r 1).toNat : Int), .int .u8 ((r 2).toNat : Int), .int .u8 ((r 3).toNat : Int), .int .u8 ((r 4).toNat : Int), .int .u8 ((r 5).toNat : Int), .int .u8 ((r 6).toNat : Int), .int .u8 ((r 7).toNat : Int), .int .i64 c, .int .u8 ((b 0).toNat : Int), .int .u8 ((b 1).toNat : Int), .int .u8 ((b 2).toNat : Int), .int .u8 ((b 3).toNat : Int), .int .u8 ((b 4).toNat : Int), .int .u8 ((b 5).toNat : Int), .int .u8 ((b 6).toNat : Int), .int .u8 ((b 7).toNat : Int), .int .i64 p]) := by subst hW; exact (rowIs_new w _ _).alloc _
  have R2 : Hid (RowIs W (w.heap.size + 1) 136 #[.int .u8 ((r' 0).toNat : Int), .int .u8 ((r' 1).toNat : Int), .int .u8 ((r' 2).toNat : Int), .int .u8 ((r' 3).toNat : Int), .int .u8 ((r' 4).toNat : Int), .int .u8 ((r' 5).toNat : Int), .int .u8 ((r' 6).toNat : Int), .int .u8 ((r' 7).toNat : Int), .int .i64 c', .int .u8 ((b' 0).toNat : Int), .int .u8 ((b' 1).toNat : Int), .int .u8 ((b' 2).toNat : Int), .int .u8 ((b' 3).toNat : Int), .int .u8 ((b' 4).toNat : Int), .int .u8 ((b' 5).toNat : Int), .int .u8 ((b' 6).toNat : Int), .int .u8 ((b' 7).toNat : Int), .int .i64 p']) := by subst hW; exact rowIs_new1 w _ _ _
  clear hW
  have k5 := fun (q : Regrown) => cell_regrown (R1.out.cell 8) q.d q.os
  have k6 := fun (q : Regrown) => cell_regrown (R1.out.cell 17) q.d q.os
  have k7 := fun (q : Regrown) => cell_regrown (R2.out.cell 8) q.d q.os
  have k8 := fun (q : Regrown) => cell_regrown (R2.out.cell 17) q.d q.os
  refine wp_region_mix 24 (by kernel_rfl) (by kernel_rfl) (by kernel_rfl) ?_
  (refine mix_step (by kernel_rfl) (by kernel_rfl) (fun K hK => ?_); go_simp; (try (simp only [↓IntWalk.iteOmega]; go_simp)); (first | (refine hK _ ?_; clear hK K) | (apply Exists.intro; refine ⟨fun _ => ?_, hK _ ?_⟩; (first | exact order_any _ _ _ | exact below_same (compareI_any _ _ _)); clear hK K)))
  refine mix_exact (.agg #[.int .u8 ((r 0).toNat : Int), .int .u8 ((r 1).toNat : Int), .int .u8 ((r 2).toNat : Int), .int .u8 ((r 3).toNat : Int), .int .u8 ((r 4).toNat : Int), .int .u8 ((r 5).toNat : Int), .int .u8 ((r 6).toNat : Int), .int .u8 ((r 7).toNat : Int)]) rfl (exact_load_mid (sub := [.int .u8 ((r 0).toNat : Int), .int .u8 ((r 1).toNat : Int), .int .u8 ((r 2).toNat : Int), .int .u8 ((r 3).toNat : Int), .int .u8 ((r 4).toNat : Int), .int .u8 ((r 5).toNat : Int), .int .u8 ((r 6).toNat : Int), .int .u8 ((r 7).toNat : Int)]) rfl rfl (by simp) R1.out rfl Tryz.underlying28 rfl (by kernel_rfl)) ?_
  (refine mix_step (by kernel_rfl) (by kernel_rfl) (fun K hK => ?_); go_simp; (try (simp only [↓IntWalk.iteOmega]; go_simp)); (first | (refine hK _ ?_; clear hK K) | (apply Exists.intro; refine ⟨fun _ => ?_, hK _ ?_⟩; (first | exact order_any _ _ _ | exact below_same (compareI_any _ _ _)); clear hK K)))
  refine mix_exact (.agg #[.int .u8 ((r' 0).toNat : Int), .int .u8 ((r' 1).toNat : Int), .int .u8 ((r' 2).toNat : Int), .int .u8 ((r' 3).toNat : Int), .int .u8 ((r' 4).toNat : Int), .int .u8 ((r' 5).toNat : Int), .int .u8 ((r' 6).toNat : Int), .int .u8 ((r' 7).toNat : Int)]) rfl (exact_load_mid (sub := [.int .u8 ((r' 0).toNat : Int), .int .u8 ((r' 1).toNat : Int), .int .u8 ((r' 2).toNat : Int), .int .u8 ((r' 3).toNat : Int), .int .u8 ((r' 4).toNat : Int), .int .u8 ((r' 5).toNat : Int), .int .u8 ((r' 6).toNat : Int), .int .u8 ((r' 7).toNat : Int)]) rfl rfl (by simp) R2.out rfl Tryz.underlying28 rfl (by kernel_rfl)) ?_
  (refine mix_step (by kernel_rfl) (by kernel_rfl) (fun K hK => ?_); go_simp; (try (simp only [↓IntWalk.iteOmega]; go_simp)); (first | (refine hK _ ?_; clear hK K) | (apply Exists.intro; refine ⟨fun _ => ?_, hK _ ?_⟩; (first | exact order_any _ _ _ | exact below_same (compareI_any _ _ _)); clear hK K)))
  (refine mix_step (by kernel_rfl) (by kernel_rfl) (fun K hK => ?_); go_simp; (try (simp only [↓IntWalk.iteOmega]; go_simp)); (first | (refine hK _ ?_; clear hK K) | (apply Exists.intro; refine ⟨fun _ => ?_, hK _ ?_⟩; (first | exact order_any _ _ _ | exact below_same (compareI_any _ _ _)); clear hK K)))
  (refine mix_step (by kernel_rfl) (by kernel_rfl) (fun K hK => ?_); go_simp; (try (simp only [↓IntWalk.iteOmega]; go_simp)); (first | (refine hK _ ?_; clear hK K) | (apply Exists.intro; refine ⟨fun _ => ?_, hK _ ?_⟩; (first | exact order_any _ _ _ | exact below_same (compareI_any _ _ _)); clear hK K)))
  (refine mix_step (by kernel_rfl) (by kernel_rfl) (fun K hK => ?_); go_simp; (try (simp only [↓IntWalk.iteOmega]; go_simp)); (first | (refine hK _ ?_; clear hK K) | (apply Exists.intro; refine ⟨fun _ => ?_, hK _ ?_⟩; (first | exact order_any _ _ _ | exact below_same (compareI_any _ _ _)); clear hK K)))
  (refine mix_step (by kernel_rfl) (by kernel_rfl) (fun K hK => ?_); go_simp; (try (simp only [↓IntWalk.iteOmega]; go_simp)); (first | (refine hK _ ?_; clear hK K) | (apply Exists.intro; refine ⟨fun _ => ?_, hK _ ?_⟩; (first | exact order_any _ _ _ | exact below_same (compareI_any _ _ _)); clear hK K)))
  (refine mix_step (by kernel_rfl) (by kernel_rfl) (fun K hK => ?_); go_simp; (try (simp only [↓IntWalk.iteOmega]; go_simp)); (first | (refine hK _ ?_; clear hK K) | (apply Exists.intro; refine ⟨fun _ => ?_, hK _ ?_⟩; (first | exact order_any _ _ _ | exact below_same (compareI_any _ _ _)); clear hK K)))
  (refine mix_step (by kernel_rfl) (by kernel_rfl) (fun K hK => ?_); go_simp; (try (simp only [↓IntWalk.iteOmega]; go_simp)); (first | (refine hK _ ?_; clear hK K) | (apply Exists.intro; refine ⟨fun _ => ?_, hK _ ?_⟩; (first | exact order_any _ _ _ | exact below_same (compareI_any _ _ _)); clear hK K)))
  refine mix_exact (.agg #[.int .u8 ((b 0).toNat : Int), .int .u8 ((b 1).toNat : Int), .int .u8 ((b 2).toNat : Int), .int .u8 ((b 3).toNat : Int), .int .u8 ((b 4).toNat : Int), .int .u8 ((b 5).toNat : Int), .int .u8 ((b 6).toNat : Int), .int .u8 ((b 7).toNat : Int)]) rfl (exact_load_mid (sub := [.int .u8 ((b 0).toNat : Int), .int .u8 ((b 1).toNat : Int), .int .u8 ((b 2).toNat : Int), .int .u8 ((b 3).toNat : Int), .int .u8 ((b 4).toNat : Int), .int .u8 ((b 5).toNat : Int), .int .u8 ((b 6).toNat : Int), .int .u8 ((b 7).toNat : Int)]) rfl rfl (by simp) R1.out rfl Tryz.underlying28 rfl (by kernel_rfl)) ?_
  (refine mix_step (by kernel_rfl) (by kernel_rfl) (fun K hK => ?_); go_simp; (try (simp only [↓IntWalk.iteOmega]; go_simp)); (first | (refine hK _ ?_; clear hK K) | (apply Exists.intro; refine ⟨fun _ => ?_, hK _ ?_⟩; (first | exact order_any _ _ _ | exact below_same (compareI_any _ _ _)); clear hK K)))
  refine mix_exact (.agg #[.int .u8 ((b' 0).toNat : Int), .int .u8 ((b' 1).toNat : Int), .int .u8 ((b' 2).toNat : Int), .int .u8 ((b' 3).toNat : Int), .int .u8 ((b' 4).toNat : Int), .int .u8 ((b' 5).toNat : Int), .int .u8 ((b' 6).toNat : Int), .int .u8 ((b' 7).toNat : Int)]) rfl (exact_load_mid (sub := [.int .u8 ((b' 0).toNat : Int), .int .u8 ((b' 1).toNat : Int), .int .u8 ((b' 2).toNat : Int), .int .u8 ((b' 3).toNat : Int), .int .u8 ((b' 4).toNat : Int), .int .u8 ((b' 5).toNat : Int), .int .u8 ((b' 6).toNat : Int), .int .u8 ((b' 7).toNat : Int)]) rfl rfl (by simp) R2.out rfl Tryz.underlying28 rfl (by kernel_rfl)) ?_
  (refine mix_step (by kernel_rfl) (by kernel_rfl) (fun K hK => ?_); go_simp; (try (simp only [↓IntWalk.iteOmega]; go_simp)); (first | (refine hK _ ?_; clear hK K) | (apply Exists.intro; refine ⟨fun _ => ?_, hK _ ?_⟩; (first | exact order_any _ _ _ | exact below_same (compareI_any _ _ _)); clear hK K)))
  (refine mix_step (by kernel_rfl) (by kernel_rfl) (fun K hK => ?_); go_simp; (try (simp only [↓IntWalk.iteOmega]; go_simp)); (first | (refine hK _ ?_; clear hK K) | (apply Exists.intro; refine ⟨fun _ => ?_, hK _ ?_⟩; (first | exact order_any _ _ _ | exact below_same (compareI_any _ _ _)); clear hK K)))
  (refine mix_step (by kernel_rfl) (by kernel_rfl) (fun K hK => ?_); go_simp; (try (simp only [↓IntWalk.iteOmega]; go_simp)); (first | (refine hK _ ?_; clear hK K) | (apply Exists.intro; refine ⟨fun _ => ?_, hK _ ?_⟩; (first | exact order_any _ _ _ | exact below_same (compareI_any _ _ _)); clear hK K)))
  (refine mix_step (by kernel_rfl) (by kernel_rfl) (fun K hK => ?_); go_simp; (try (simp only [↓IntWalk.iteOmega]; go_simp)); (first | (refine hK _ ?_; clear hK K) | (apply Exists.intro; refine ⟨fun _ => ?_, hK _ ?_⟩; (first | exact order_any _ _ _ | exact below_same (compareI_any _ _ _)); clear hK K)))
  (refine mix_step (by kernel_rfl) (by kernel_rfl) (fun K hK => ?_); go_simp; (try (simp only [↓IntWalk.iteOmega]; go_simp)); (first | (refine hK _ ?_; clear hK K) | (apply Exists.intro; refine ⟨fun _ => ?_, hK _ ?_⟩; (first | exact order_any _ _ _ | exact below_same (compareI_any _ _ _)); clear hK K)))
  (refine mix_step (by kernel_rfl) (by kernel_rfl) (fun K hK => ?_); go_simp; (try (simp only [↓IntWalk.iteOmega]; go_simp)); (first | (refine hK _ ?_; clear hK K) | (apply Exists.intro; refine ⟨fun _ => ?_, hK _ ?_⟩; (first | exact order_any _ _ _ | exact below_same (compareI_any _ _ _)); clear hK K)))
  refine mix_special _ 25 rfl rfl (stable_row _ _ _ _) (owes_buildSlice (cells := #[.int .i64 (Vec.cmpS [r 0, r 1, r 2, r 3, r 4, r 5, r 6, r 7] [r' 0, r' 1, r' 2, r' 3, r' 4, r' 5, r' 6, r' 7]), .int .i64 (Vec.cmpI c c'), .int .i64 (Vec.cmpS [b 0, b 1, b 2, b 3, b 4, b 5, b 6, b 7] [b' 0, b' 1, b' 2, b' 3, b' 4, b' 5, b' 6, b' 7]), .int .i64 (Vec.cmpI p p')]) rfl (by simp) Tryz.underlying47 (sz := 1) (z := .int .i64 0) (by kernel_rfl) (by decide) (by decide) (by kernel_rfl)) ?_
  refine mix_exact (.int .i64 (Vec.orL [Vec.cmpS [r 0, r 1, r 2, r 3, r 4, r 5, r 6, r 7] [r' 0, r' 1, r' 2, r' 3, r' 4, r' 5, r' 6, r' 7], Vec.cmpI c c', Vec.cmpS [b 0, b 1, b 2, b 3, b 4, b 5, b 6, b 7] [b' 0, b' 1, b' 2, b' 3, b' 4, b' 5, b' 6, b' 7], Vec.cmpI p p'])) rfl (exact_call rfl (List.Mem.head _) Tryz.func90 rfl rfl (fun u w1 _ ⟨b0, hu, _, hr⟩ => by subst hu; exact below_same (or_any _ _ _ _ _ _ _ hr))) ?_
  repeat (refine mix_step (by kernel_rfl) (by kernel_rfl) (fun K hK => ?_); go_simp; (try (simp only [↓IntWalk.iteOmega]; go_simp)); (first | (refine hK _ ?_; clear hK K) | (apply Exists.intro; refine ⟨fun _ => ?_, hK _ ?_⟩; (first | exact order_any _ _ _ | exact below_same (compareI_any _ _ _)); clear hK K)))
  refine mix_nil ?_
  rintro ⟨dq, osq⟩ u25 -
  have hb1 := below_regrown W dq osq
  have hbW := hbW.trans (hb1.mono hbW.size)
  generalize grow (redrawn W dq) osq = W9 at *
  refine (show wpList _ _ _ _ _ _ from ?_)
  simp only [List.drop, Act.put, List.setIfInBounds_toArray, List.set]
  go_wp2_with fail
  go_ret
  exact ⟨rfl, hbW⟩

set_option maxRecDepth 20000 in
theorem held_any (n : Int) (w : World) : Calls Tryz.prog 89 #[.int .i64 n] w fun e w' => e = .returned (.int .i64 (Vec.held n)) ∧ w = w' := by
  have key : (n < 0 ∧ Vec.held n = 0) ∨ (0 ≤ n ∧ n ≤ 1099511627776 ∧ Vec.held n = n) ∨ (1099511627776 < n ∧ Vec.held n = 1099511627776) := by
    unfold Vec.held; omega
  rcases key with ⟨h1, h⟩ | ⟨h1, h2, h⟩ | ⟨h1, h⟩
  all_goals
    rw [h]
    clear h
    go_enter Tryz.func89, Tryz.ntmps89
    go_wp2_with fail
    go_ret
    exact ⟨rfl, rfl⟩

set_option maxRecDepth 20000 in
theorem over_any (r b bb : Nat → UInt8) (c p cost pp : Int) (w : World) : Calls Tryz.prog 79 #[.agg #[.int .u8 ((r 0).toNat : Int), .int .u8 ((r 1).toNat : Int), .int .u8 ((r 2).toNat : Int), .int .u8 ((r 3).toNat : Int), .int .u8 ((r 4).toNat : Int), .int .u8 ((r 5).toNat : Int), .int .u8 ((r 6).toNat : Int), .int .u8 ((r 7).toNat : Int), .int .i64 c, .int .u8 ((b 0).toNat : Int), .int .u8 ((b 1).toNat : Int), .int .u8 ((b 2).toNat : Int), .int .u8 ((b 3).toNat : Int), .int .u8 ((b 4).toNat : Int), .int .u8 ((b 5).toNat : Int), .int .u8 ((b 6).toNat : Int), .int .u8 ((b 7).toNat : Int), .int .i64 p], .int .i64 cost, .agg #[.int .u8 ((bb 0).toNat : Int), .int .u8 ((bb 1).toNat : Int), .int .u8 ((bb 2).toNat : Int), .int .u8 ((bb 3).toNat : Int), .int .u8 ((bb 4).toNat : Int), .int .u8 ((bb 5).toNat : Int), .int .u8 ((bb 6).toNat : Int), .int .u8 ((bb 7).toNat : Int)], .int .i64 pp] w
    fun e w' => e = .returned (.agg #[.int .u8 ((r 0).toNat : Int), .int .u8 ((r 1).toNat : Int), .int .u8 ((r 2).toNat : Int), .int .u8 ((r 3).toNat : Int), .int .u8 ((r 4).toNat : Int), .int .u8 ((r 5).toNat : Int), .int .u8 ((r 6).toNat : Int), .int .u8 ((r 7).toNat : Int), .int .i64 (Vec.held c + Vec.held cost), .int .u8 ((bb 0).toNat : Int), .int .u8 ((bb 1).toNat : Int), .int .u8 ((bb 2).toNat : Int), .int .u8 ((bb 3).toNat : Int), .int .u8 ((bb 4).toNat : Int), .int .u8 ((bb 5).toNat : Int), .int .u8 ((bb 6).toNat : Int), .int .u8 ((bb 7).toNat : Int), .int .i64 pp]) ∧ Below w.heap.size w w' := by
  have hh : 0 ≤ Vec.held c ∧ Vec.held c ≤ 1099511627776 := by unfold Vec.held; omega
  have hh2 : 0 ≤ Vec.held cost ∧ Vec.held cost ≤ 1099511627776 := by unfold Vec.held; omega
  go_enter Tryz.func79, Tryz.ntmps79
  go_wp2_with fail
  generalize hW : World.alloc _ _ = W
  have hbW : Below w.heap.size w W := by rw [← hW]; exact (((Below.refl _ _).alloc (Nat.le_refl _) _).alloc (by simp) _).alloc (by simp; omega) _
  have R1 : Hid (RowIs W w.heap.size 136 #[.int .u8 ((r 0).toNat : Int), .int .u8 ((r 1).toNat : Int), .int .u8 ((r 2).toNat : Int), .int .u8 ((r 3).toNat : Int), .int .u8 ((r 4).toNat : Int), .int .u8 ((r 5).toNat : Int), .int .u8 ((r 6).toNat : Int), .int .u8 ((r 7).toNat : Int), .int .i64 c, .int .u8 ((b 0).toNat : Int), .int .u8 ((b 1).toNat : Int), .int .u8 ((b 2).toNat : Int), .int .u8 ((b 3).toNat : Int), .int .u8 ((b 4).toNat : Int), .int .u8 ((b 5).toNat : Int), .int .u8 ((b 6).toNat : Int), .int .u8 ((b 7).toNat : Int), .int .i64 p]) := by subst hW; exact ((rowIs_new w _ _).alloc _).alloc _
  have R2 : Hid (RowIs W (w.heap.size + 1) 28 #[.int .u8 ((bb 0).toNat : Int), .int .u8 ((bb 1).toNat : Int), .int .u8 ((bb 2).toNat : Int), .int .u8 ((bb 3).toNat : Int), .int .u8 ((bb 4).toNat : Int), .int .u8 ((bb 5).toNat : Int), .int .u8 ((bb 6).toNat : Int), .int .u8 ((bb 7).toNat : Int)]) := by subst hW; exact (rowIs_new1 w _ _ _).alloc _
  have R3 : Hid (RowIs W (w.heap.size + 2) 136 #[.int .u8 0, .int .u8 0, .int .u8 0, .int .u8 0, .int .u8 0, .int .u8 0, .int .u8 0, .int .u8 0, .int .i64 0, .int .u8 0, .int .u8 0, .int .u8 0, .int .u8 0, .int .u8 0, .int .u8 0, .int .u8 0, .int .u8 0, .int .i64 0]) := by subst hW; exact rowIs_new2 w _ _ _ _
  clear hW
  have k5 := fun (q : Regrown) => cell_regrown (R1.out.cell 8) q.d q.os
  refine wp_region_mix 11 (by kernel_rfl) (by kernel_rfl) (by kernel_rfl) ?_
  (refine mix_step (by kernel_rfl) (by kernel_rfl) (fun K hK => ?_); go_simp; (try (simp only [↓IntWalk.iteOmega]; go_simp)); (first | (refine hK _ ?_; clear hK K) | (apply Exists.intro; refine ⟨fun _ => ?_, hK _ ?_⟩; (first | exact below_same (held_any _ _)); clear hK K)))
  refine mix_exact (.agg #[.int .u8 ((r 0).toNat : Int), .int .u8 ((r 1).toNat : Int), .int .u8 ((r 2).toNat : Int), .int .u8 ((r 3).toNat : Int), .int .u8 ((r 4).toNat : Int), .int .u8 ((r 5).toNat : Int), .int .u8 ((r 6).toNat : Int), .int .u8 ((r 7).toNat : Int)]) rfl (exact_load_mid (sub := [.int .u8 ((r 0).toNat : Int), .int .u8 ((r 1).toNat : Int), .int .u8 ((r 2).toNat : Int), .int .u8 ((r 3).toNat : Int), .int .u8 ((r 4).toNat : Int), .int .u8 ((r 5).toNat : Int), .int .u8 ((r 6).toNat : Int), .int .u8 ((r 7).toNat : Int)]) rfl rfl (by simp) R1.out rfl Tryz.underlying28 rfl (by kernel_rfl)) ?_
  (refine mix_step (by kernel_rfl) (by kernel_rfl) (fun K hK => ?_); go_simp; (try (simp only [↓IntWalk.iteOmega]; go_simp)); (first | (refine hK _ ?_; clear hK K) | (apply Exists.intro; refine ⟨fun _ => ?_, hK _ ?_⟩; (first | exact below_same (held_any _ _)); clear hK K)))
  (refine mix_step (by kernel_rfl) (by kernel_rfl) (fun K hK => ?_); go_simp; (try (simp only [↓IntWalk.iteOmega]; go_simp)); (first | (refine hK _ ?_; clear hK K) | (apply Exists.intro; refine ⟨fun _ => ?_, hK _ ?_⟩; (first | exact below_same (held_any _ _)); clear hK K)))
  (refine mix_step (by kernel_rfl) (by kernel_rfl) (fun K hK => ?_); go_simp; (try (simp only [↓IntWalk.iteOmega]; go_simp)); (first | (refine hK _ ?_; clear hK K) | (apply Exists.intro; refine ⟨fun _ => ?_, hK _ ?_⟩; (first | exact below_same (held_any _ _)); clear hK K)))
  (refine mix_step (by kernel_rfl) (by kernel_rfl) (fun K hK => ?_); go_simp; (try (simp only [↓IntWalk.iteOmega]; go_simp)); (first | (refine hK _ ?_; clear hK K) | (apply Exists.intro; refine ⟨fun _ => ?_, hK _ ?_⟩; (first | exact below_same (held_any _ _)); clear hK K)))
  (refine mix_step (by kernel_rfl) (by kernel_rfl) (fun K hK => ?_); go_simp; (try (simp only [↓IntWalk.iteOmega]; go_simp)); (first | (refine hK _ ?_; clear hK K) | (apply Exists.intro; refine ⟨fun _ => ?_, hK _ ?_⟩; (first | exact below_same (held_any _ _)); clear hK K)))
  (refine mix_step (by kernel_rfl) (by kernel_rfl) (fun K hK => ?_); go_simp; (try (simp only [↓IntWalk.iteOmega]; go_simp)); (first | (refine hK _ ?_; clear hK K) | (apply Exists.intro; refine ⟨fun _ => ?_, hK _ ?_⟩; (first | exact below_same (held_any _ _)); clear hK K)))
  refine mix_exact (.agg #[.int .u8 ((bb 0).toNat : Int), .int .u8 ((bb 1).toNat : Int), .int .u8 ((bb 2).toNat : Int), .int .u8 ((bb 3).toNat : Int), .int .u8 ((bb 4).toNat : Int), .int .u8 ((bb 5).toNat : Int), .int .u8 ((bb 6).toNat : Int), .int .u8 ((bb 7).toNat : Int)]) rfl (exact_load_mid (sub := [.int .u8 ((bb 0).toNat : Int), .int .u8 ((bb 1).toNat : Int), .int .u8 ((bb 2).toNat : Int), .int .u8 ((bb 3).toNat : Int), .int .u8 ((bb 4).toNat : Int), .int .u8 ((bb 5).toNat : Int), .int .u8 ((bb 6).toNat : Int), .int .u8 ((bb 7).toNat : Int)]) rfl rfl (by simp) R2.out rfl Tryz.underlying28 rfl (by kernel_rfl)) ?_
  repeat (refine mix_step (by kernel_rfl) (by kernel_rfl) (fun K hK => ?_); go_simp; (try (simp only [↓IntWalk.iteOmega]; go_simp)); (first | (refine hK _ ?_; clear hK K) | (apply Exists.intro; refine ⟨fun _ => ?_, hK _ ?_⟩; (first | exact below_same (held_any _ _)); clear hK K)))

  refine mix_nil ?_
  rintro ⟨dq, osq⟩
  have hb1 := below_regrown W dq osq
  have R4 := Lib.hid (R3.out.kept hb1)
  have hbW := hbW.trans (hb1.mono hbW.size)
  generalize grow (redrawn W dq) osq = W9 at *
  refine (show wpList _ _ _ _ _ _ from ?_)
  simp only [List.drop, Act.put, List.setIfInBounds_toArray, List.set]
  refine at_store 136 (.tmp 8) (.tmp 19) ?_
  refine wpList_store_own rfl _ _ _ rfl (w.heap.size + 2) _ rfl rfl _ _ R4.out (by kernel_rfl) rfl (by simp [Value.oneCell']) w.heap.size (by omega) ?_
  intro w' hR _ _ hB
  have R5 := Lib.hid hR
  have hbW := hbW.trans hB
  clear hR hB
  go_wp2_with fail
  refine bodyPost_ret (results_row Tryz.results79 _ _ (w.heap.size + 2) _ _ _ rfl R5.out Tryz.underlying136 rfl (by kernel_rfl)) rfl ?_
  refine ⟨?_, hbW⟩
  rw [IntWalk.i64_in _ (by omega)]


end Go.Proofs.YthfckdnennfnoaaGreatDoor
