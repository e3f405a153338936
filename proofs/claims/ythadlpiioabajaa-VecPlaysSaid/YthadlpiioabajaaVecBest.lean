/- Slices of vectors; vec.Best. By an AI agent. -/
import Derived.Test.YthadlpiioabajaaVec
namespace Go.Proofs.Ythadlpiioabajaa
open Go.RowKit Go.Sort Grow

namespace Vec
/-- a vector -/
structure D where
  r : Nat → UInt8
  c : Int
  b : Nat → UInt8
  p : Int
def D.cells (v : D) : List Value := [.int .u8 ((v.r 0).toNat : Int), .int .u8 ((v.r 1).toNat : Int), .int .u8 ((v.r 2).toNat : Int), .int .u8 ((v.r 3).toNat : Int), .int .u8 ((v.r 4).toNat : Int), .int .u8 ((v.r 5).toNat : Int), .int .u8 ((v.r 6).toNat : Int), .int .u8 ((v.r 7).toNat : Int), .int .i64 v.c, .int .u8 ((v.b 0).toNat : Int), .int .u8 ((v.b 1).toNat : Int), .int .u8 ((v.b 2).toNat : Int), .int .u8 ((v.b 3).toNat : Int), .int .u8 ((v.b 4).toNat : Int), .int .u8 ((v.b 5).toNat : Int), .int .u8 ((v.b 6).toNat : Int), .int .u8 ((v.b 7).toNat : Int), .int .i64 v.p]
def D.better (v v' : D) : Bool := Vec.better [v.r 0, v.r 1, v.r 2, v.r 3, v.r 4, v.r 5, v.r 6, v.r 7] v.c [v.b 0, v.b 1, v.b 2, v.b 3, v.b 4, v.b 5, v.b 6, v.b 7] v.p [v'.r 0, v'.r 1, v'.r 2, v'.r 3, v'.r 4, v'.r 5, v'.r 6, v'.r 7] v'.c [v'.b 0, v'.b 1, v'.b 2, v'.b 3, v'.b 4, v'.b 5, v'.b 6, v'.b 7] v'.p
def D.zero : D := ⟨fun _ => 0, 0, fun _ => 0, 0⟩

/-- the place of the best of the first k -/
def best (vs : List D) : Nat → Int
  | 0 => -1
  | k + 1 => if best vs k < 0 then k else if (vs.getD k .zero).better (vs.getD (best vs k).toNat .zero) then k else best vs k

theorem best_bounds (vs : List D) : ∀ k, -1 ≤ best vs k ∧ best vs k < k ∧ (0 < k → 0 ≤ best vs k)
  | 0 => by simp [best]
  | k + 1 => by
    obtain ⟨h1, h2, h3⟩ := best_bounds vs k
    simp only [best]
    split
    · omega
    · split <;> omega

/-- a slice of vectors -/
def At (w : World) (ao : Option Addr) (vs : List D) : Prop :=
  vs = [] ∨ ∃ b off, ao = some ⟨b, off, none⟩ ∧ b < w.heap.size ∧ ∀ i (h : i < vs.length), w.rangeAt b (off + i * 18) vs[i].cells

theorem At.later {w w' : World} {ao : Option Addr} {vs : List D} (h : At w ao vs) (hb : Below w.heap.size w w') : At w' ao vs := by
  rcases h with h | ⟨b, off, ha, hlt, h⟩
  · exact .inl h
  · exact .inr ⟨b, off, ha, Nat.lt_of_lt_of_le hlt hb.size, fun i hi => range_later (h i hi) hlt hb⟩
end Vec

theorem betterD_any (v v' : Vec.D) (w : World) : Calls Try.prog 12 #[.agg v.cells.toArray, .agg v'.cells.toArray] w fun e w' => e = .returned (.bool (v.better v')) ∧ Below w.heap.size w w' :=
  better_any v.r v.b v'.r v'.b v.c v.p v'.c v'.p w

set_option maxHeartbeats 1000000 in
theorem best_any (ao : Option Addr) (vs : List Vec.D) (cap : Nat) (w : World) (h : Vec.At w ao vs) (hl : vs.length ≤ 1000000) :
    Calls Try.prog 14 #[.slice ao vs.length cap] w fun e w' => e = .returned (.int .i64 (Vec.best vs vs.length)) ∧ Below w.heap.size w w' := by
  rcases h with rfl | ⟨b, off, rfl, hlt, hc⟩
  · go_enter Try.func14, Try.ntmps14
    go_wp2
    refine wp_loop_rounds 1 ?_
    rw [rounds_succ]
    go_wp2
    go_ret
    exact ⟨rfl, Below.refl _ _⟩
  · have HC := Lib.hid hc
    clear hc
    go_enter Try.func14, Try.ntmps14
    go_wp2
    go_loopw [3, 8] (fun m i wr => ∃ k : Nat, k ≤ vs.length ∧ i = .int .i64 k ∧ m = .int .i64 (Vec.best vs k) ∧ Below w.heap.size w wr) (fun _ i _ => vs.length - (intOf i).toNat)
    case atStart => exact ⟨0, Nat.zero_le _, rfl, rfl, Below.refl _ _⟩
    case round =>
      obtain ⟨k, hk, rfl, rfl, hbW⟩ := hrel
      have hbd := Vec.best_bounds vs k
      by_cases hkl : k < vs.length
      · have hnext : Vec.best vs (k + 1) = if Vec.best vs k < 0 then (k : Int) else if (vs.getD k .zero).better (vs.getD (Vec.best vs k).toNat .zero) then (k : Int) else Vec.best vs k := rfl
        have hck := range_later (HC.out k hkl) hlt hbW
        have hgk : vs.getD k .zero = vs[k] := by rw [List.getD, List.getElem?_eq_getElem hkl]; rfl
        rw [hgk] at hnext
        clear hgk
        generalize vs[k] = v at hck hnext
        have hltr := Nat.lt_of_lt_of_le hlt hbW.size
        by_cases hm : Vec.best vs k < 0
        · rw [if_pos hm] at hnext
          generalize Vec.best vs k = m at hm hbd
          have HN := Lib.hid hnext
          have HK := Lib.hid hck
          clear hnext hck
          go_wp2_with (first | ((with_reducible refine at_load 32 (.tmp 11) ?_); refine wpList_load_mid rfl 32 (.tmp 11) rfl b (off + k * 18) rfl v.cells _ HK.out Try.underlying32 rfl (by kernel_rfl) ?_) | ((with_reducible refine at_store 32 (.tmp 5) (.tmp 12) ?_); refine wpList_store_own rfl 32 (.tmp 5) (.tmp 12) rfl wr.heap.size v.cells.toArray rfl rfl _ _ (rowIs_new wr _ _) (by kernel_rfl) rfl (by kernel_rfl) wr.heap.size (Nat.le_refl _) ?_))
          intro wd r5 _ hsz hb2
          have R5 := Lib.hid r5
          clear r5
          have hb2 : Below wr.heap.size wr wd := (Below.alloc (Below.refl _ _) (Nat.le_refl _) _).trans hb2
          have hbW := hbW.trans (hb2.mono hbW.size)
          go_upto_region 5 with fail
          refine wp_region_mix 10 (by kernel_rfl) (by kernel_rfl) (by kernel_rfl) ?_
          (refine mix_step (by kernel_rfl) (by kernel_rfl) (fun K hK => ?_); go_simp; (try (simp only [↓IntWalk.iteOmega]; go_simp)); (first | (refine hK _ ?_; clear hK K) | (apply Exists.intro; refine ⟨fun _ => ?_, hK _ ?_⟩; (first | fail); clear hK K)))
          (refine mix_step (by kernel_rfl) (by kernel_rfl) (fun K hK => ?_); go_simp; (try (simp only [↓IntWalk.iteOmega]; go_simp)); (first | (refine hK _ ?_; clear hK K) | (apply Exists.intro; refine ⟨fun _ => ?_, hK _ ?_⟩; (first | fail); clear hK K)))
          (refine mix_step (by kernel_rfl) (by kernel_rfl) (fun K hK => ?_); go_simp; (try (simp only [↓IntWalk.iteOmega]; go_simp)); (first | (refine hK _ ?_; clear hK K) | (apply Exists.intro; refine ⟨fun _ => ?_, hK _ ?_⟩; (first | fail); clear hK K)))
          (refine mix_step (by kernel_rfl) (by kernel_rfl) (fun K hK => ?_); go_simp; (try (simp only [↓IntWalk.iteOmega]; go_simp)); (first | (refine hK _ ?_; clear hK K) | (apply Exists.intro; refine ⟨fun _ => ?_, hK _ ?_⟩; (first | fail); clear hK K)))
          (refine mix_step (by kernel_rfl) (by kernel_rfl) (fun K hK => ?_); go_simp; (try (simp only [↓IntWalk.iteOmega]; go_simp)); (first | (refine hK _ ?_; clear hK K) | (apply Exists.intro; refine ⟨fun _ => ?_, hK _ ?_⟩; (first | fail); clear hK K)))
          (refine mix_step (by kernel_rfl) (by kernel_rfl) (fun K hK => ?_); go_simp; (try (simp only [↓IntWalk.iteOmega]; go_simp)); (first | (refine hK _ ?_; clear hK K) | (apply Exists.intro; refine ⟨fun _ => ?_, hK _ ?_⟩; (first | fail); clear hK K)))
          (refine mix_step (by kernel_rfl) (by kernel_rfl) (fun K hK => ?_); go_simp; (try (simp only [↓IntWalk.iteOmega]; go_simp)); (first | (refine hK _ ?_; clear hK K) | (apply Exists.intro; refine ⟨fun _ => ?_, hK _ ?_⟩; (first | fail); clear hK K)))
          (refine mix_step (by kernel_rfl) (by kernel_rfl) (fun K hK => ?_); go_simp; (try (simp only [↓IntWalk.iteOmega]; go_simp)); (first | (refine hK _ ?_; clear hK K) | (apply Exists.intro; refine ⟨fun _ => ?_, hK _ ?_⟩; (first | fail); clear hK K)))
          (refine mix_step (by kernel_rfl) (by kernel_rfl) (fun K hK => ?_); go_simp; (try (simp only [↓IntWalk.iteOmega]; go_simp)); (first | (refine hK _ ?_; clear hK K) | (apply Exists.intro; refine ⟨fun _ => ?_, hK _ ?_⟩; (first | fail); clear hK K)))
          (refine mix_step (by kernel_rfl) (by kernel_rfl) (fun K hK => ?_); go_simp; (try (simp only [↓IntWalk.iteOmega]; go_simp)); (first | (refine hK _ ?_; clear hK K) | (apply Exists.intro; refine ⟨fun _ => ?_, hK _ ?_⟩; (first | fail); clear hK K)))
          refine mix_nil ?_
          rintro ⟨dq, osq⟩
          have hb3 := below_regrown wd dq osq
          have hbW := hbW.trans (hb3.mono hbW.size)
          generalize grow (redrawn wd dq) osq = W9 at *
          refine (show wpList _ _ _ _ _ _ from ?_)
          simp only [List.drop, Act.put, List.setIfInBounds_toArray, List.set]
          go_wp2_with fail
          exact ⟨⟨k + 1, by omega, by go_num, by rw [HN.out], hbW⟩, by simp [intOf]; omega⟩
        · rw [if_neg hm] at hnext
          obtain ⟨j, hj⟩ : ∃ j : Nat, Vec.best vs k = j := ⟨(Vec.best vs k).toNat, by omega⟩
          have hjk : j < k := by omega
          have hcj := range_later (HC.out j (by omega)) hlt hbW
          have hgj : vs.getD (Vec.best vs k).toNat .zero = vs[j] := by rw [show (Vec.best vs k).toNat = j by omega, List.getD, List.getElem?_eq_getElem (show j < vs.length by omega)]; rfl
          rw [hgj] at hnext
          clear hgj
          generalize vs[j] = u at hcj hnext
          clear hm hbd
          rw [hj] at hnext ⊢
          clear hj
          have hB := fun w => betterD_any v u w
          generalize v.better u = bt at hB hnext
          have HN := Lib.hid hnext
          have HK := Lib.hid hck
          have HJ := Lib.hid hcj
          have HB := Lib.hid hB
          clear hnext hck hcj hB
          go_wp2_with (first | ((with_reducible refine at_load 32 (.tmp 11) ?_); refine wpList_load_mid rfl 32 (.tmp 11) rfl b (off + k * 18) rfl v.cells _ HK.out Try.underlying32 rfl (by kernel_rfl) ?_) | ((with_reducible refine at_store 32 (.tmp 5) (.tmp 12) ?_); refine wpList_store_own rfl 32 (.tmp 5) (.tmp 12) rfl wr.heap.size v.cells.toArray rfl rfl _ _ (rowIs_new wr _ _) (by kernel_rfl) rfl (by kernel_rfl) wr.heap.size (Nat.le_refl _) ?_))
          intro wd r5 _ hsz hb2
          have R5 := Lib.hid r5
          clear r5
          have hb2 : Below wr.heap.size wr wd := (Below.alloc (Below.refl _ _) (Nat.le_refl _) _).trans hb2
          have hbW := hbW.trans (hb2.mono hbW.size)
          go_upto_region 5 with fail
          have HJ := Lib.hid (range_later HJ.out hltr hb2)
          refine wp_region_mix 10 (by kernel_rfl) (by kernel_rfl) (by kernel_rfl) ?_
          (refine mix_step (by kernel_rfl) (by kernel_rfl) (fun K hK => ?_); go_simp; (try (simp only [↓IntWalk.iteOmega]; go_simp)); (first | (refine hK _ ?_; clear hK K) | (apply Exists.intro; refine ⟨fun _ => ?_, hK _ ?_⟩; (first | fail); clear hK K)))
          (refine mix_step (by kernel_rfl) (by kernel_rfl) (fun K hK => ?_); go_simp; (try (simp only [↓IntWalk.iteOmega]; go_simp)); (first | (refine hK _ ?_; clear hK K) | (apply Exists.intro; refine ⟨fun _ => ?_, hK _ ?_⟩; (first | fail); clear hK K)))
          (refine mix_step (by kernel_rfl) (by kernel_rfl) (fun K hK => ?_); go_simp; (try (simp only [↓IntWalk.iteOmega]; go_simp)); (first | (refine hK _ ?_; clear hK K) | (apply Exists.intro; refine ⟨fun _ => ?_, hK _ ?_⟩; (first | fail); clear hK K)))
          refine mix_exact (.agg v.cells.toArray) rfl (exact_load_row rfl rfl (by simp) R5.out Try.underlying32 rfl (by kernel_rfl)) ?_
          (refine mix_step (by kernel_rfl) (by kernel_rfl) (fun K hK => ?_); go_simp; (try (simp only [↓IntWalk.iteOmega]; go_simp)); (first | (refine hK _ ?_; clear hK K) | (apply Exists.intro; refine ⟨fun _ => ?_, hK _ ?_⟩; (first | fail); clear hK K)))
          (refine mix_step (by kernel_rfl) (by kernel_rfl) (fun K hK => ?_); go_simp; (try (simp only [↓IntWalk.iteOmega]; go_simp)); (first | (refine hK _ ?_; clear hK K) | (apply Exists.intro; refine ⟨fun _ => ?_, hK _ ?_⟩; (first | fail); clear hK K)))
          (refine mix_step (by kernel_rfl) (by kernel_rfl) (fun K hK => ?_); go_simp; (try (simp only [↓IntWalk.iteOmega]; go_simp)); (first | (refine hK _ ?_; clear hK K) | (apply Exists.intro; refine ⟨fun _ => ?_, hK _ ?_⟩; (first | fail); clear hK K)))
          refine mix_exact (.agg u.cells.toArray) rfl (exact_load_range rfl rfl (by simp) HJ.out (Nat.lt_of_lt_of_le hltr hb2.size) Try.underlying32 rfl (by kernel_rfl)) ?_
          (refine mix_step (by kernel_rfl) (by kernel_rfl) (fun K hK => ?_); go_simp; (try (simp only [↓IntWalk.iteOmega]; go_simp)); (first | (refine hK _ ?_; clear hK K) | (apply Exists.intro; refine ⟨fun _ => ?_, hK _ ?_⟩; (first | exact HB.out _); clear hK K)))
          (refine mix_step (by kernel_rfl) (by kernel_rfl) (fun K hK => ?_); go_simp; (try (simp only [↓IntWalk.iteOmega]; go_simp)); (first | (refine hK _ ?_; clear hK K) | (apply Exists.intro; refine ⟨fun _ => ?_, hK _ ?_⟩; (first | fail); clear hK K)))
          refine mix_nil ?_
          rintro ⟨dq, osq⟩
          have hb3 := below_regrown wd dq osq
          have hbW := hbW.trans (hb3.mono hbW.size)
          generalize grow (redrawn wd dq) osq = W9 at *
          refine (show wpList _ _ _ _ _ _ from ?_)
          simp only [List.drop, Act.put, List.setIfInBounds_toArray, List.set]
          simp only [decide_eq_false (show ¬ ((j : Int) < 0) by omega), Bool.false_or]
          cases bt
          · go_wp2_with fail
            exact ⟨⟨k + 1, by omega, by go_num, by rw [HN.out]; rfl, hbW⟩, by simp [intOf]; omega⟩
          · go_wp2_with fail
            exact ⟨⟨k + 1, by omega, by go_num, by rw [HN.out]; rfl, hbW⟩, by simp [intOf]; omega⟩
      · go_wp2_with fail
        go_ret
        obtain rfl : k = vs.length := by omega
        exact ⟨rfl, hbW⟩
end Go.Proofs.Ythadlpiioabajaa
