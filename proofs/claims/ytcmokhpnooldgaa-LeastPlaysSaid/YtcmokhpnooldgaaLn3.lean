/- both: a function is called with each link, from either end. By an AI agent. -/
import Derived.Test.YtcmokhpnooldgaaLn2
namespace Go.Proofs.Ytcmokhpnooldgaa
open Go.RowKit Go.WideShapes Go.Sort Grow

def Lk.turn (l : Lk) : Lk := ⟨l.b, l.q, l.a, l.p⟩
/-- links, from either end -/
def LN.dirs (N : LN) : List Lk := N.links.flatMap fun l => [l, l.turn]
theorem dirs_len (N : LN) : N.dirs.length = 2 * N.links.length := by
  unfold LN.dirs
  induction N.links with
  | nil => rfl
  | cons l ls ih => rw [List.flatMap_cons, List.length_append, ih]; simp; omega
theorem dirs_get_of : ∀ (ls : List Lk) (k : Nat), k < ls.length → (ls.flatMap fun l => [l, l.turn])[2 * k]? = some (ls.getD k .zero) ∧ (ls.flatMap fun l => [l, l.turn])[2 * k + 1]? = some (ls.getD k .zero).turn
  | [], k, h => absurd h (Nat.not_lt_zero _)
  | l :: ls, 0, _ => ⟨rfl, rfl⟩
  | l :: ls, k + 1, h => by
    have ih := dirs_get_of ls k (by simpa using h)
    rw [List.flatMap_cons, show 2 * (k + 1) = 2 * k + 1 + 1 by omega]
    exact ih
theorem dirs_get {N : LN} {k : Nat} (h : k < N.links.length) : N.dirs[2 * k]? = some (N.lk k) ∧ N.dirs[2 * k + 1]? = some (N.lk k).turn := dirs_get_of N.links k h
theorem mem_dirs {N : LN} {d : Lk} : d ∈ N.dirs ↔ ∃ l ∈ N.links, d = l ∨ d = l.turn := by simp [LN.dirs]
theorem Lk.turn_turn (l : Lk) : l.turn.turn = l := rfl
theorem dirs_turn {N : LN} {d : Lk} (h : d ∈ N.dirs) : d.turn ∈ N.dirs := by
  obtain ⟨l, hl, rfl | rfl⟩ := mem_dirs.1 h
  · exact mem_dirs.2 ⟨_, hl, .inr rfl⟩
  · exact mem_dirs.2 ⟨l, hl, .inl rfl⟩

abbrev endV (a p : Int) : Value := .agg #[.int .i64 a, .int .i64 p]

set_option maxRecDepth 20000 in
set_option maxHeartbeats 4000000 in
theorem both18 (g : FuncId) (caps : Array Value) (v : NV) (N : LN) (w : World) (J : Nat → World → Prop) (bs : List Nat)
    (heg : ∀ args w, (callFunc g args).run Try.prog w = .ok (.enter g args) w)
    (hbs : ∀ b ∈ bs, b < w.heap.size) (hN : ∀ k w', J k w' → NetAt w' v N) (hJ : ∀ k w' w'', J k w' → Below w'.heap.size w' w'' → J k w'')
    (hstep : ∀ k d w', N.dirs[k]? = some d → J k w' → Calls Try.prog g (#[endV d.a d.p, endV d.b d.q] ++ caps) w' fun e w'' => e = .returned (.tuple #[]) ∧ J (k + 1) w'' ∧ Only bs w' w'')
    (h0 : J 0 w) (hl : N.links.length ≤ 1000) :
    Calls Try.prog 29 #[.agg #[.slice v.ai N.ids.length v.ci, .slice v.ac N.costs.length v.cc, .slice v.al N.links.length v.cl], .func (.func g) #[] caps] w
      fun e w' => e = .returned (.tuple #[]) ∧ J N.dirs.length w' := by
  have HS := Lib.hid hstep
  have HN := Lib.hid hN
  have HJ := Lib.hid hJ
  have HB := Lib.hid hbs
  have H0 := Lib.hid h0
  have HDL := Lib.hid (dirs_len N)
  clear hstep hN hJ h0 hbs
  go_enter Try.func29, Try.ntmps29
  go_upto_region 1 with fail
  generalize hW : w.alloc _ = w1
  have hbW : Below w.heap.size w w1 := by rw [← hW]; exact (Below.refl _ _).alloc (Nat.le_refl _) _
  have R0 : Hid (RowIs w1 w.heap.size 32 #[.slice v.ai N.ids.length v.ci, .slice v.ac N.costs.length v.cc, .slice v.al N.links.length v.cl]) := by subst hW; exact rowIs_new w _ _
  clear hW
  have H1 := Lib.hid (HJ.out _ _ _ H0.out hbW)
  have c2 : w1.cell? ⟨w.heap.size, 2, none⟩ = some (.slice v.al N.links.length v.cl) := R0.out.cell 2
  clear H0 hbW
  go_wp2_with fail
  clear c2
  go_loopw [5, 9] (fun _ s9 wr => ∃ k : Nat, k ≤ N.links.length ∧ s9 = .int .i64 k ∧ Hid (J (2 * k) wr) ∧ Hid (RowIs wr w.heap.size 32 #[.slice v.ai N.ids.length v.ci, .slice v.ac N.costs.length v.cc, .slice v.al N.links.length v.cl])) (fun _ s9 _ => N.links.length - (intOf s9).toNat)
  case atStart => exact ⟨0, Nat.zero_le _, rfl, H1, R0⟩
  case round =>
    clear H1 R0
    rename World => wr
    obtain ⟨k, hk, rfl, HX, R0⟩ := hrel
    by_cases hlt : k < N.links.length
    · obtain ⟨b, off, eal, hbl, hrg⟩ := (HN.out _ _ HX.out).lkr hlt
      have HRG := Lib.hid hrg
      have HD := Lib.hid (dirs_get hlt)
      generalize N.lk k = x at *
      clear hrg
      have HAL := Lib.hid eal
      clear eal
      rw [HAL.out]
      have hx0 : (0 : Int) ≤ (k : Int) := by omega
      have hx1 : (k : Int) < (N.links.length : Int) := by omega
      have R6 := Lib.hid (rowIs_new wr 64 #[.int .i64 0, .int .i64 0, .int .i64 0, .int .i64 0])
      go_wp2_with (first
        | ((with_reducible refine at_load 64 (.tmp 11) ?_); refine wpList_load_mid18 rfl 64 (.tmp 11) rfl b (off + k * 4) rfl (Lk.vals x) _ HRG.out Try.underlying64 rfl (by kernel_rfl) ?_)
        | ((with_reducible refine at_store 64 (.tmp 5) (.tmp 12) ?_); refine wpList_store_own rfl 64 (.tmp 5) (.tmp 12) rfl wr.heap.size _ rfl rfl _ _ R6.out (by kernel_rfl) rfl (by simp [Lk.vals, Value.oneCell']) wr.heap.size (Nat.le_refl _) ?_))
      intro w4 hR4 ho4 hs4 hb4
      have hb4' : Below wr.heap.size wr w4 := ((Below.refl _ _).alloc (Nat.le_refl _) _).trans hb4
      have HR4 : Hid (RowIs w4 wr.heap.size 64 #[.int .i64 x.a, .int .i64 x.p, .int .i64 x.b, .int .i64 x.q]) := hR4
      have HX4 := Lib.hid (HJ.out _ _ _ HX.out hb4')
      have HR04 := Lib.hid (R0.out.kept hb4')
      have hrs : w.heap.size < wr.heap.size := R0.out.lt
      have HN4 : Hid (wr.heap.size ∉ bs) := fun hm => by have := HB.out _ hm; omega
      have HN0 : Hid (w.heap.size ∉ bs) := fun hm => by have := HB.out _ hm; omega
      clear hR4 ho4 hs4 hb4 hb4' R0 HX R6 HRG
      have HC1 := Lib.hid (HS.out _ _ _ HD.out.1 HX4.out)
      go_wp2_with (first
        | ((with_reducible refine at_load 63 (.tmp 14) ?_); refine wpList_load_mid18 rfl 63 (.tmp 14) rfl wr.heap.size 0 rfl [.int .i64 x.a, .int .i64 x.p] _ (range_of_row HR4.out rfl) Try.underlying63 rfl (by kernel_rfl) ?_)
        | ((with_reducible refine at_load 63 (.tmp 16) ?_); refine wpList_load_mid18 rfl 63 (.tmp 16) rfl wr.heap.size 2 rfl [.int .i64 x.b, .int .i64 x.q] _ (range_of_row HR4.out rfl) Try.underlying63 rfl (by kernel_rfl) ?_))
      refine HC1.out.mono ?_
      rintro e w5 ⟨rfl, hX5, ho5⟩
      have HX5 := Lib.hid hX5
      have HR5 := Lib.hid (rowIs_same HR4.out (ho5.2 _ HR4.out.lt HN4.out))
      have HR05 := Lib.hid (rowIs_same HR04.out (ho5.2 _ HR04.out.lt HN0.out))
      clear hX5 ho5 HC1 HX4 HR4 HR04
      have HC2 := Lib.hid (HS.out _ _ _ HD.out.2 HX5.out)
      go_wp2_with (first
        | ((with_reducible refine at_load 63 (.tmp 20) ?_); refine wpList_load_mid18 rfl 63 (.tmp 20) rfl wr.heap.size 2 rfl [.int .i64 x.b, .int .i64 x.q] _ (range_of_row HR5.out rfl) Try.underlying63 rfl (by kernel_rfl) ?_)
        | ((with_reducible refine at_load 63 (.tmp 22) ?_); refine wpList_load_mid18 rfl 63 (.tmp 22) rfl wr.heap.size 0 rfl [.int .i64 x.a, .int .i64 x.p] _ (range_of_row HR5.out rfl) Try.underlying63 rfl (by kernel_rfl) ?_))
      refine HC2.out.mono ?_
      rintro e w6 ⟨rfl, hX6, ho6⟩
      have HX6 : Hid (J (2 * (k + 1)) w6) := hX6
      have HR06 := Lib.hid (rowIs_same HR05.out (ho6.2 _ HR05.out.lt HN0.out))
      clear hX6 ho6 HC2 HX5 HR5 HR05
      rw [HAL.out] at HR06
      go_wp2_with fail
      exact ⟨⟨k + 1, by omega, by go_num, HX6, HR06⟩, by simp [intOf]; omega⟩
    · obtain rfl : k = N.links.length := by omega
      go_wp2_with fail
      go_end0
      exact ⟨rfl, by rw [HDL.out]; exact HX.out⟩
end Go.Proofs.Ytcmokhpnooldgaa
