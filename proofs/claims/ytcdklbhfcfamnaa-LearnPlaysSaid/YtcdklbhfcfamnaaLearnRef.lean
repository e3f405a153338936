/- The document's table: less, Find. By an AI agent. -/
import Derived.Test.YtcdklbhfcfamnaaLearnSays
import Derived.Test.YtcdklbhfcfamnaaLearnClears
import Derived.BigQuiet
namespace Go.Proofs.Ytcdklbhfcfamnaa
open Go.RowKit Go.MapKept Go.Maps Go.WideShapes Go.Sort Grow

def Mac6.at (m : Mac6) (i : Nat) : UInt8 := m.l.getD i 0
theorem mac_n6 (a b : Mac6) (k : Nat) (hk : k < 6) (h : ∀ j, j < k → a.at j = b.at j) (hne : a.at k ≠ b.at k) : (a.n < b.n ↔ a.at k < b.at k) := by
  have h1 := a.a.toNat_lt
  have h2 := a.b.toNat_lt
  have h3 := a.c.toNat_lt
  have h4 := a.d.toNat_lt
  have h5 := a.e.toNat_lt
  have h6 := a.f.toNat_lt
  have g1 := b.a.toNat_lt
  have g2 := b.b.toNat_lt
  have g3 := b.c.toNat_lt
  have g4 := b.d.toNat_lt
  have g5 := b.e.toNat_lt
  have g6 := b.f.toNat_lt
  have eq : ∀ j, j < k → (a.at j).toNat = (b.at j).toNat := fun j hj => by rw [h j hj]
  rw [u8_ne] at hne
  rw [u8_lt]
  unfold Mac6.n
  rcases (show k = 0 ∨ k = 1 ∨ k = 2 ∨ k = 3 ∨ k = 4 ∨ k = 5 from by omega) with rfl | rfl | rfl | rfl | rfl | rfl
  · change a.a.toNat ≠ b.a.toNat at hne
    show _ ↔ (a.a.toNat < b.a.toNat)
    omega
  · change a.b.toNat ≠ b.b.toNat at hne
    show _ ↔ (a.b.toNat < b.b.toNat)
    have e0 : a.a.toNat = b.a.toNat := eq 0 (by decide)
    omega
  · change a.c.toNat ≠ b.c.toNat at hne
    show _ ↔ (a.c.toNat < b.c.toNat)
    have e0 : a.a.toNat = b.a.toNat := eq 0 (by decide)
    have e1 : a.b.toNat = b.b.toNat := eq 1 (by decide)
    omega
  · change a.d.toNat ≠ b.d.toNat at hne
    show _ ↔ (a.d.toNat < b.d.toNat)
    have e0 : a.a.toNat = b.a.toNat := eq 0 (by decide)
    have e1 : a.b.toNat = b.b.toNat := eq 1 (by decide)
    have e2 : a.c.toNat = b.c.toNat := eq 2 (by decide)
    omega
  · change a.e.toNat ≠ b.e.toNat at hne
    show _ ↔ (a.e.toNat < b.e.toNat)
    have e0 : a.a.toNat = b.a.toNat := eq 0 (by decide)
    have e1 : a.b.toNat = b.b.toNat := eq 1 (by decide)
    have e2 : a.c.toNat = b.c.toNat := eq 2 (by decide)
    have e3 : a.d.toNat = b.d.toNat := eq 3 (by decide)
    omega
  · change a.f.toNat ≠ b.f.toNat at hne
    show _ ↔ (a.f.toNat < b.f.toNat)
    have e0 : a.a.toNat = b.a.toNat := eq 0 (by decide)
    have e1 : a.b.toNat = b.b.toNat := eq 1 (by decide)
    have e2 : a.c.toNat = b.c.toNat := eq 2 (by decide)
    have e3 : a.d.toNat = b.d.toNat := eq 3 (by decide)
    have e4 : a.e.toNat = b.e.toNat := eq 4 (by decide)
    omega
theorem key_v {x y : Ent} (h : x.v ≠ y.v) : (x.key < y.key ↔ x.v < y.v) := by
  have g1 := x.m.n_lt
  have g2 := y.m.n_lt
  unfold Ent.key
  omega
theorem key_m {x y : Ent} (h : x.v = y.v) : (x.key < y.key ↔ x.m.n < y.m.n) := by
  unfold Ent.key
  rw [h]
  omega
theorem mac_all {a b : Mac6} (h : ∀ j, j < 6 → a.at j = b.at j) : a = b := by
  cases a
  cases b
  have e0 := h 0 (by decide)
  have e1 := h 1 (by decide)
  have e2 := h 2 (by decide)
  have e3 := h 3 (by decide)
  have e4 := h 4 (by decide)
  have e5 := h 5 (by decide)
  simp only [Mac6.at, Mac6.l, List.getD_cons_zero, List.getD_cons_succ] at e0 e1 e2 e3 e4 e5
  rw [e0, e1, e2, e3, e4, e5]

theorem run_equalIn_arr6 (d : Nat) (a b c e f g a' b' c' e' f' g' : UInt8) (w : World) :
    (Op.equalIn (d + 1 + 1) 22 (.agg #[.int .u8 (a.toNat : Int), .int .u8 (b.toNat : Int), .int .u8 (c.toNat : Int), .int .u8 (e.toNat : Int), .int .u8 (f.toNat : Int), .int .u8 (g.toNat : Int)])
      (.agg #[.int .u8 (a'.toNat : Int), .int .u8 (b'.toNat : Int), .int .u8 (c'.toNat : Int), .int .u8 (e'.toNat : Int), .int .u8 (f'.toNat : Int), .int .u8 (g'.toNat : Int)])).run Try.prog w = .ok (eqB [a, b, c, e, f, g] [a', b', c', e', f', g']) w :=
  run_equalIn_bytes d 6 Try.underlying22 [a, b, c, e, f, g] [a', b', c', e', f', g'] rfl rfl w

set_option maxRecDepth 20000 in
set_option maxHeartbeats 4000000 in
theorem refless_any (x y : Ent) (w : World) : Calls Try.prog 38 #[.agg #[.int .i64 x.v, .int .i64 x.port, .int .i64 x.age, .int .u8 (x.m.a.toNat : Int), .int .u8 (x.m.b.toNat : Int), .int .u8 (x.m.c.toNat : Int), .int .u8 (x.m.d.toNat : Int), .int .u8 (x.m.e.toNat : Int), .int .u8 (x.m.f.toNat : Int), .bool x.fixed], .agg #[.int .i64 y.v, .int .i64 y.port, .int .i64 y.age, .int .u8 (y.m.a.toNat : Int), .int .u8 (y.m.b.toNat : Int), .int .u8 (y.m.c.toNat : Int), .int .u8 (y.m.d.toNat : Int), .int .u8 (y.m.e.toNat : Int), .int .u8 (y.m.f.toNat : Int), .bool y.fixed]] w
    fun e w' => e = .returned (.bool (decide (x.key < y.key))) ∧ Below w.heap.size w w' := by
  go_enter Try.func38, Try.ntmps38
  go_upto_region 1 with fail
  generalize hW : (w.alloc _).alloc _ = W
  have hbW : Below w.heap.size w W := by rw [← hW]; exact ((Below.refl _ _).alloc (Nat.le_refl _) _).alloc (by simp) _
  have rA : RowIs W w.heap.size 51 #[.int .i64 x.v, .int .i64 x.port, .int .i64 x.age, .int .u8 (x.m.a.toNat : Int), .int .u8 (x.m.b.toNat : Int), .int .u8 (x.m.c.toNat : Int), .int .u8 (x.m.d.toNat : Int), .int .u8 (x.m.e.toNat : Int), .int .u8 (x.m.f.toNat : Int), .bool x.fixed] := by
    rw [← hW]
    exact (rowIs_new w 51 #[.int .i64 x.v, .int .i64 x.port, .int .i64 x.age, .int .u8 (x.m.a.toNat : Int), .int .u8 (x.m.b.toNat : Int), .int .u8 (x.m.c.toNat : Int), .int .u8 (x.m.d.toNat : Int), .int .u8 (x.m.e.toNat : Int), .int .u8 (x.m.f.toNat : Int), .bool x.fixed]).alloc _
  have rB : RowIs W (w.heap.size + 1) 51 #[.int .i64 y.v, .int .i64 y.port, .int .i64 y.age, .int .u8 (y.m.a.toNat : Int), .int .u8 (y.m.b.toNat : Int), .int .u8 (y.m.c.toNat : Int), .int .u8 (y.m.d.toNat : Int), .int .u8 (y.m.e.toNat : Int), .int .u8 (y.m.f.toNat : Int), .bool y.fixed] := by
    rw [← hW]
    exact rowIs_new1 w _ 51 #[.int .i64 y.v, .int .i64 y.port, .int .i64 y.age, .int .u8 (y.m.a.toNat : Int), .int .u8 (y.m.b.toNat : Int), .int .u8 (y.m.c.toNat : Int), .int .u8 (y.m.d.toNat : Int), .int .u8 (y.m.e.toNat : Int), .int .u8 (y.m.f.toNat : Int), .bool y.fixed]
  have cx : W.cell? ⟨w.heap.size, 0, none⟩ = some (.int .i64 x.v) := rA.cell 0
  have cy : W.cell? ⟨w.heap.size + 1, 0, none⟩ = some (.int .i64 y.v) := rB.cell 0
  have cA : Hid (∀ i, i < 6 → W.cell? ⟨w.heap.size, 3 + i, none⟩ = some (.int .u8 ((x.m.at i).toNat : Int))) := by
    intro i hi
    rw [rA.cell]
    rcases (show i = 0 ∨ i = 1 ∨ i = 2 ∨ i = 3 ∨ i = 4 ∨ i = 5 from by omega) with rfl | rfl | rfl | rfl | rfl | rfl <;> rfl
  have cB : Hid (∀ i, i < 6 → W.cell? ⟨w.heap.size + 1, 3 + i, none⟩ = some (.int .u8 ((y.m.at i).toNat : Int))) := by
    intro i hi
    rw [rB.cell]
    rcases (show i = 0 ∨ i = 1 ∨ i = 2 ∨ i = 3 ∨ i = 4 ∨ i = 5 from by omega) with rfl | rfl | rfl | rfl | rfl | rfl <;> rfl
  have hsz : w.heap.size + 1 < W.heap.size := rB.lt
  clear hW rA rB
  cases hv : x.v == y.v
  · have hvn : x.v ≠ y.v := by simpa using hv
    have HK := Lib.hid (show decide (x.key < y.key) = decide (x.v < y.v) from decide_eq_decide.2 (key_v hvn))
    have hv2 : (x.v != y.v) = true := bne_iff_ne.2 hvn
    clear hvn hv
    go_wp2_with fail
    go_ret
    exact ⟨by rw [HK.out]; rfl, hbW⟩
  · have hve : x.v = y.v := by simpa using hv
    have HKM := Lib.hid (key_m hve)
    have hv2 : (x.v != y.v) = false := by rw [hve]; simp
    clear hve hv
    go_upto_region 3 with fail
    clear cx cy hv2
    go_wp2_with fail
    go_loopw [5] (fun i wr => ∃ k : Nat, k ≤ 6 ∧ i = .int .i64 k ∧ Hid (∀ j, j < k → x.m.at j = y.m.at j) ∧ Below W.heap.size W wr) (fun i _ => 6 - (intOf i).toNat)
    case atStart => exact ⟨0, Nat.zero_le _, rfl, fun j hj => absurd hj (Nat.not_lt_zero j), Below.refl _ _⟩
    case round =>
      rename_i wr
      obtain ⟨k, hk, rfl, heq, hbR⟩ := hrel
      by_cases hlt : k < 6
      · have ca := cell_of_below hbR (cA.out k hlt)
        have cb := cell_of_below hbR (cB.out k hlt)
        by_cases he : x.m.at k = y.m.at k
        · have hx : (x.m.at k).toNat = (y.m.at k).toNat := by rw [he]
          have HE := Lib.hid he
          clear he
          generalize (x.m.at k).toNat = p at ca hx
          generalize (y.m.at k).toNat = q at cb hx
          subst hx
          go_upto_region 6 with fail
          go_quiet (fail)
          go_wp2_with fail
          refine ⟨⟨k + 1, by omega, by go_num, fun j hj => ?_, below_drewN hbR _⟩, by simp [intOf]; omega⟩
          rcases Nat.lt_or_ge j k with h | h
          · exact heq.out j h
          · obtain rfl : j = k := by omega
            exact HE.out
        · have HR := Lib.hid (show decide (x.key < y.key) = decide ((x.m.at k).toNat < (y.m.at k).toNat) from decide_eq_decide.2 (HKM.out.trans (mac_n6 x.m y.m k hlt heq.out he)))
          have hne : ¬ (x.m.at k).toNat = (y.m.at k).toNat := fun h => he (UInt8.toNat_inj.1 h)
          clear he
          generalize (x.m.at k).toNat = p at ca hne HR
          generalize (y.m.at k).toNat = q at cb hne HR
          go_upto_region 6 with fail
          go_quiet (fail)
          go_upto_region 7 with fail
          go_quiet (fail)
          go_wp2_with fail
          go_ret
          refine ⟨?_, hbW.trans ((below_drewN (below_drewN hbR _) _).mono hbW.size)⟩
          rw [HR.out]
          simp
      · obtain rfl : k = 6 := by omega
        have HR := Lib.hid (show decide (x.key < y.key) = false from decide_eq_false (fun h => by
          have := HKM.out.1 h
          rw [mac_all heq.out] at this
          exact Nat.lt_irrefl _ this))
        go_wp2_with fail
        go_ret
        exact ⟨by rw [HR.out]; rfl, hbW.trans (hbR.mono hbW.size)⟩

set_option maxRecDepth 20000 in
set_option maxHeartbeats 4000000 in
theorem reffind_any (ao : Option Addr) (l : List Ent) (cap : Nat) (v : Int) (m : Mac6) (w : World) (h : ManyAt w ao encE 10 l) (hl : l.length ≤ 1000) : Calls Try.prog 23 #[.slice ao l.length cap, .int .i64 v, .agg #[.int .u8 (m.a.toNat : Int), .int .u8 (m.b.toNat : Int), .int .u8 (m.c.toNat : Int), .int .u8 (m.d.toNat : Int), .int .u8 (m.e.toNat : Int), .int .u8 (m.f.toNat : Int)]] w
    fun e w' => ((∃ i, ∃ h : i < l.length, e = .returned (.int .i64 (i : Nat)) ∧ (l[i].is v m) = true) ∨ (e = .returned (.int .i64 (-1)) ∧ ∀ x ∈ l, x.is v m = false)) ∧ Below w.heap.size w w' := by
  have HA := Lib.hid h
  have hbW : Below w.heap.size w (w.alloc (.cells #[.int .u8 (m.a.toNat : Int), .int .u8 (m.b.toNat : Int), .int .u8 (m.c.toNat : Int), .int .u8 (m.d.toNat : Int), .int .u8 (m.e.toNat : Int), .int .u8 (m.f.toNat : Int)] 22)) := (Below.refl _ w).alloc (Nat.le_refl _) _
  have HB := Lib.hid (rowIs_new w 22 #[.int .u8 (m.a.toNat : Int), .int .u8 (m.b.toNat : Int), .int .u8 (m.c.toNat : Int), .int .u8 (m.d.toNat : Int), .int .u8 (m.e.toNat : Int), .int .u8 (m.f.toNat : Int)])
  clear h
  go_enter Try.func23, Try.ntmps23
  go_upto_region 1 with fail
  generalize (w.alloc (.cells #[.int .u8 (m.a.toNat : Int), .int .u8 (m.b.toNat : Int), .int .u8 (m.c.toNat : Int), .int .u8 (m.d.toNat : Int), .int .u8 (m.e.toNat : Int), .int .u8 (m.f.toNat : Int)] 22)) = W at *
  go_wp2_with fail
  go_loopw [7] (fun s7 wr => ∃ i : Nat, i ≤ l.length ∧ s7 = .int .i64 i ∧ Hid (∀ (j : Nat) (hj : j < l.length), j < i → (l[j].is v m) = false) ∧ Below W.heap.size W wr) (fun s7 _ => l.length - (intOf s7).toNat)
  case atStart => exact ⟨0, Nat.zero_le _, rfl, fun j hj hh => absurd hh (Nat.not_lt_zero j), Below.refl _ _⟩
  case round =>
    rename_i wr
    obtain ⟨i, hi, rfl, HN, hbR⟩ := hrel
    by_cases hlt : i < l.length
    · obtain ⟨b, off, hao, hbl, hcell⟩ := (HA.out.later (hbW.trans (hbR.mono hbW.size))).range hlt
      subst hao
      have HRm : Hid (wr.rangeAt b (off + i * 10 + 3) (macCells l[i].m)) := fun t v ht => by
        have h := hcell (3 + t) v (by rcases t with _ | _ | _ | _ | _ | _ | t <;> first | exact ht | (simp [macCells] at ht))
        rw [← Nat.add_assoc] at h
        exact h
      have c0 : wr.cell? ⟨b, off + i * 10, none⟩ = some (.int .i64 l[i].v) := hcell 0 _ rfl
      have HBr := Lib.hid (HB.out.kept hbR)
      have HNX : Hid ((l[i].is v m) = false → ∀ (j : Nat) (hj : j < l.length), j < i + 1 → (l[j].is v m) = false) := fun h j hj hji => by
        rcases Nat.lt_or_ge j i with h1 | h1
        · exact HN.out j hj h1
        · obtain rfl : j = i := by omega
          exact h
      have HYES : Hid ((l[i].is v m) = true → ∃ j, ∃ h : j < l.length, (.returned (.int .i64 (i : Nat)) : Ending) = .returned (.int .i64 (j : Nat)) ∧ (l[j].is v m) = true) := fun h => ⟨i, hlt, rfl, h⟩
      have HIS : Hid ((l[i].is v m) = (decide (l[i].v = v) && eqB [l[i].m.a, l[i].m.b, l[i].m.c, l[i].m.d, l[i].m.e, l[i].m.f] [m.a, m.b, m.c, m.d, m.e, m.f])) := rfl
      generalize (l[i].is v m) = yes at *
      generalize l[i] = d at *
      clear hcell HN
      go_upto_region 4 with fail
      have k0 := cell_regrown c0
      clear c0
      cases hv : d.v == v
      · have hvn : ¬ d.v = v := by simpa using hv
        have hy : yes = false := by rw [HIS.out, decide_eq_false hvn]; rfl
        clear hvn
        refine wp_region_mix 16 (by kernel_rfl) (by kernel_rfl) (by kernel_rfl) ?_
        (refine mix_step (by kernel_rfl) (by kernel_rfl) (fun K hK => ?_); go_simp; (try (simp only [↓IntWalk.iteOmega]; go_simp)); (first | (refine hK _ ?_; clear hK K) | (apply Exists.intro; refine ⟨fun _ => ?_, hK _ ?_⟩; (first | fail); clear hK K)))
        (refine mix_step (by kernel_rfl) (by kernel_rfl) (fun K hK => ?_); go_simp; (try (simp only [↓IntWalk.iteOmega]; go_simp)); (first | (refine hK _ ?_; clear hK K) | (apply Exists.intro; refine ⟨fun _ => ?_, hK _ ?_⟩; (first | fail); clear hK K)))
        (refine mix_step (by kernel_rfl) (by kernel_rfl) (fun K hK => ?_); go_simp; (try (simp only [↓IntWalk.iteOmega]; go_simp)); (first | (refine hK _ ?_; clear hK K) | (apply Exists.intro; refine ⟨fun _ => ?_, hK _ ?_⟩; (first | fail); clear hK K)))
        (refine mix_step (by kernel_rfl) (by kernel_rfl) (fun K hK => ?_); go_simp; (try (simp only [↓IntWalk.iteOmega]; go_simp)); (first | (refine hK _ ?_; clear hK K) | (apply Exists.intro; refine ⟨fun _ => ?_, hK _ ?_⟩; (first | fail); clear hK K)))
        (refine mix_step (by kernel_rfl) (by kernel_rfl) (fun K hK => ?_); go_simp; (try (simp only [↓IntWalk.iteOmega]; go_simp)); (first | (refine hK _ ?_; clear hK K) | (apply Exists.intro; refine ⟨fun _ => ?_, hK _ ?_⟩; (first | fail); clear hK K)))
        (refine mix_step (by kernel_rfl) (by kernel_rfl) (fun K hK => ?_); go_simp; (try (simp only [↓IntWalk.iteOmega]; go_simp)); (first | (refine hK _ ?_; clear hK K) | (apply Exists.intro; refine ⟨fun _ => ?_, hK _ ?_⟩; (first | fail); clear hK K)))
        (refine mix_step (by kernel_rfl) (by kernel_rfl) (fun K hK => ?_); go_simp; (try (simp only [↓IntWalk.iteOmega]; go_simp)); (first | (refine hK _ ?_; clear hK K) | (apply Exists.intro; refine ⟨fun _ => ?_, hK _ ?_⟩; (first | fail); clear hK K)))
        (refine mix_step (by kernel_rfl) (by kernel_rfl) (fun K hK => ?_); go_simp; (try (simp only [↓IntWalk.iteOmega]; go_simp)); (first | (refine hK _ ?_; clear hK K) | (apply Exists.intro; refine ⟨fun _ => ?_, hK _ ?_⟩; (first | fail); clear hK K)))
        (refine mix_step (by kernel_rfl) (by kernel_rfl) (fun K hK => ?_); go_simp; (try (simp only [↓IntWalk.iteOmega]; go_simp)); (first | (refine hK _ ?_; clear hK K) | (apply Exists.intro; refine ⟨fun _ => ?_, hK _ ?_⟩; (first | fail); clear hK K)))
        (refine mix_step (by kernel_rfl) (by kernel_rfl) (fun K hK => ?_); go_simp; (try (simp only [↓IntWalk.iteOmega]; go_simp)); (first | (refine hK _ ?_; clear hK K) | (apply Exists.intro; refine ⟨fun _ => ?_, hK _ ?_⟩; (first | fail); clear hK K)))
        (refine mix_step (by kernel_rfl) (by kernel_rfl) (fun K hK => ?_); go_simp; (try (simp only [↓IntWalk.iteOmega]; go_simp)); (first | (refine hK _ ?_; clear hK K) | (apply Exists.intro; refine ⟨fun _ => ?_, hK _ ?_⟩; (first | fail); clear hK K)))
        (refine mix_step (by kernel_rfl) (by kernel_rfl) (fun K hK => ?_); go_simp; (try (simp only [↓IntWalk.iteOmega]; go_simp)); (first | (refine hK _ ?_; clear hK K) | (apply Exists.intro; refine ⟨fun _ => ?_, hK _ ?_⟩; (first | fail); clear hK K)))
        (refine mix_step (by kernel_rfl) (by kernel_rfl) (fun K hK => ?_); go_simp; (try (simp only [↓IntWalk.iteOmega]; go_simp)); (first | (refine hK _ ?_; clear hK K) | (apply Exists.intro; refine ⟨fun _ => ?_, hK _ ?_⟩; (first | fail); clear hK K)))
        (refine mix_step (by kernel_rfl) (by kernel_rfl) (fun K hK => ?_); go_simp; (try (simp only [↓IntWalk.iteOmega]; go_simp)); (first | (refine hK _ ?_; clear hK K) | (apply Exists.intro; refine ⟨fun _ => ?_, hK _ ?_⟩; (first | fail); clear hK K)))
        (refine mix_step (by kernel_rfl) (by kernel_rfl) (fun K hK => ?_); go_simp; (try (simp only [↓IntWalk.iteOmega]; go_simp)); (first | (refine hK _ ?_; clear hK K) | (apply Exists.intro; refine ⟨fun _ => ?_, hK _ ?_⟩; (first | fail); clear hK K)))
        (refine mix_step (by kernel_rfl) (by kernel_rfl) (fun K hK => ?_); go_simp; (try (simp only [↓IntWalk.iteOmega]; go_simp)); (first | (refine hK _ ?_; clear hK K) | (apply Exists.intro; refine ⟨fun _ => ?_, hK _ ?_⟩; (first | fail); clear hK K)))
        refine mix_nil ?_
        rintro ⟨dr, osr⟩
        have hbR := hbR.trans ((below_regrown wr dr osr).mono hbR.size)
        clear k0 hv
        refine (show wpList _ _ _ _ _ _ from ?_)
        simp only [List.drop, Act.put, List.setIfInBounds_toArray, List.set]
        go_wp2_with fail
        refine ⟨⟨i + 1, by omega, by go_num, HNX.out hy, hbR⟩, by simp [intOf]; omega⟩
      · have hve : d.v = v := by simpa using hv
        have m1 := run_equalIn_arr6 9998 d.m.a d.m.b d.m.c d.m.d d.m.e d.m.f m.a m.b m.c m.d m.e m.f
        rw [decide_eq_true hve, Bool.true_and] at HIS
        cases hq : eqB [d.m.a, d.m.b, d.m.c, d.m.d, d.m.e, d.m.f] [m.a, m.b, m.c, m.d, m.e, m.f]
        · rw [hq] at m1 HIS
          have hy : yes = false := HIS.out
          clear hve hq
          refine wp_region_mix 16 (by kernel_rfl) (by kernel_rfl) (by kernel_rfl) ?_
          (refine mix_step (by kernel_rfl) (by kernel_rfl) (fun K hK => ?_); go_simp; (try (simp only [↓IntWalk.iteOmega]; go_simp)); (first | (refine hK _ ?_; clear hK K) | (apply Exists.intro; refine ⟨fun _ => ?_, hK _ ?_⟩; (first | fail); clear hK K)))
          (refine mix_step (by kernel_rfl) (by kernel_rfl) (fun K hK => ?_); go_simp; (try (simp only [↓IntWalk.iteOmega]; go_simp)); (first | (refine hK _ ?_; clear hK K) | (apply Exists.intro; refine ⟨fun _ => ?_, hK _ ?_⟩; (first | fail); clear hK K)))
          (refine mix_step (by kernel_rfl) (by kernel_rfl) (fun K hK => ?_); go_simp; (try (simp only [↓IntWalk.iteOmega]; go_simp)); (first | (refine hK _ ?_; clear hK K) | (apply Exists.intro; refine ⟨fun _ => ?_, hK _ ?_⟩; (first | fail); clear hK K)))
          (refine mix_step (by kernel_rfl) (by kernel_rfl) (fun K hK => ?_); go_simp; (try (simp only [↓IntWalk.iteOmega]; go_simp)); (first | (refine hK _ ?_; clear hK K) | (apply Exists.intro; refine ⟨fun _ => ?_, hK _ ?_⟩; (first | fail); clear hK K)))
          (refine mix_step (by kernel_rfl) (by kernel_rfl) (fun K hK => ?_); go_simp; (try (simp only [↓IntWalk.iteOmega]; go_simp)); (first | (refine hK _ ?_; clear hK K) | (apply Exists.intro; refine ⟨fun _ => ?_, hK _ ?_⟩; (first | fail); clear hK K)))
          (refine mix_step (by kernel_rfl) (by kernel_rfl) (fun K hK => ?_); go_simp; (try (simp only [↓IntWalk.iteOmega]; go_simp)); (first | (refine hK _ ?_; clear hK K) | (apply Exists.intro; refine ⟨fun _ => ?_, hK _ ?_⟩; (first | fail); clear hK K)))
          (refine mix_step (by kernel_rfl) (by kernel_rfl) (fun K hK => ?_); go_simp; (try (simp only [↓IntWalk.iteOmega]; go_simp)); (first | (refine hK _ ?_; clear hK K) | (apply Exists.intro; refine ⟨fun _ => ?_, hK _ ?_⟩; (first | fail); clear hK K)))
          (refine mix_step (by kernel_rfl) (by kernel_rfl) (fun K hK => ?_); go_simp; (try (simp only [↓IntWalk.iteOmega]; go_simp)); (first | (refine hK _ ?_; clear hK K) | (apply Exists.intro; refine ⟨fun _ => ?_, hK _ ?_⟩; (first | fail); clear hK K)))
          (refine mix_step (by kernel_rfl) (by kernel_rfl) (fun K hK => ?_); go_simp; (try (simp only [↓IntWalk.iteOmega]; go_simp)); (first | (refine hK _ ?_; clear hK K) | (apply Exists.intro; refine ⟨fun _ => ?_, hK _ ?_⟩; (first | fail); clear hK K)))
          (refine mix_step (by kernel_rfl) (by kernel_rfl) (fun K hK => ?_); go_simp; (try (simp only [↓IntWalk.iteOmega]; go_simp)); (first | (refine hK _ ?_; clear hK K) | (apply Exists.intro; refine ⟨fun _ => ?_, hK _ ?_⟩; (first | fail); clear hK K)))
          (refine mix_step (by kernel_rfl) (by kernel_rfl) (fun K hK => ?_); go_simp; (try (simp only [↓IntWalk.iteOmega]; go_simp)); (first | (refine hK _ ?_; clear hK K) | (apply Exists.intro; refine ⟨fun _ => ?_, hK _ ?_⟩; (first | fail); clear hK K)))
          (refine mix_step (by kernel_rfl) (by kernel_rfl) (fun K hK => ?_); go_simp; (try (simp only [↓IntWalk.iteOmega]; go_simp)); (first | (refine hK _ ?_; clear hK K) | (apply Exists.intro; refine ⟨fun _ => ?_, hK _ ?_⟩; (first | fail); clear hK K)))
          refine mix_exact (.agg #[.int .u8 (d.m.a.toNat : Int), .int .u8 (d.m.b.toNat : Int), .int .u8 (d.m.c.toNat : Int), .int .u8 (d.m.d.toNat : Int), .int .u8 (d.m.e.toNat : Int), .int .u8 (d.m.f.toNat : Int)]) rfl (exact_load_range (off := off + i * 10 + 3) (sub := macCells d.m) rfl rfl (by simp) HRm.out hbl Try.underlying22 rfl (by kernel_rfl)) ?_
          refine mix_exact (.agg #[.int .u8 (m.a.toNat : Int), .int .u8 (m.b.toNat : Int), .int .u8 (m.c.toNat : Int), .int .u8 (m.d.toNat : Int), .int .u8 (m.e.toNat : Int), .int .u8 (m.f.toNat : Int)]) rfl (exact_load_row rfl rfl (by simp) HBr.out Try.underlying22 rfl (by kernel_rfl)) ?_
          (refine mix_step (by kernel_rfl) (by kernel_rfl) (fun K hK => ?_); go_simp; (try (simp only [↓IntWalk.iteOmega]; go_simp)); (first | (refine hK _ ?_; clear hK K) | (apply Exists.intro; refine ⟨fun _ => ?_, hK _ ?_⟩; (first | fail); clear hK K)))
          (refine mix_step (by kernel_rfl) (by kernel_rfl) (fun K hK => ?_); go_simp; (try (simp only [↓IntWalk.iteOmega]; go_simp)); (first | (refine hK _ ?_; clear hK K) | (apply Exists.intro; refine ⟨fun _ => ?_, hK _ ?_⟩; (first | fail); clear hK K)))
          refine mix_nil ?_
          rintro ⟨dr, osr⟩
          have hbR := hbR.trans ((below_regrown wr dr osr).mono hbR.size)
          clear k0 hv m1
          refine (show wpList _ _ _ _ _ _ from ?_)
          simp only [List.drop, Act.put, List.setIfInBounds_toArray, List.set]
          go_wp2_with fail
          refine ⟨⟨i + 1, by omega, by go_num, HNX.out hy, hbR⟩, by simp [intOf]; omega⟩
        · rw [hq] at m1 HIS
          have hy : yes = true := HIS.out
          have HF := Lib.hid (HYES.out hy)
          clear hve hq
          refine wp_region_mix 16 (by kernel_rfl) (by kernel_rfl) (by kernel_rfl) ?_
          (refine mix_step (by kernel_rfl) (by kernel_rfl) (fun K hK => ?_); go_simp; (try (simp only [↓IntWalk.iteOmega]; go_simp)); (first | (refine hK _ ?_; clear hK K) | (apply Exists.intro; refine ⟨fun _ => ?_, hK _ ?_⟩; (first | fail); clear hK K)))
          (refine mix_step (by kernel_rfl) (by kernel_rfl) (fun K hK => ?_); go_simp; (try (simp only [↓IntWalk.iteOmega]; go_simp)); (first | (refine hK _ ?_; clear hK K) | (apply Exists.intro; refine ⟨fun _ => ?_, hK _ ?_⟩; (first | fail); clear hK K)))
          (refine mix_step (by kernel_rfl) (by kernel_rfl) (fun K hK => ?_); go_simp; (try (simp only [↓IntWalk.iteOmega]; go_simp)); (first | (refine hK _ ?_; clear hK K) | (apply Exists.intro; refine ⟨fun _ => ?_, hK _ ?_⟩; (first | fail); clear hK K)))
          (refine mix_step (by kernel_rfl) (by kernel_rfl) (fun K hK => ?_); go_simp; (try (simp only [↓IntWalk.iteOmega]; go_simp)); (first | (refine hK _ ?_; clear hK K) | (apply Exists.intro; refine ⟨fun _ => ?_, hK _ ?_⟩; (first | fail); clear hK K)))
          (refine mix_step (by kernel_rfl) (by kernel_rfl) (fun K hK => ?_); go_simp; (try (simp only [↓IntWalk.iteOmega]; go_simp)); (first | (refine hK _ ?_; clear hK K) | (apply Exists.intro; refine ⟨fun _ => ?_, hK _ ?_⟩; (first | fail); clear hK K)))
          (refine mix_step (by kernel_rfl) (by kernel_rfl) (fun K hK => ?_); go_simp; (try (simp only [↓IntWalk.iteOmega]; go_simp)); (first | (refine hK _ ?_; clear hK K) | (apply Exists.intro; refine ⟨fun _ => ?_, hK _ ?_⟩; (first | fail); clear hK K)))
          (refine mix_step (by kernel_rfl) (by kernel_rfl) (fun K hK => ?_); go_simp; (try (simp only [↓IntWalk.iteOmega]; go_simp)); (first | (refine hK _ ?_; clear hK K) | (apply Exists.intro; refine ⟨fun _ => ?_, hK _ ?_⟩; (first | fail); clear hK K)))
          (refine mix_step (by kernel_rfl) (by kernel_rfl) (fun K hK => ?_); go_simp; (try (simp only [↓IntWalk.iteOmega]; go_simp)); (first | (refine hK _ ?_; clear hK K) | (apply Exists.intro; refine ⟨fun _ => ?_, hK _ ?_⟩; (first | fail); clear hK K)))
          (refine mix_step (by kernel_rfl) (by kernel_rfl) (fun K hK => ?_); go_simp; (try (simp only [↓IntWalk.iteOmega]; go_simp)); (first | (refine hK _ ?_; clear hK K) | (apply Exists.intro; refine ⟨fun _ => ?_, hK _ ?_⟩; (first | fail); clear hK K)))
          (refine mix_step (by kernel_rfl) (by kernel_rfl) (fun K hK => ?_); go_simp; (try (simp only [↓IntWalk.iteOmega]; go_simp)); (first | (refine hK _ ?_; clear hK K) | (apply Exists.intro; refine ⟨fun _ => ?_, hK _ ?_⟩; (first | fail); clear hK K)))
          (refine mix_step (by kernel_rfl) (by kernel_rfl) (fun K hK => ?_); go_simp; (try (simp only [↓IntWalk.iteOmega]; go_simp)); (first | (refine hK _ ?_; clear hK K) | (apply Exists.intro; refine ⟨fun _ => ?_, hK _ ?_⟩; (first | fail); clear hK K)))
          (refine mix_step (by kernel_rfl) (by kernel_rfl) (fun K hK => ?_); go_simp; (try (simp only [↓IntWalk.iteOmega]; go_simp)); (first | (refine hK _ ?_; clear hK K) | (apply Exists.intro; refine ⟨fun _ => ?_, hK _ ?_⟩; (first | fail); clear hK K)))
          refine mix_exact (.agg #[.int .u8 (d.m.a.toNat : Int), .int .u8 (d.m.b.toNat : Int), .int .u8 (d.m.c.toNat : Int), .int .u8 (d.m.d.toNat : Int), .int .u8 (d.m.e.toNat : Int), .int .u8 (d.m.f.toNat : Int)]) rfl (exact_load_range (off := off + i * 10 + 3) (sub := macCells d.m) rfl rfl (by simp) HRm.out hbl Try.underlying22 rfl (by kernel_rfl)) ?_
          refine mix_exact (.agg #[.int .u8 (m.a.toNat : Int), .int .u8 (m.b.toNat : Int), .int .u8 (m.c.toNat : Int), .int .u8 (m.d.toNat : Int), .int .u8 (m.e.toNat : Int), .int .u8 (m.f.toNat : Int)]) rfl (exact_load_row rfl rfl (by simp) HBr.out Try.underlying22 rfl (by kernel_rfl)) ?_
          (refine mix_step (by kernel_rfl) (by kernel_rfl) (fun K hK => ?_); go_simp; (try (simp only [↓IntWalk.iteOmega]; go_simp)); (first | (refine hK _ ?_; clear hK K) | (apply Exists.intro; refine ⟨fun _ => ?_, hK _ ?_⟩; (first | fail); clear hK K)))
          (refine mix_step (by kernel_rfl) (by kernel_rfl) (fun K hK => ?_); go_simp; (try (simp only [↓IntWalk.iteOmega]; go_simp)); (first | (refine hK _ ?_; clear hK K) | (apply Exists.intro; refine ⟨fun _ => ?_, hK _ ?_⟩; (first | fail); clear hK K)))
          refine mix_nil ?_
          rintro ⟨dr, osr⟩
          have hbR := hbR.trans ((below_regrown wr dr osr).mono hbR.size)
          clear k0 hv m1
          refine (show wpList _ _ _ _ _ _ from ?_)
          simp only [List.drop, Act.put, List.setIfInBounds_toArray, List.set]
          go_wp2_with fail
          go_ret
          exact ⟨.inl HF.out, hbW.trans (hbR.mono hbW.size)⟩
    · have HALL := Lib.hid (show ∀ x ∈ l, x.is v m = false from fun x hx => by
        obtain ⟨j, hj, rfl⟩ := List.getElem_of_mem hx
        exact HN.out j hj (by omega))
      go_wp2_with fail
      go_ret
      exact ⟨.inr ⟨rfl, HALL.out⟩, hbW.trans (hbR.mono hbW.size)⟩
end Go.Proofs.Ytcdklbhfcfamnaa
