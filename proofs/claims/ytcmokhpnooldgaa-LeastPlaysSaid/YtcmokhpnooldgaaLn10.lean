/- told; Forwards: what is done with each link. By an AI agent. -/
import Derived.Test.YtcmokhpnooldgaaLn9
namespace Go.Proofs.Ytcmokhpnooldgaa
open Go.RowKit Go.WideShapes Go.Sort Grow

theorem run_equalIn_end (d : Nat) (a p b q : Int) (w : World) : (Op.equalIn (d + 1 + 1) 63 (endV a p) (endV b q)).run Try.prog w = .ok (decide (a = b ∧ p = q)) w := by
  by_cases h1 : a = b <;> by_cases h2 : p = q <;> go_simp
theorem run_eql_end (a p b q : Int) (w : World) : (binOp .eql 63 (endV a p) (endV b q)).run Try.prog w = .ok (.bool (decide (a = b ∧ p = q))) w := by
  have h : (Op.equal 63 (endV a p) (endV b q)).run Try.prog w = .ok (decide (a = b ∧ p = q)) w := run_equalIn_end 9998 a p b q w
  simp only [binOp]
  simp [h]

/-- what an end tells -/
def tellV (N : LN) (D : List Int) (i : Nat) (p : Int) : SV := ⟨.zero, D.getD i 0, N.id i, p + 1⟩

set_option maxRecDepth 20000 in
set_option maxHeartbeats 4000000 in
theorem told18 (v : NV) (N : LN) (w : World) (h : NetAt w v N) (ao : Option Addr) (D : List Int) (cap : Nat) (hD : IntsAt w ao D) (i : Nat) (p : Int) (hi : i < D.length) (hi2 : i < N.ids.length) (hp : 0 ≤ p ∧ p ≤ 1000000) :
    Calls Try.prog 35 #[.agg #[.slice v.ai N.ids.length v.ci, .slice v.ac N.costs.length v.cc, .slice v.al N.links.length v.cl], .slice ao D.length cap, endV i p] w fun e w' => e = .returned (.agg #[.int .u8 (((tellV N D i p).r.f 0).toNat : Int), .int .u8 (((tellV N D i p).r.f 1).toNat : Int), .int .u8 (((tellV N D i p).r.f 2).toNat : Int), .int .u8 (((tellV N D i p).r.f 3).toNat : Int), .int .u8 (((tellV N D i p).r.f 4).toNat : Int), .int .u8 (((tellV N D i p).r.f 5).toNat : Int), .int .u8 (((tellV N D i p).r.f 6).toNat : Int), .int .u8 (((tellV N D i p).r.f 7).toNat : Int), .int .i64 (tellV N D i p).c, .int .u8 (((tellV N D i p).b.f 0).toNat : Int), .int .u8 (((tellV N D i p).b.f 1).toNat : Int), .int .u8 (((tellV N D i p).b.f 2).toNat : Int), .int .u8 (((tellV N D i p).b.f 3).toNat : Int), .int .u8 (((tellV N D i p).b.f 4).toNat : Int), .int .u8 (((tellV N D i p).b.f 5).toNat : Int), .int .u8 (((tellV N D i p).b.f 6).toNat : Int), .int .u8 (((tellV N D i p).b.f 7).toNat : Int), .int .i64 (tellV N D i p).p]) ∧ Below w.heap.size w w' := by
  have HE : Hid ((#[.int .u8 (((tellV N D i p).r.f 0).toNat : Int), .int .u8 (((tellV N D i p).r.f 1).toNat : Int), .int .u8 (((tellV N D i p).r.f 2).toNat : Int), .int .u8 (((tellV N D i p).r.f 3).toNat : Int), .int .u8 (((tellV N D i p).r.f 4).toNat : Int), .int .u8 (((tellV N D i p).r.f 5).toNat : Int), .int .u8 (((tellV N D i p).r.f 6).toNat : Int), .int .u8 (((tellV N D i p).r.f 7).toNat : Int), .int .i64 (tellV N D i p).c, .int .u8 (((tellV N D i p).b.f 0).toNat : Int), .int .u8 (((tellV N D i p).b.f 1).toNat : Int), .int .u8 (((tellV N D i p).b.f 2).toNat : Int), .int .u8 (((tellV N D i p).b.f 3).toNat : Int), .int .u8 (((tellV N D i p).b.f 4).toNat : Int), .int .u8 (((tellV N D i p).b.f 5).toNat : Int), .int .u8 (((tellV N D i p).b.f 6).toNat : Int), .int .u8 (((tellV N D i p).b.f 7).toNat : Int), .int .i64 (tellV N D i p).p] : Array Value) = #[.int .u8 0, .int .u8 0, .int .u8 0, .int .u8 0, .int .u8 0, .int .u8 0, .int .u8 0, .int .u8 0, .int .i64 (D.getD i 0), .int .u8 (((N.id i).f 0).toNat : Int), .int .u8 (((N.id i).f 1).toNat : Int), .int .u8 (((N.id i).f 2).toNat : Int), .int .u8 (((N.id i).f 3).toNat : Int), .int .u8 (((N.id i).f 4).toNat : Int), .int .u8 (((N.id i).f 5).toNat : Int), .int .u8 (((N.id i).f 6).toNat : Int), .int .u8 (((N.id i).f 7).toNat : Int), .int .i64 (p + 1)]) := rfl
  obtain ⟨b, off, eai, hbl, hrg⟩ := h.idr hi2
  obtain ⟨b2, off2, eD, hcD⟩ := ints_cell hD hi
  subst eD
  have HRG := Lib.hid hrg
  generalize N.id i = x at *
  generalize D.getD i 0 = y at *
  clear hrg hD
  have hwr : IntKind.i64.wrap (p + 1) = p + 1 := by rw [IntKind.wrap_i64]; omega
  have HEAI := Lib.hid eai
  clear eai h
  go_enter Try.func35, Try.ntmps35
  go_upto_region 1 with fail
  generalize hW : ((w.alloc _).alloc _).alloc _ = w1
  have hbW : Below w.heap.size w w1 := by rw [← hW]; exact (((Below.refl _ _).alloc (Nat.le_refl _) _).alloc (by simp) _).alloc (by simp; omega) _
  have R0 : Hid (RowIs w1 w.heap.size 32 #[.slice v.ai N.ids.length v.ci, .slice v.ac N.costs.length v.cc, .slice v.al N.links.length v.cl]) := by subst hW; exact ((rowIs_new w _ _).alloc _).alloc _
  have R1 : Hid (RowIs w1 (w.heap.size + 1) 63 #[.int .i64 i, .int .i64 p]) := by subst hW; exact (rowIs_new1 w _ _ _).alloc _
  have R2 : Hid (RowIs w1 (w.heap.size + 2) 73 #[.int .u8 0, .int .u8 0, .int .u8 0, .int .u8 0, .int .u8 0, .int .u8 0, .int .u8 0, .int .u8 0, .int .i64 0, .int .u8 0, .int .u8 0, .int .u8 0, .int .u8 0, .int .u8 0, .int .u8 0, .int .u8 0, .int .u8 0, .int .i64 0]) := by subst hW; exact rowIs_new2 w _ _ _ _
  clear hW
  have c0 : w1.cell? ⟨w.heap.size, 0, none⟩ = some (.slice (some ⟨b, off, none⟩) N.ids.length v.ci) := by rw [← HEAI.out]; exact R0.out.cell 0
  have f0 := cell_regrown c0
  have f1 := cell_regrown (show w1.cell? ⟨w.heap.size + 1, 0, none⟩ = some (.int .i64 i) from R1.out.cell 0)
  have f2 := cell_regrown (show w1.cell? ⟨w.heap.size + 1, 1, none⟩ = some (.int .i64 p) from R1.out.cell 1)
  have f3 := cell_regrown ((hbW.cell (p := ⟨b2, off2 + i, none⟩) (block_lt_of_cell hcD)).trans hcD)
  have HRG := Lib.hid (range_later HRG.out hbl hbW)
  have hbl1 : b < w1.heap.size := Nat.lt_of_lt_of_le hbl hbW.size
  have hx0 : (0 : Int) ≤ (i : Int) := by omega
  have hx1 : (i : Int) < (D.length : Int) := by omega
  have hx2 : (i : Int) < (N.ids.length : Int) := by omega
  clear c0 hcD
  refine wp_region_mix 15 (by kernel_rfl) (by kernel_rfl) (by kernel_rfl) ?_
  (refine mix_step (by kernel_rfl) (by kernel_rfl) (fun K hK => ?_); go_simp; (try (simp only [↓IntWalk.iteOmega]; go_simp)); (first | (refine hK _ ?_; clear hK K) | (apply Exists.intro; refine ⟨fun _ => ?_, hK _ ?_⟩; (first | fail); clear hK K)))
  (refine mix_step (by kernel_rfl) (by kernel_rfl) (fun K hK => ?_); go_simp; (try (simp only [↓IntWalk.iteOmega]; go_simp)); (first | (refine hK _ ?_; clear hK K) | (apply Exists.intro; refine ⟨fun _ => ?_, hK _ ?_⟩; (first | fail); clear hK K)))
  (refine mix_step (by kernel_rfl) (by kernel_rfl) (fun K hK => ?_); go_simp; (try (simp only [↓IntWalk.iteOmega]; go_simp)); (first | (refine hK _ ?_; clear hK K) | (apply Exists.intro; refine ⟨fun _ => ?_, hK _ ?_⟩; (first | fail); clear hK K)))
  (refine mix_step (by kernel_rfl) (by kernel_rfl) (fun K hK => ?_); go_simp; (try (simp only [↓IntWalk.iteOmega]; go_simp)); (first | (refine hK _ ?_; clear hK K) | (apply Exists.intro; refine ⟨fun _ => ?_, hK _ ?_⟩; (first | fail); clear hK K)))
  (refine mix_step (by kernel_rfl) (by kernel_rfl) (fun K hK => ?_); go_simp; (try (simp only [↓IntWalk.iteOmega]; go_simp)); (first | (refine hK _ ?_; clear hK K) | (apply Exists.intro; refine ⟨fun _ => ?_, hK _ ?_⟩; (first | fail); clear hK K)))
  (refine mix_step (by kernel_rfl) (by kernel_rfl) (fun K hK => ?_); go_simp; (try (simp only [↓IntWalk.iteOmega]; go_simp)); (first | (refine hK _ ?_; clear hK K) | (apply Exists.intro; refine ⟨fun _ => ?_, hK _ ?_⟩; (first | fail); clear hK K)))
  (refine mix_step (by kernel_rfl) (by kernel_rfl) (fun K hK => ?_); go_simp; (try (simp only [↓IntWalk.iteOmega]; go_simp)); (first | (refine hK _ ?_; clear hK K) | (apply Exists.intro; refine ⟨fun _ => ?_, hK _ ?_⟩; (first | fail); clear hK K)))
  (refine mix_step (by kernel_rfl) (by kernel_rfl) (fun K hK => ?_); go_simp; (try (simp only [↓IntWalk.iteOmega]; go_simp)); (first | (refine hK _ ?_; clear hK K) | (apply Exists.intro; refine ⟨fun _ => ?_, hK _ ?_⟩; (first | fail); clear hK K)))
  (refine mix_step (by kernel_rfl) (by kernel_rfl) (fun K hK => ?_); go_simp; (try (simp only [↓IntWalk.iteOmega]; go_simp)); (first | (refine hK _ ?_; clear hK K) | (apply Exists.intro; refine ⟨fun _ => ?_, hK _ ?_⟩; (first | fail); clear hK K)))
  (refine mix_step (by kernel_rfl) (by kernel_rfl) (fun K hK => ?_); go_simp; (try (simp only [↓IntWalk.iteOmega]; go_simp)); (first | (refine hK _ ?_; clear hK K) | (apply Exists.intro; refine ⟨fun _ => ?_, hK _ ?_⟩; (first | fail); clear hK K)))
  refine mix_exact (.agg #[.int .u8 ((x.f 0).toNat : Int), .int .u8 ((x.f 1).toNat : Int), .int .u8 ((x.f 2).toNat : Int), .int .u8 ((x.f 3).toNat : Int), .int .u8 ((x.f 4).toNat : Int), .int .u8 ((x.f 5).toNat : Int), .int .u8 ((x.f 6).toNat : Int), .int .u8 ((x.f 7).toNat : Int)]) rfl (exact_load_range (sub := Id8.vals x) rfl rfl (by simp) HRG.out hbl1 Try.underlying61 rfl (by kernel_rfl)) ?_
  (refine mix_step (by kernel_rfl) (by kernel_rfl) (fun K hK => ?_); go_simp; (try (simp only [↓IntWalk.iteOmega]; go_simp)); (first | (refine hK _ ?_; clear hK K) | (apply Exists.intro; refine ⟨fun _ => ?_, hK _ ?_⟩; (first | fail); clear hK K)))
  (refine mix_step (by kernel_rfl) (by kernel_rfl) (fun K hK => ?_); go_simp; (try (simp only [↓IntWalk.iteOmega]; go_simp)); (first | (refine hK _ ?_; clear hK K) | (apply Exists.intro; refine ⟨fun _ => ?_, hK _ ?_⟩; (first | fail); clear hK K)))
  (refine mix_step (by kernel_rfl) (by kernel_rfl) (fun K hK => ?_); go_simp; (try (simp only [↓IntWalk.iteOmega]; go_simp)); (first | (refine hK _ ?_; clear hK K) | (apply Exists.intro; refine ⟨fun _ => ?_, hK _ ?_⟩; (first | fail); clear hK K)))
  (refine mix_step (by kernel_rfl) (by kernel_rfl) (fun K hK => ?_); go_simp; (try (simp only [↓IntWalk.iteOmega]; go_simp)); (first | (refine hK _ ?_; clear hK K) | (apply Exists.intro; refine ⟨fun _ => ?_, hK _ ?_⟩; (first | fail); clear hK K)))
  refine mix_nil ?_
  rintro ⟨dq, osq⟩
  have hb2 := below_regrown w1 dq osq
  refine (show wpList _ _ _ _ _ _ from ?_)
  simp only [List.drop, Act.put, List.setIfInBounds_toArray, List.set]
  clear f0 f1 f2 f3
  have R22 := Lib.hid (R2.out.kept hb2)
  have hbW2 := hbW.trans (hb2.mono hbW.size)
  clear hb2 R0 R1 R2 hbW HRG
  generalize grow (redrawn w1 dq) osq = w2 at *
  go_wp2_with ((with_reducible refine at_store 73 (.tmp 6) (.tmp 21) ?_); refine wpList_store_own rfl 73 (.tmp 6) (.tmp 21) rfl (w.heap.size + 2) _ rfl rfl _ _ R22.out (by kernel_rfl) rfl (by simp [Value.oneCell']) w.heap.size (by omega) ?_)
  intro w3 hR3 ho3 hs3 hb3
  have HR3 := Lib.hid hR3
  have hbf := hbW2.trans hb3
  clear hR3 ho3 hs3 hb3
  go_wp2_with fail
  refine bodyPost_ret (results_row Try.results35 _ _ (w.heap.size + 2) _ _ _ rfl HR3.out Try.underlying73 rfl (by kernel_rfl)) rfl ?_
  rw [HE.out]
  exact ⟨rfl, hbf⟩

/-- a link's end, in the question whether a port forwards -/
def stF (N : LN) (D : List Int) (b p : Int) (o : Bool) (d : Lk) : Bool :=
  if d.b = b ∧ d.q = p then (tellV N D d.j d.q).better (tellV N D d.i d.p) else o

set_option maxRecDepth 20000 in
set_option maxHeartbeats 600000 in
theorem forwC (v : NV) (N : LN) (w : World) (S0 A O C : Nat) (h : NetAt w v N) (hb : RowIs w S0 32 #[.slice v.ai N.ids.length v.ci, .slice v.ac N.costs.length v.cc, .slice v.al N.links.length v.cl]) (bb pp : Int) (hA : RowIs w A 63 #[.int .i64 bb, .int .i64 pp])
    (ao : Option Addr) (D : List Int) (cap : Nat) (hD : IntsAt w ao D) (hO : RowIs w O 35 #[.slice ao D.length cap]) (o : Bool) (hC : RowIs w C 4 #[.bool o])
    (i j : Nat) (p q : Int) (hi : i < D.length) (hj : j < D.length) (hi2 : i < N.ids.length) (hj2 : j < N.ids.length) (hp : 0 ≤ p ∧ p ≤ 1000000) (hq : 0 ≤ q ∧ q ≤ 1000000) (d : Lk) (hd : d = ⟨i, p, j, q⟩) :
    Calls Try.prog 34 #[endV d.a d.p, endV d.b d.q, .pointer (some ⟨A, 0, none⟩), .pointer (some ⟨S0, 0, none⟩), .pointer (some ⟨O, 0, none⟩), .pointer (some ⟨C, 0, none⟩)] w
      fun e w' => e = .returned (.tuple #[]) ∧ RowIs w' C 4 #[.bool (stF N D bb pp o d)] ∧ Only [C] w w' ∧ Below 0 w w' := by
  subst hd
  have HB := Lib.hid hb
  have HA := Lib.hid hA
  have HO := Lib.hid hO
  have HC := Lib.hid hC
  have HN := Lib.hid h
  have HD := Lib.hid hD
  have HST : Hid (stF N D bb pp o ⟨i, p, j, q⟩ = if (j : Int) = bb ∧ q = pp then (tellV N D j q).better (tellV N D i p) else o) := rfl
  clear h hb hA hD hO hC
  have heq0 := fun w => run_eql_end (j : Int) q bb pp w
  go_enter Try.func34, Try.ntmps34
  go_upto_region 1 with fail
  generalize hW : (w.alloc _).alloc _ = w1
  have hbW : Below w.heap.size w w1 := by rw [← hW]; exact ((Below.refl _ _).alloc (Nat.le_refl _) _).alloc (by simp) _
  have RF : Hid (RowIs w1 w.heap.size 63 #[.int .i64 i, .int .i64 p]) := by subst hW; exact (rowIs_new w _ _).alloc _
  have RT : Hid (RowIs w1 (w.heap.size + 1) 63 #[.int .i64 j, .int .i64 q]) := by subst hW; exact rowIs_new1 w _ _ _
  clear hW
  have HA1 := Lib.hid (HA.out.kept hbW)
  have HB1 := Lib.hid (HB.out.kept hbW)
  have HO1 := Lib.hid (HO.out.kept hbW)
  have HC1 := Lib.hid (HC.out.kept hbW)
  clear HA HB HO HC
  by_cases hm : (j : Int) = bb ∧ q = pp
  · rw [if_pos hm] at HST
    have heq : ∀ w : World, (binOp .eql 63 (endV j q) (endV bb pp)).run Try.prog w = .ok (.bool true) w := fun w => by
      have h := heq0 w
      rwa [decide_eq_true hm] at h
    clear hm heq0
    go_upto_region 2 with (first | ((with_reducible refine at_load 63 (.tmp 7) ?_); refine wpList_load_own rfl 63 (.tmp 7) rfl (w.heap.size + 1) rfl _ _ _ RT.out Try.underlying63 rfl (by kernel_rfl) ?_) | ((with_reducible refine at_load 63 (.tmp 2) ?_); refine wpList_load_own rfl 63 (.tmp 2) rfl A rfl _ _ _ HA1.out Try.underlying63 rfl (by kernel_rfl) ?_))
    clear heq
    have f1 := cell_regrown (show w1.cell? ⟨O, 0, none⟩ = some (.slice ao D.length cap) from HO1.out.cell 0)
    have L1 := Lib.hid (fun (k : Regrown) => told18 v N (grow (redrawn w1 k.d) k.os) (HN.out.kept (hbW.trans ((below_regrown w1 k.d k.os).mono hbW.size))) ao D cap (HD.out.after (hbW.trans ((below_regrown w1 k.d k.os).mono hbW.size))) j q hj hj2 hq)
    have L2 := Lib.hid (fun (k : Regrown) => told18 v N (grow (redrawn w1 k.d) k.os) (HN.out.kept (hbW.trans ((below_regrown w1 k.d k.os).mono hbW.size))) ao D cap (HD.out.after (hbW.trans ((below_regrown w1 k.d k.os).mono hbW.size))) i p hi hi2 hp)
    have L3 : Hid (∀ (k : Regrown), Calls Try.prog 33 #[.agg #[.int .u8 (((tellV N D j q).r.f 0).toNat : Int), .int .u8 (((tellV N D j q).r.f 1).toNat : Int), .int .u8 (((tellV N D j q).r.f 2).toNat : Int), .int .u8 (((tellV N D j q).r.f 3).toNat : Int), .int .u8 (((tellV N D j q).r.f 4).toNat : Int), .int .u8 (((tellV N D j q).r.f 5).toNat : Int), .int .u8 (((tellV N D j q).r.f 6).toNat : Int), .int .u8 (((tellV N D j q).r.f 7).toNat : Int), .int .i64 (tellV N D j q).c, .int .u8 (((tellV N D j q).b.f 0).toNat : Int), .int .u8 (((tellV N D j q).b.f 1).toNat : Int), .int .u8 (((tellV N D j q).b.f 2).toNat : Int), .int .u8 (((tellV N D j q).b.f 3).toNat : Int), .int .u8 (((tellV N D j q).b.f 4).toNat : Int), .int .u8 (((tellV N D j q).b.f 5).toNat : Int), .int .u8 (((tellV N D j q).b.f 6).toNat : Int), .int .u8 (((tellV N D j q).b.f 7).toNat : Int), .int .i64 (tellV N D j q).p], .agg #[.int .u8 (((tellV N D i p).r.f 0).toNat : Int), .int .u8 (((tellV N D i p).r.f 1).toNat : Int), .int .u8 (((tellV N D i p).r.f 2).toNat : Int), .int .u8 (((tellV N D i p).r.f 3).toNat : Int), .int .u8 (((tellV N D i p).r.f 4).toNat : Int), .int .u8 (((tellV N D i p).r.f 5).toNat : Int), .int .u8 (((tellV N D i p).r.f 6).toNat : Int), .int .u8 (((tellV N D i p).r.f 7).toNat : Int), .int .i64 (tellV N D i p).c, .int .u8 (((tellV N D i p).b.f 0).toNat : Int), .int .u8 (((tellV N D i p).b.f 1).toNat : Int), .int .u8 (((tellV N D i p).b.f 2).toNat : Int), .int .u8 (((tellV N D i p).b.f 3).toNat : Int), .int .u8 (((tellV N D i p).b.f 4).toNat : Int), .int .u8 (((tellV N D i p).b.f 5).toNat : Int), .int .u8 (((tellV N D i p).b.f 6).toNat : Int), .int .u8 (((tellV N D i p).b.f 7).toNat : Int), .int .i64 (tellV N D i p).p]] (grow (redrawn w1 k.d) k.os) fun e w' => e = .returned (.bool ((tellV N D j q).better (tellV N D i p))) ∧ Below (grow (redrawn w1 k.d) k.os).heap.size (grow (redrawn w1 k.d) k.os) w') :=
      fun k => better_any (tellV N D j q).r.f (tellV N D j q).b.f (tellV N D i p).r.f (tellV N D i p).b.f (tellV N D j q).c (tellV N D j q).p (tellV N D i p).c (tellV N D i p).p (grow (redrawn w1 k.d) k.os)
    generalize tellV N D j q = tj at *
    generalize tellV N D i p = ti at *
    refine wp_region_mix 9 (by kernel_rfl) (by kernel_rfl) (by kernel_rfl) ?_
    refine mix_exact (.agg #[.slice v.ai N.ids.length v.ci, .slice v.ac N.costs.length v.cc, .slice v.al N.links.length v.cl]) rfl (exact_load_row rfl rfl (by simp) HB1.out Try.underlying32 rfl (by kernel_rfl)) ?_
    (refine mix_step (by kernel_rfl) (by kernel_rfl) (fun K hK => ?_); go_simp; (try (simp only [↓IntWalk.iteOmega]; go_simp)); (first | (refine hK _ ?_; clear hK K) | (apply Exists.intro; refine ⟨fun _ => ?_, hK _ ?_⟩; (first | fail); clear hK K)))
    refine mix_exact (.agg #[.int .i64 j, .int .i64 q]) rfl (exact_load_row rfl rfl (by simp) RT.out Try.underlying63 rfl (by kernel_rfl)) ?_
    (refine mix_step (by kernel_rfl) (by kernel_rfl) (fun K hK => ?_); go_simp; (try (simp only [↓IntWalk.iteOmega]; go_simp)); (first | (refine hK _ ?_; clear hK K) | (apply Exists.intro; refine ⟨fun _ => ?_, hK _ ?_⟩; (first | exact L1.out _); clear hK K)))
    refine mix_exact (.agg #[.slice v.ai N.ids.length v.ci, .slice v.ac N.costs.length v.cc, .slice v.al N.links.length v.cl]) rfl (exact_load_row rfl rfl (by simp) HB1.out Try.underlying32 rfl (by kernel_rfl)) ?_
    (refine mix_step (by kernel_rfl) (by kernel_rfl) (fun K hK => ?_); go_simp; (try (simp only [↓IntWalk.iteOmega]; go_simp)); (first | (refine hK _ ?_; clear hK K) | (apply Exists.intro; refine ⟨fun _ => ?_, hK _ ?_⟩; (first | fail); clear hK K)))
    refine mix_exact (.agg #[.int .i64 i, .int .i64 p]) rfl (exact_load_row rfl rfl (by simp) RF.out Try.underlying63 rfl (by kernel_rfl)) ?_
    (refine mix_step (by kernel_rfl) (by kernel_rfl) (fun K hK => ?_); go_simp; (try (simp only [↓IntWalk.iteOmega]; go_simp)); (first | (refine hK _ ?_; clear hK K) | (apply Exists.intro; refine ⟨fun _ => ?_, hK _ ?_⟩; (first | exact L2.out _); clear hK K)))
    (refine mix_step (by kernel_rfl) (by kernel_rfl) (fun K hK => ?_); go_simp; (try (simp only [↓IntWalk.iteOmega]; go_simp)); (first | (refine hK _ ?_; clear hK K) | (apply Exists.intro; refine ⟨fun _ => ?_, hK _ ?_⟩; (first | exact L3.out _); clear hK K)))
    refine mix_nil ?_
    rintro ⟨dq, osq⟩
    have hb2 := below_regrown w1 dq osq
    refine (show wpList _ _ _ _ _ _ from ?_)
    simp only [List.drop, Act.put, List.setIfInBounds_toArray, List.set]
    clear f1 L1 L2 L3
    have HC2 := Lib.hid (HC1.out.kept hb2)
    have hbW2 := hbW.trans (hb2.mono hbW.size)
    clear hb2 hbW HC1 HB1 HO1 HA1 RF RT
    generalize grow (redrawn w1 dq) osq = w2 at *
    go_wp2_with ((with_reducible refine at_store 4 (.tmp 5) (.tmp 19) ?_); refine wpList_store_cell rfl 4 (.tmp 5) (.tmp 19) rfl C 0 _ rfl rfl 4 _ HC2.out (show 0 < 1 from by decide) (by kernel_rfl) rfl 0 (Nat.zero_le _) ?_)
    intro w5 hR5 ho5 hs5 hb5
    have HC5 : Hid (RowIs w5 C 4 #[.bool (tj.better ti)]) := hR5
    have HOO5 : Hid (Only [C] w w5) := ⟨Nat.le_trans hbW2.size (by omega), fun m hm hn => (ho5 m (fun e => hn (by rw [e]; simp))).trans (hbW2.block m hm)⟩
    have hb05 := (hbW2.mono (Nat.zero_le _)).trans hb5
    clear hR5 ho5 hs5 hb5 HC2 hbW2
    go_wp2_with fail
    go_end0
    rw [HST.out]
    exact ⟨rfl, HC5.out, HOO5.out, hb05⟩
  · rw [if_neg hm] at HST
    have heq : ∀ w : World, (binOp .eql 63 (endV j q) (endV bb pp)).run Try.prog w = .ok (.bool false) w := fun w => by
      have h := heq0 w
      rwa [decide_eq_false hm] at h
    clear hm heq0
    go_wp2_with (first | ((with_reducible refine at_load 63 (.tmp 7) ?_); refine wpList_load_own rfl 63 (.tmp 7) rfl (w.heap.size + 1) rfl _ _ _ RT.out Try.underlying63 rfl (by kernel_rfl) ?_) | ((with_reducible refine at_load 63 (.tmp 2) ?_); refine wpList_load_own rfl 63 (.tmp 2) rfl A rfl _ _ _ HA1.out Try.underlying63 rfl (by kernel_rfl) ?_))
    go_end0
    rw [HST.out]
    exact ⟨rfl, HC1.out, only_of_below hbW, hbW.mono (Nat.zero_le _)⟩
end Go.Proofs.Ytcmokhpnooldgaa
