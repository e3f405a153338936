/- Distances: what is done with each link. By an AI agent. -/
import Derived.Test.YtcmokhpnooldgaaLp0
namespace Go.Proofs.Ytcmokhpnooldgaa
open Go.RowKit Go.WideShapes Go.Sort Grow

/-- what it costs to come in -/
def LN.cost (N : LN) (d : Lk) : Int := (N.cs d.j).getD d.q.toNat 0
def stD (N : LN) (s : List Int) (d : Lk) : List Int := s.set d.j (min (s.getD d.j 0) (s.getD d.i 0 + N.cost d))
theorem getD_mem18 {zs : List Int} {k : Nat} (h : k < zs.length) : zs.getD k 0 ∈ zs := by rw [List.getD, List.getElem?_eq_getElem h]; exact List.getElem_mem h

set_option maxRecDepth 20000 in
set_option maxHeartbeats 4000000 in
theorem distC (v : NV) (N : LN) (w : World) (S0 O g : Nat) (s : List Int) (h : NetAt w v N) (hb : RowIs w S0 32 #[.slice v.ai N.ids.length v.ci, .slice v.ac N.costs.length v.cc, .slice v.al N.links.length v.cl]) (ha : ArrAt w O g s)
    (hs : ∀ x ∈ s, 0 ≤ x ∧ x ≤ 1099511627776) (i j q : Nat) (p : Int) (hi : i < s.length) (hj : j < s.length) (hj2 : j < N.costs.length) (hq : q < (N.cs j).length) (hc : 1 ≤ (N.cs j).getD q 0 ∧ (N.cs j).getD q 0 ≤ 65535) (d : Lk) (hd : d = ⟨i, p, j, q⟩) :
    Calls Try.prog 31 #[endV d.a d.p, endV d.b d.q, .pointer (some ⟨O, 0, none⟩), .pointer (some ⟨S0, 0, none⟩)] w
      fun e w' => e = .returned (.tuple #[]) ∧ ArrAt w' O g (stD N s d) ∧ Only [g] w w' ∧ Below 0 w w' := by
  subst hd
  have HA := Lib.hid ha
  have hOg : O ≠ g := rowIs_ne ha.ov ha.arr (by decide)
  have hsi := hs _ (getD_mem18 hi)
  have hsj := hs _ (getD_mem18 hj)
  have ki := ha.cell hi
  have kj := ha.cell hj
  have HST : Hid (stD N s ⟨i, p, j, q⟩ = s.set j (min (s.getD j 0) (s.getD i 0 + (N.cs j).getD q 0))) := rfl
  obtain ⟨cb, coff, ca, cci, eac, hcc, hci⟩ := h.cs hj2
  obtain ⟨b, off, e2, hcq⟩ := ints_cell hci hq
  subst e2
  have hq0 : w.cell? ⟨S0, 1, none⟩ = some (.slice (some ⟨cb, coff, none⟩) N.costs.length v.cc) := by rw [← eac]; exact hb.cell 1
  have hqo : w.cell? ⟨O, 0, none⟩ = some (.slice (some ⟨g, 0, none⟩) s.length s.length) := ha.ov.cell 0
  generalize s.getD i 0 = x at *
  generalize s.getD j 0 = y at *
  generalize (N.cs j).getD q 0 = c at *
  generalize (N.cs j).length = cl at *
  clear h hb ha hs hci eac
  go_enter Try.func31, Try.ntmps31
  go_upto_region 1 with fail
  generalize hW : (w.alloc _).alloc _ = w1
  have hbW : Below w.heap.size w w1 := by rw [← hW]; exact ((Below.refl _ _).alloc (Nat.le_refl _) _).alloc (by simp) _
  have RF : Hid (RowIs w1 w.heap.size 63 #[.int .i64 i, .int .i64 p]) := by subst hW; exact (rowIs_new w _ _).alloc _
  have RT : Hid (RowIs w1 (w.heap.size + 1) 63 #[.int .i64 j, .int .i64 q]) := by subst hW; exact rowIs_new1 w _ _ _
  clear hW
  have HA1 := Lib.hid (HA.out.kept hbW)
  have f1 := cell_regrown ((hbW.cell (p := ⟨S0, 1, none⟩) (block_lt_of_cell hq0)).trans hq0)
  have f2 := cell_regrown ((hbW.cell (p := ⟨O, 0, none⟩) (block_lt_of_cell hqo)).trans hqo)
  have f3 := cell_regrown ((hbW.cell (p := ⟨g, i, none⟩) (block_lt_of_cell ki)).trans ki)
  have f4 := cell_regrown ((hbW.cell (p := ⟨g, j, none⟩) (block_lt_of_cell kj)).trans kj)
  have f5 := cell_regrown (show w1.cell? ⟨w.heap.size, 0, none⟩ = some (.int .i64 i) from RF.out.cell 0)
  have f6 := cell_regrown (show w1.cell? ⟨w.heap.size + 1, 0, none⟩ = some (.int .i64 j) from RT.out.cell 0)
  have f7 := cell_regrown (show w1.cell? ⟨w.heap.size + 1, 1, none⟩ = some (.int .i64 q) from RT.out.cell 1)
  have f8 := cell_regrown ((hbW.cell (p := ⟨cb, coff + j, none⟩) (block_lt_of_cell hcc)).trans hcc)
  have f9 := cell_regrown ((hbW.cell (p := ⟨b, off + q, none⟩) (block_lt_of_cell hcq)).trans hcq)
  have hx0 : (0 : Int) ≤ (i : Int) := by omega
  have hx1 : (i : Int) < (s.length : Int) := by omega
  have hx2 : (0 : Int) ≤ (j : Int) := by omega
  have hx3 : (j : Int) < (s.length : Int) := by omega
  have hx4 : (0 : Int) ≤ (q : Int) := by omega
  have hx5 : (q : Int) < (cl : Int) := by omega
  have hx6 : (j : Int) < (N.costs.length : Int) := by omega
  clear hq0 hqo ki kj hcc hcq
  have hwr : IntKind.i64.wrap (x + c) = x + c := by rw [IntKind.wrap_i64]; omega
  by_cases hm : x + c < y
  · have HM : Hid (min y (x + c) = x + c) := by show _ = _; omega
    rw [HM.out] at HST
    refine wp_region_mix 25 (by kernel_rfl) (by kernel_rfl) (by kernel_rfl) ?_
    (refine mix_step (by kernel_rfl) (by kernel_rfl) (fun K hK => ?_); go_simp; (try (simp only [↓IntWalk.iteOmega]; go_simp)); (first | (refine hK _ ?_; clear hK K) | (apply Exists.intro; refine ⟨fun _ => ?_, hK _ ?_⟩; (first | fail); clear hK K)))
    (refine mix_step (by kernel_rfl) (by kernel_rfl) (fun K hK => ?_); go_simp; (try (simp only [↓IntWalk.iteOmega]; go_simp)); (first | (refine hK _ ?_; clear hK K) | (apply Exists.intro; refine ⟨fun _ => ?_, hK _ ?_⟩; (first | fail); clear hK K)))
    (refine mix_step (by kernel_rfl) (by kernel_rfl) (fun K hK => ?_); go_simp; (try (simp only [↓IntWalk.iteOmega]; go_simp)); (first | (refine hK _ ?_; clear hK K) | (apply Exists.intro; refine ⟨fun _ => ?_, hK _ ?_⟩; (first | fail); clear hK K)))
    (refine mix_step (by kernel_rfl) (by kernel_rfl) (fun K hK => ?_); go_simp; (try (simp only [↓IntWalk.iteOmega]; go_simp)); (first | (refine hK _ ?_; clear hK K) | (apply Exists.intro; refine ⟨fun _ => ?_, hK _ ?_⟩; (first | fail); clear hK K)))
    (refine mix_step (by kernel_rfl) (by kernel_rfl) (fun K hK => ?_); go_simp; (try (simp only [↓IntWalk.iteOmega]; go_simp)); (first | (refine hK _ ?_; clear hK K) | (apply Exists.intro; refine ⟨fun _ => ?_, hK _ ?_⟩; (first | fail); clear hK K)))
    (refine mix_step (by kernel_rfl) (by kernel_rfl) (fun K hK => ?_); go_simp; (try (simp only [↓IntWalk.iteOmega]; go_simp)); (first | (refine hK _ ?_; clear hK K) | (apply Exists.intro; refine ⟨fun _ => ?_, hK _ ?_⟩; (first | fail); clear hK K)))
    (refine mix_step (by kernel_rfl) (by kernel_rfl) (fun K hK => ?_); go_simp; (try (simp only [↓IntWalk.iteOmega]; go_simp)); (first | (refine hK _ ?_; clear hK K) | (apply Exists.intro; refine ⟨fun _ => ?_, hK _ ?_⟩; (first | fail); clear hK K)))
    (refine mix_step (by kernel_rfl) (by kernel_rfl) (fun K hK => ?_); go_simp; (try (simp only [↓IntWalk.iteOmega]; go_simp)); (first | (refine hK _ ?_; clear hK K) | (apply Exists.intro; refine ⟨fun _ => ?_, hK _ ?_⟩; (first | fail); clear hK K)))
    (refine mix_step (by kernel_rfl) (by kernel_rfl) (fun K hK => ?_); go_simp; (try (simp only [↓IntWalk.iteOmega]; go_simp)); (first | (refine hK _ ?_; clear hK K) | (apply Exists.intro; refine ⟨fun _ => ?_, hK _ ?_⟩; (first | fail); clear hK K)))
    (refine mix_step (by kernel_rfl) (by kernel_rfl) (fun K hK => ?_); go_simp; (try (simp only [↓IntWalk.iteOmega]; go_simp)); (first | (refine hK _ ?_; clear hK K) | (apply Exists.intro; refine ⟨fun _ => ?_, hK _ ?_⟩; (first | fail); clear hK K)))
    (refine mix_step (by kernel_rfl) (by kernel_rfl) (fun K hK => ?_); go_simp; (try (simp only [↓IntWalk.iteOmega]; go_simp)); (first | (refine hK _ ?_; clear hK K) | (apply Exists.intro; refine ⟨fun _ => ?_, hK _ ?_⟩; (first | fail); clear hK K)))
    (refine mix_step (by kernel_rfl) (by kernel_rfl) (fun K hK => ?_); go_simp; (try (simp only [↓IntWalk.iteOmega]; go_simp)); (first | (refine hK _ ?_; clear hK K) | (apply Exists.intro; refine ⟨fun _ => ?_, hK _ ?_⟩; (first | fail); clear hK K)))
    (refine mix_step (by kernel_rfl) (by kernel_rfl) (fun K hK => ?_); go_simp; (try (simp only [↓IntWalk.iteOmega]; go_simp)); (first | (refine hK _ ?_; clear hK K) | (apply Exists.intro; refine ⟨fun _ => ?_, hK _ ?_⟩; (first | fail); clear hK K)))
    (refine mix_step (by kernel_rfl) (by kernel_rfl) (fun K hK => ?_); go_simp; (try (simp only [↓IntWalk.iteOmega]; go_simp)); (first | (refine hK _ ?_; clear hK K) | (apply Exists.intro; refine ⟨fun _ => ?_, hK _ ?_⟩; (first | fail); clear hK K)))
    (refine mix_step (by kernel_rfl) (by kernel_rfl) (fun K hK => ?_); go_simp; (try (simp only [↓IntWalk.iteOmega]; go_simp)); (first | (refine hK _ ?_; clear hK K) | (apply Exists.intro; refine ⟨fun _ => ?_, hK _ ?_⟩; (first | fail); clear hK K)))
    (refine mix_step (by kernel_rfl) (by kernel_rfl) (fun K hK => ?_); go_simp; (try (simp only [↓IntWalk.iteOmega]; go_simp)); (first | (refine hK _ ?_; clear hK K) | (apply Exists.intro; refine ⟨fun _ => ?_, hK _ ?_⟩; (first | fail); clear hK K)))
    (refine mix_step (by kernel_rfl) (by kernel_rfl) (fun K hK => ?_); go_simp; (try (simp only [↓IntWalk.iteOmega]; go_simp)); (first | (refine hK _ ?_; clear hK K) | (apply Exists.intro; refine ⟨fun _ => ?_, hK _ ?_⟩; (first | fail); clear hK K)))
    (refine mix_step (by kernel_rfl) (by kernel_rfl) (fun K hK => ?_); go_simp; (try (simp only [↓IntWalk.iteOmega]; go_simp)); (first | (refine hK _ ?_; clear hK K) | (apply Exists.intro; refine ⟨fun _ => ?_, hK _ ?_⟩; (first | fail); clear hK K)))
    (refine mix_step (by kernel_rfl) (by kernel_rfl) (fun K hK => ?_); go_simp; (try (simp only [↓IntWalk.iteOmega]; go_simp)); (first | (refine hK _ ?_; clear hK K) | (apply Exists.intro; refine ⟨fun _ => ?_, hK _ ?_⟩; (first | fail); clear hK K)))
    (refine mix_step (by kernel_rfl) (by kernel_rfl) (fun K hK => ?_); go_simp; (try (simp only [↓IntWalk.iteOmega]; go_simp)); (first | (refine hK _ ?_; clear hK K) | (apply Exists.intro; refine ⟨fun _ => ?_, hK _ ?_⟩; (first | fail); clear hK K)))
    (refine mix_step (by kernel_rfl) (by kernel_rfl) (fun K hK => ?_); go_simp; (try (simp only [↓IntWalk.iteOmega]; go_simp)); (first | (refine hK _ ?_; clear hK K) | (apply Exists.intro; refine ⟨fun _ => ?_, hK _ ?_⟩; (first | fail); clear hK K)))
    (refine mix_step (by kernel_rfl) (by kernel_rfl) (fun K hK => ?_); go_simp; (try (simp only [↓IntWalk.iteOmega]; go_simp)); (first | (refine hK _ ?_; clear hK K) | (apply Exists.intro; refine ⟨fun _ => ?_, hK _ ?_⟩; (first | fail); clear hK K)))
    (refine mix_step (by kernel_rfl) (by kernel_rfl) (fun K hK => ?_); go_simp; (try (simp only [↓IntWalk.iteOmega]; go_simp)); (first | (refine hK _ ?_; clear hK K) | (apply Exists.intro; refine ⟨fun _ => ?_, hK _ ?_⟩; (first | fail); clear hK K)))
    (refine mix_step (by kernel_rfl) (by kernel_rfl) (fun K hK => ?_); go_simp; (try (simp only [↓IntWalk.iteOmega]; go_simp)); (first | (refine hK _ ?_; clear hK K) | (apply Exists.intro; refine ⟨fun _ => ?_, hK _ ?_⟩; (first | fail); clear hK K)))
    (refine mix_step (by kernel_rfl) (by kernel_rfl) (fun K hK => ?_); go_simp; (try (simp only [↓IntWalk.iteOmega]; go_simp)); (first | (refine hK _ ?_; clear hK K) | (apply Exists.intro; refine ⟨fun _ => ?_, hK _ ?_⟩; (first | fail); clear hK K)))
    refine mix_nil ?_
    rintro ⟨dq, osq⟩
    have hb2 := below_regrown w1 dq osq
    refine (show wpList _ _ _ _ _ _ from ?_)
    simp only [List.drop, Act.put, List.setIfInBounds_toArray, List.set]
    clear f1 f2 f3 f4 f5 f6 f7 f8 f9
    have HA2 := Lib.hid (HA1.out.kept hb2)
    have hbW2 := hbW.trans (hb2.mono hbW.size)
    clear HA HA1 hb2 RF RT hbW
    generalize grow (redrawn w1 dq) osq = w2 at *
    go_wp2_with ((with_reducible refine at_store 3 (.tmp 31) (.tmp 30) ?_); refine wpList_store_cell rfl 3 (.tmp 31) (.tmp 30) rfl g j _ rfl rfl 3 _ HA2.out.arr (by rw [intsA_size]; exact hj) (by kernel_rfl) rfl 0 (Nat.zero_le _) ?_)
    intro w4 hR4 ho4 hs4 hb4
    rw [intsA_set] at hR4
    have HR4 := Lib.hid hR4
    have HO4 := Lib.hid (rowIs_same HA2.out.ov (ho4 _ hOg))
    have HOO4 : Hid (Only [g] w w4) := ⟨Nat.le_trans hbW2.size (by omega), fun m hm hn => (ho4 m (fun e => hn (by rw [e]; simp))).trans (hbW2.block m hm)⟩
    have hb04 := (hbW2.mono (Nat.zero_le _)).trans hb4
    clear hR4 ho4 hs4 hb4 HA2 hbW2
    go_wp2_with fail
    go_end0
    rw [HST.out]
    refine ⟨rfl, ⟨?_, HR4.out⟩, HOO4.out, hb04⟩
    rw [List.length_set]
    exact HO4.out
  · have HM : Hid (min y (x + c) = y) := by show _ = _; omega
    rw [HM.out] at HST
    refine wp_region_mix 25 (by kernel_rfl) (by kernel_rfl) (by kernel_rfl) ?_
    (refine mix_step (by kernel_rfl) (by kernel_rfl) (fun K hK => ?_); go_simp; (try (simp only [↓IntWalk.iteOmega]; go_simp)); (first | (refine hK _ ?_; clear hK K) | (apply Exists.intro; refine ⟨fun _ => ?_, hK _ ?_⟩; (first | fail); clear hK K)))
    (refine mix_step (by kernel_rfl) (by kernel_rfl) (fun K hK => ?_); go_simp; (try (simp only [↓IntWalk.iteOmega]; go_simp)); (first | (refine hK _ ?_; clear hK K) | (apply Exists.intro; refine ⟨fun _ => ?_, hK _ ?_⟩; (first | fail); clear hK K)))
    (refine mix_step (by kernel_rfl) (by kernel_rfl) (fun K hK => ?_); go_simp; (try (simp only [↓IntWalk.iteOmega]; go_simp)); (first | (refine hK _ ?_; clear hK K) | (apply Exists.intro; refine ⟨fun _ => ?_, hK _ ?_⟩; (first | fail); clear hK K)))
    (refine mix_step (by kernel_rfl) (by kernel_rfl) (fun K hK => ?_); go_simp; (try (simp only [↓IntWalk.iteOmega]; go_simp)); (first | (refine hK _ ?_; clear hK K) | (apply Exists.intro; refine ⟨fun _ => ?_, hK _ ?_⟩; (first | fail); clear hK K)))
    (refine mix_step (by kernel_rfl) (by kernel_rfl) (fun K hK => ?_); go_simp; (try (simp only [↓IntWalk.iteOmega]; go_simp)); (first | (refine hK _ ?_; clear hK K) | (apply Exists.intro; refine ⟨fun _ => ?_, hK _ ?_⟩; (first | fail); clear hK K)))
    (refine mix_step (by kernel_rfl) (by kernel_rfl) (fun K hK => ?_); go_simp; (try (simp only [↓IntWalk.iteOmega]; go_simp)); (first | (refine hK _ ?_; clear hK K) | (apply Exists.intro; refine ⟨fun _ => ?_, hK _ ?_⟩; (first | fail); clear hK K)))
    (refine mix_step (by kernel_rfl) (by kernel_rfl) (fun K hK => ?_); go_simp; (try (simp only [↓IntWalk.iteOmega]; go_simp)); (first | (refine hK _ ?_; clear hK K) | (apply Exists.intro; refine ⟨fun _ => ?_, hK _ ?_⟩; (first | fail); clear hK K)))
    (refine mix_step (by kernel_rfl) (by kernel_rfl) (fun K hK => ?_); go_simp; (try (simp only [↓IntWalk.iteOmega]; go_simp)); (first | (refine hK _ ?_; clear hK K) | (apply Exists.intro; refine ⟨fun _ => ?_, hK _ ?_⟩; (first | fail); clear hK K)))
    (refine mix_step (by kernel_rfl) (by kernel_rfl) (fun K hK => ?_); go_simp; (try (simp only [↓IntWalk.iteOmega]; go_simp)); (first | (refine hK _ ?_; clear hK K) | (apply Exists.intro; refine ⟨fun _ => ?_, hK _ ?_⟩; (first | fail); clear hK K)))
    (refine mix_step (by kernel_rfl) (by kernel_rfl) (fun K hK => ?_); go_simp; (try (simp only [↓IntWalk.iteOmega]; go_simp)); (first | (refine hK _ ?_; clear hK K) | (apply Exists.intro; refine ⟨fun _ => ?_, hK _ ?_⟩; (first | fail); clear hK K)))
    (refine mix_step (by kernel_rfl) (by kernel_rfl) (fun K hK => ?_); go_simp; (try (simp only [↓IntWalk.iteOmega]; go_simp)); (first | (refine hK _ ?_; clear hK K) | (apply Exists.intro; refine ⟨fun _ => ?_, hK _ ?_⟩; (first | fail); clear hK K)))
    (refine mix_step (by kernel_rfl) (by kernel_rfl) (fun K hK => ?_); go_simp; (try (simp only [↓IntWalk.iteOmega]; go_simp)); (first | (refine hK _ ?_; clear hK K) | (apply Exists.intro; refine ⟨fun _ => ?_, hK _ ?_⟩; (first | fail); clear hK K)))
    (refine mix_step (by kernel_rfl) (by kernel_rfl) (fun K hK => ?_); go_simp; (try (simp only [↓IntWalk.iteOmega]; go_simp)); (first | (refine hK _ ?_; clear hK K) | (apply Exists.intro; refine ⟨fun _ => ?_, hK _ ?_⟩; (first | fail); clear hK K)))
    (refine mix_step (by kernel_rfl) (by kernel_rfl) (fun K hK => ?_); go_simp; (try (simp only [↓IntWalk.iteOmega]; go_simp)); (first | (refine hK _ ?_; clear hK K) | (apply Exists.intro; refine ⟨fun _ => ?_, hK _ ?_⟩; (first | fail); clear hK K)))
    (refine mix_step (by kernel_rfl) (by kernel_rfl) (fun K hK => ?_); go_simp; (try (simp only [↓IntWalk.iteOmega]; go_simp)); (first | (refine hK _ ?_; clear hK K) | (apply Exists.intro; refine ⟨fun _ => ?_, hK _ ?_⟩; (first | fail); clear hK K)))
    (refine mix_step (by kernel_rfl) (by kernel_rfl) (fun K hK => ?_); go_simp; (try (simp only [↓IntWalk.iteOmega]; go_simp)); (first | (refine hK _ ?_; clear hK K) | (apply Exists.intro; refine ⟨fun _ => ?_, hK _ ?_⟩; (first | fail); clear hK K)))
    (refine mix_step (by kernel_rfl) (by kernel_rfl) (fun K hK => ?_); go_simp; (try (simp only [↓IntWalk.iteOmega]; go_simp)); (first | (refine hK _ ?_; clear hK K) | (apply Exists.intro; refine ⟨fun _ => ?_, hK _ ?_⟩; (first | fail); clear hK K)))
    (refine mix_step (by kernel_rfl) (by kernel_rfl) (fun K hK => ?_); go_simp; (try (simp only [↓IntWalk.iteOmega]; go_simp)); (first | (refine hK _ ?_; clear hK K) | (apply Exists.intro; refine ⟨fun _ => ?_, hK _ ?_⟩; (first | fail); clear hK K)))
    (refine mix_step (by kernel_rfl) (by kernel_rfl) (fun K hK => ?_); go_simp; (try (simp only [↓IntWalk.iteOmega]; go_simp)); (first | (refine hK _ ?_; clear hK K) | (apply Exists.intro; refine ⟨fun _ => ?_, hK _ ?_⟩; (first | fail); clear hK K)))
    (refine mix_step (by kernel_rfl) (by kernel_rfl) (fun K hK => ?_); go_simp; (try (simp only [↓IntWalk.iteOmega]; go_simp)); (first | (refine hK _ ?_; clear hK K) | (apply Exists.intro; refine ⟨fun _ => ?_, hK _ ?_⟩; (first | fail); clear hK K)))
    (refine mix_step (by kernel_rfl) (by kernel_rfl) (fun K hK => ?_); go_simp; (try (simp only [↓IntWalk.iteOmega]; go_simp)); (first | (refine hK _ ?_; clear hK K) | (apply Exists.intro; refine ⟨fun _ => ?_, hK _ ?_⟩; (first | fail); clear hK K)))
    (refine mix_step (by kernel_rfl) (by kernel_rfl) (fun K hK => ?_); go_simp; (try (simp only [↓IntWalk.iteOmega]; go_simp)); (first | (refine hK _ ?_; clear hK K) | (apply Exists.intro; refine ⟨fun _ => ?_, hK _ ?_⟩; (first | fail); clear hK K)))
    (refine mix_step (by kernel_rfl) (by kernel_rfl) (fun K hK => ?_); go_simp; (try (simp only [↓IntWalk.iteOmega]; go_simp)); (first | (refine hK _ ?_; clear hK K) | (apply Exists.intro; refine ⟨fun _ => ?_, hK _ ?_⟩; (first | fail); clear hK K)))
    (refine mix_step (by kernel_rfl) (by kernel_rfl) (fun K hK => ?_); go_simp; (try (simp only [↓IntWalk.iteOmega]; go_simp)); (first | (refine hK _ ?_; clear hK K) | (apply Exists.intro; refine ⟨fun _ => ?_, hK _ ?_⟩; (first | fail); clear hK K)))
    (refine mix_step (by kernel_rfl) (by kernel_rfl) (fun K hK => ?_); go_simp; (try (simp only [↓IntWalk.iteOmega]; go_simp)); (first | (refine hK _ ?_; clear hK K) | (apply Exists.intro; refine ⟨fun _ => ?_, hK _ ?_⟩; (first | fail); clear hK K)))
    refine mix_nil ?_
    rintro ⟨dq, osq⟩
    have hb2 := below_regrown w1 dq osq
    refine (show wpList _ _ _ _ _ _ from ?_)
    simp only [List.drop, Act.put, List.setIfInBounds_toArray, List.set]
    clear f1 f2 f3 f4 f5 f6 f7 f8 f9
    have HA2 := Lib.hid (HA1.out.kept hb2)
    have hbW2 := hbW.trans (hb2.mono hbW.size)
    clear HA HA1 hb2 RF RT hbW
    generalize grow (redrawn w1 dq) osq = w2 at *
    go_wp2_with ((with_reducible refine at_store 3 (.tmp 31) (.tmp 30) ?_); refine wpList_store_cell rfl 3 (.tmp 31) (.tmp 30) rfl g j _ rfl rfl 3 _ HA2.out.arr (by rw [intsA_size]; exact hj) (by kernel_rfl) rfl 0 (Nat.zero_le _) ?_)
    intro w4 hR4 ho4 hs4 hb4
    rw [intsA_set] at hR4
    have HR4 := Lib.hid hR4
    have HO4 := Lib.hid (rowIs_same HA2.out.ov (ho4 _ hOg))
    have HOO4 : Hid (Only [g] w w4) := ⟨Nat.le_trans hbW2.size (by omega), fun m hm hn => (ho4 m (fun e => hn (by rw [e]; simp))).trans (hbW2.block m hm)⟩
    have hb04 := (hbW2.mono (Nat.zero_le _)).trans hb4
    clear hR4 ho4 hs4 hb4 HA2 hbW2
    go_wp2_with fail
    go_end0
    rw [HST.out]
    refine ⟨rfl, ⟨?_, HR4.out⟩, HOO4.out, hb04⟩
    rw [List.length_set]
    exact HO4.out
end Go.Proofs.Ytcmokhpnooldgaa
