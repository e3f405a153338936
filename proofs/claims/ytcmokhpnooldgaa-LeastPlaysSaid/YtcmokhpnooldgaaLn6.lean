/- Roots: what is done with each link. By an AI agent. -/
import Derived.Test.YtcmokhpnooldgaaLn5
namespace Go.Proofs.Ytcmokhpnooldgaa
open Go.RowKit Go.WideShapes Go.Sort Grow

/-- numbers, as a block's cells -/
def intsA (zs : List Int) : Array Value := (zs.map fun z => Value.int .i64 z).toArray
theorem intsA_size (zs : List Int) : (intsA zs).size = zs.length := by simp [intsA]
theorem intsA_get {zs : List Int} {i : Nat} (h : i < zs.length) : (intsA zs)[i]? = some (.int .i64 (zs.getD i 0)) := by simp [intsA, h]
theorem intsA_set (zs : List Int) (i : Nat) (z : Int) : (intsA zs).setIfInBounds i (.int .i64 z) = intsA (zs.set i z) := by simp [intsA, List.map_set]
/-- a variable that holds a slice of a whole block of numbers -/
structure ArrAt (w : World) (O g : Nat) (zs : List Int) : Prop where
  ov : RowIs w O 35 #[.slice (some ⟨g, 0, none⟩) zs.length zs.length]
  arr : RowIs w g 3 (intsA zs)
theorem ArrAt.kept {w w' : World} {O g : Nat} {zs : List Int} (h : ArrAt w O g zs) (hb : Below w.heap.size w w') : ArrAt w' O g zs := ⟨h.ov.kept hb, h.arr.kept hb⟩
theorem ArrAt.only {w w' : World} {O g : Nat} {zs : List Int} {bs : List Nat} (h : ArrAt w O g zs) (ho : Only bs w w') (h1 : O ∉ bs) (h2 : g ∉ bs) : ArrAt w' O g zs := ⟨rowIs_same h.ov (ho.2 _ h.ov.lt h1), rowIs_same h.arr (ho.2 _ h.arr.lt h2)⟩
theorem ArrAt.cell {w : World} {O g : Nat} {zs : List Int} (h : ArrAt w O g zs) {i : Nat} (hi : i < zs.length) : w.cell? ⟨g, i, none⟩ = some (.int .i64 (zs.getD i 0)) := (h.arr.cell i).trans (intsA_get hi)
theorem ArrAt.ints {w : World} {O g : Nat} {zs : List Int} (h : ArrAt w O g zs) : IntsAt w (some ⟨g, 0, none⟩) zs := .inr ⟨g, 0, rfl, fun i hi => by rw [Nat.zero_add]; exact h.cell hi⟩
theorem only_of_below {w w' : World} {bs : List Nat} (h : Below w.heap.size w w') : Only bs w w' := ⟨h.size, fun j hj _ => h.block j hj⟩
/-- the same machine, and whatever in the blocks bs -/
theorem below_of_only {w w' : World} {bs : List Nat} (ho : Only bs w w') (hb : Below 0 w w') {B : Nat} (hB : B ≤ w.heap.size) (hbs : ∀ b ∈ bs, B ≤ b) : Below B w w' := ⟨hb.os, hb.tape, hb.output, hb.size, fun k hk => ho.2 k (by omega) (fun hm => by have := hbs k hm; omega)⟩

def natI (r : List Nat) : List Int := r.map fun (k : Nat) => (k : Int)
theorem natI_len (r : List Nat) : (natI r).length = r.length := by simp [natI]
theorem natI_get {r : List Nat} {i : Nat} (h : i < r.length) : (natI r).getD i 0 = (r.getD i 0 : Nat) := by simp [natI, h]
theorem natI_set (r : List Nat) (i k : Nat) : (natI r).set i (k : Int) = natI (r.set i k) := by simp [natI, List.map_set]

/-- one link's end, in the search for roots -/
def stR (N : LN) (s : List Nat × Bool) (d : Lk) : List Nat × Bool :=
  if Ord.lt (N.id (s.1.getD d.a.toNat 0)).l (N.id (s.1.getD d.b.toNat 0)).l then (s.1.set d.b.toNat (s.1.getD d.a.toNat 0), true) else s
theorem stR_len (N : LN) (s : List Nat × Bool) (d : Lk) : (stR N s d).1.length = s.1.length := by unfold stR; split <;> simp

set_option maxRecDepth 20000 in
set_option maxHeartbeats 4000000 in
theorem rootsC (v : NV) (N : LN) (w : World) (S0 O g C : Nat) (r : List Nat) (ch : Bool) (h : NetAt w v N) (hb : RowIs w S0 32 #[.slice v.ai N.ids.length v.ci, .slice v.ac N.costs.length v.cc, .slice v.al N.links.length v.cl]) (ha : ArrAt w O g (natI r)) (hc : RowIs w C 4 #[.bool ch])
    (hr : ∀ k ∈ r, k < N.ids.length) (i j : Nat) (p q : Int) (hi : i < r.length) (hj : j < r.length) (d : Lk) (hd : d = ⟨i, p, j, q⟩) :
    Calls Try.prog 30 #[endV d.a d.p, endV d.b d.q, .pointer (some ⟨S0, 0, none⟩), .pointer (some ⟨O, 0, none⟩), .pointer (some ⟨C, 0, none⟩)] w
      fun e w' => e = .returned (.tuple #[]) ∧ ArrAt w' O g (natI (stR N (r, ch) d).1) ∧ RowIs w' C 4 #[.bool (stR N (r, ch) d).2] ∧ Only [g, C] w w' ∧ Below 0 w w' := by
  subst hd
  have HN := Lib.hid h
  have HB := Lib.hid hb
  have HA := Lib.hid ha
  have HC := Lib.hid hc
  have hgc : g ≠ C := rowIs_ne ha.arr hc (by decide)
  have hOg : O ≠ g := rowIs_ne ha.ov ha.arr (by decide)
  have hOC : O ≠ C := rowIs_ne ha.ov hc (by decide)
  have hri := hr (r.getD i 0) (by rw [List.getD, List.getElem?_eq_getElem hi]; exact List.getElem_mem hi)
  have hrj := hr (r.getD j 0) (by rw [List.getD, List.getElem?_eq_getElem hj]; exact List.getElem_mem hj)
  have ki := ha.cell (i := i) (by rw [natI_len]; exact hi)
  have kj := ha.cell (i := j) (by rw [natI_len]; exact hj)
  rw [natI_get hi] at ki
  rw [natI_get hj] at kj
  have HST : Hid (stR N (r, ch) ⟨i, p, j, q⟩ = if Ord.lt (N.id (r.getD i 0)).l (N.id (r.getD j 0)).l then (r.set j (r.getD i 0), true) else (r, ch)) := rfl
  have HSET := Lib.hid (natI_set r j (r.getD i 0))
  have HLN := Lib.hid (natI_len r)
  obtain ⟨b, off, eai, hbl, hrgi⟩ := h.idr hri
  obtain ⟨b', off', eai', hbl', hrgj⟩ := h.idr hrj
  rw [eai] at eai'
  simp only [Option.some.injEq, Addr.mk.injEq, and_true] at eai'
  obtain ⟨rfl, rfl⟩ := eai'
  have hq0 := hb.cell 0
  have hqo := ha.ov.cell 0
  generalize r.getD i 0 = x at *
  generalize r.getD j 0 = y at *
  have HRI := Lib.hid hrgi
  have HRJ := Lib.hid hrgj
  have HX : Hid (N.id x = N.id x) := rfl
  generalize N.id x = ix at *
  generalize N.id y = iy at *
  have HAI := Lib.hid eai
  have hq0 : w.cell? ⟨S0, 0, none⟩ = some (.slice (some ⟨b, off, none⟩) N.ids.length v.ci) := by rw [← eai]; exact hq0
  have hqo : w.cell? ⟨O, 0, none⟩ = some (.slice (some ⟨g, 0, none⟩) r.length r.length) := by rw [← natI_len r]; exact hqo
  clear h hb ha hc hr hrgi hrgj eai HX
  go_enter Try.func30, Try.ntmps30
  go_upto_region 1 with fail
  generalize hW : (w.alloc _).alloc _ = w1
  have hbW : Below w.heap.size w w1 := by rw [← hW]; exact ((Below.refl _ _).alloc (Nat.le_refl _) _).alloc (by simp) _
  have RF : Hid (RowIs w1 w.heap.size 63 #[.int .i64 i, .int .i64 p]) := by subst hW; exact (rowIs_new w _ _).alloc _
  have RT : Hid (RowIs w1 (w.heap.size + 1) 63 #[.int .i64 j, .int .i64 q]) := by subst hW; exact rowIs_new1 w _ _ _
  clear hW
  have HRI := Lib.hid (range_later HRI.out hbl hbW)
  have HRJ := Lib.hid (range_later HRJ.out hbl hbW)
  have hbl1 : b < w1.heap.size := Nat.lt_of_lt_of_le hbl hbW.size
  have HA1 := Lib.hid (HA.out.kept hbW)
  have HC1 := Lib.hid (HC.out.kept hbW)
  have e1 := (hbW.cell (p := ⟨S0, 0, none⟩) (block_lt_of_cell hq0)).trans hq0
  have e2 := (hbW.cell (p := ⟨O, 0, none⟩) (block_lt_of_cell hqo)).trans hqo
  have e3 := (hbW.cell (p := ⟨g, i, none⟩) (block_lt_of_cell ki)).trans ki
  have e4 := (hbW.cell (p := ⟨g, j, none⟩) (block_lt_of_cell kj)).trans kj
  have f1 := cell_regrown e1
  have f2 := cell_regrown e2
  have f3 := cell_regrown e3
  have f4 := cell_regrown e4
  have f5 := cell_regrown (show w1.cell? ⟨w.heap.size, 0, none⟩ = some (.int .i64 i) from RF.out.cell 0)
  have f6 := cell_regrown (show w1.cell? ⟨w.heap.size + 1, 0, none⟩ = some (.int .i64 j) from RT.out.cell 0)
  have L1 := Lib.hid (fun (k : Regrown) => less_any ix.f iy.f (grow (redrawn w1 k.d) k.os))
  have hx0 : (0 : Int) ≤ (i : Int) := by omega
  have hx1 : (i : Int) < (r.length : Int) := by omega
  have hx2 : (0 : Int) ≤ (j : Int) := by omega
  have hx3 : (j : Int) < (r.length : Int) := by omega
  have hx4 : (0 : Int) ≤ (x : Int) := by omega
  have hx5 : (x : Int) < (N.ids.length : Int) := by omega
  have hx6 : (0 : Int) ≤ (y : Int) := by omega
  have hx7 : (y : Int) < (N.ids.length : Int) := by omega
  have HLT : Hid (Ord.lt [ix.f 0, ix.f 1, ix.f 2, ix.f 3, ix.f 4, ix.f 5, ix.f 6, ix.f 7] [iy.f 0, iy.f 1, iy.f 2, iy.f 3, iy.f 4, iy.f 5, iy.f 6, iy.f 7] = Ord.lt ix.l iy.l) := rfl
  clear hq0 hqo ki kj
  refine wp_region_mix 19 (by kernel_rfl) (by kernel_rfl) (by kernel_rfl) ?_
  (refine mix_step (by kernel_rfl) (by kernel_rfl) (fun K hK => ?_); go_simp; (try (simp only [↓IntWalk.iteOmega]; go_simp)); (first | (refine hK _ ?_; clear hK K) | (apply Exists.intro; refine ⟨fun _ => ?_, hK _ ?_⟩; (first | fail); clear hK K)))
  (refine mix_step (by kernel_rfl) (by kernel_rfl) (fun K hK => ?_); go_simp; (try (simp only [↓IntWalk.iteOmega]; go_simp)); (first | (refine hK _ ?_; clear hK K) | (apply Exists.intro; refine ⟨fun _ => ?_, hK _ ?_⟩; (first | fail); clear hK K)))
  (refine mix_step (by kernel_rfl) (by kernel_rfl) (fun K hK => ?_); go_simp; (try (simp only [↓IntWalk.iteOmega]; go_simp)); (first | (refine hK _ ?_; clear hK K) | (apply Exists.intro; refine ⟨fun _ => ?_, hK _ ?_⟩; (first | fail); clear hK K)))
  (refine mix_step (by kernel_rfl) (by kernel_rfl) (fun K hK => ?_); go_simp; (try (simp only [↓IntWalk.iteOmega]; go_simp)); (first | (refine hK _ ?_; clear hK K) | (apply Exists.intro; refine ⟨fun _ => ?_, hK _ ?_⟩; (first | fail); clear hK K)))
  (refine mix_step (by kernel_rfl) (by kernel_rfl) (fun K hK => ?_); go_simp; (try (simp only [↓IntWalk.iteOmega]; go_simp)); (first | (refine hK _ ?_; clear hK K) | (apply Exists.intro; refine ⟨fun _ => ?_, hK _ ?_⟩; (first | fail); clear hK K)))
  (refine mix_step (by kernel_rfl) (by kernel_rfl) (fun K hK => ?_); go_simp; (try (simp only [↓IntWalk.iteOmega]; go_simp)); (first | (refine hK _ ?_; clear hK K) | (apply Exists.intro; refine ⟨fun _ => ?_, hK _ ?_⟩; (first | fail); clear hK K)))
  (refine mix_step (by kernel_rfl) (by kernel_rfl) (fun K hK => ?_); go_simp; (try (simp only [↓IntWalk.iteOmega]; go_simp)); (first | (refine hK _ ?_; clear hK K) | (apply Exists.intro; refine ⟨fun _ => ?_, hK _ ?_⟩; (first | fail); clear hK K)))
  (refine mix_step (by kernel_rfl) (by kernel_rfl) (fun K hK => ?_); go_simp; (try (simp only [↓IntWalk.iteOmega]; go_simp)); (first | (refine hK _ ?_; clear hK K) | (apply Exists.intro; refine ⟨fun _ => ?_, hK _ ?_⟩; (first | fail); clear hK K)))
  refine mix_exact (.agg #[.int .u8 ((ix.f 0).toNat : Int), .int .u8 ((ix.f 1).toNat : Int), .int .u8 ((ix.f 2).toNat : Int), .int .u8 ((ix.f 3).toNat : Int), .int .u8 ((ix.f 4).toNat : Int), .int .u8 ((ix.f 5).toNat : Int), .int .u8 ((ix.f 6).toNat : Int), .int .u8 ((ix.f 7).toNat : Int)]) rfl (exact_load_range (sub := Id8.vals ix) rfl rfl (by simp) HRI.out hbl1 Try.underlying61 rfl (by kernel_rfl)) ?_
  (refine mix_step (by kernel_rfl) (by kernel_rfl) (fun K hK => ?_); go_simp; (try (simp only [↓IntWalk.iteOmega]; go_simp)); (first | (refine hK _ ?_; clear hK K) | (apply Exists.intro; refine ⟨fun _ => ?_, hK _ ?_⟩; (first | fail); clear hK K)))
  (refine mix_step (by kernel_rfl) (by kernel_rfl) (fun K hK => ?_); go_simp; (try (simp only [↓IntWalk.iteOmega]; go_simp)); (first | (refine hK _ ?_; clear hK K) | (apply Exists.intro; refine ⟨fun _ => ?_, hK _ ?_⟩; (first | fail); clear hK K)))
  (refine mix_step (by kernel_rfl) (by kernel_rfl) (fun K hK => ?_); go_simp; (try (simp only [↓IntWalk.iteOmega]; go_simp)); (first | (refine hK _ ?_; clear hK K) | (apply Exists.intro; refine ⟨fun _ => ?_, hK _ ?_⟩; (first | fail); clear hK K)))
  (refine mix_step (by kernel_rfl) (by kernel_rfl) (fun K hK => ?_); go_simp; (try (simp only [↓IntWalk.iteOmega]; go_simp)); (first | (refine hK _ ?_; clear hK K) | (apply Exists.intro; refine ⟨fun _ => ?_, hK _ ?_⟩; (first | fail); clear hK K)))
  (refine mix_step (by kernel_rfl) (by kernel_rfl) (fun K hK => ?_); go_simp; (try (simp only [↓IntWalk.iteOmega]; go_simp)); (first | (refine hK _ ?_; clear hK K) | (apply Exists.intro; refine ⟨fun _ => ?_, hK _ ?_⟩; (first | fail); clear hK K)))
  (refine mix_step (by kernel_rfl) (by kernel_rfl) (fun K hK => ?_); go_simp; (try (simp only [↓IntWalk.iteOmega]; go_simp)); (first | (refine hK _ ?_; clear hK K) | (apply Exists.intro; refine ⟨fun _ => ?_, hK _ ?_⟩; (first | fail); clear hK K)))
  (refine mix_step (by kernel_rfl) (by kernel_rfl) (fun K hK => ?_); go_simp; (try (simp only [↓IntWalk.iteOmega]; go_simp)); (first | (refine hK _ ?_; clear hK K) | (apply Exists.intro; refine ⟨fun _ => ?_, hK _ ?_⟩; (first | fail); clear hK K)))
  (refine mix_step (by kernel_rfl) (by kernel_rfl) (fun K hK => ?_); go_simp; (try (simp only [↓IntWalk.iteOmega]; go_simp)); (first | (refine hK _ ?_; clear hK K) | (apply Exists.intro; refine ⟨fun _ => ?_, hK _ ?_⟩; (first | fail); clear hK K)))
  refine mix_exact (.agg #[.int .u8 ((iy.f 0).toNat : Int), .int .u8 ((iy.f 1).toNat : Int), .int .u8 ((iy.f 2).toNat : Int), .int .u8 ((iy.f 3).toNat : Int), .int .u8 ((iy.f 4).toNat : Int), .int .u8 ((iy.f 5).toNat : Int), .int .u8 ((iy.f 6).toNat : Int), .int .u8 ((iy.f 7).toNat : Int)]) rfl (exact_load_range (sub := Id8.vals iy) rfl rfl (by simp) HRJ.out hbl1 Try.underlying61 rfl (by kernel_rfl)) ?_
  (refine mix_step (by kernel_rfl) (by kernel_rfl) (fun K hK => ?_); go_simp; (try (simp only [↓IntWalk.iteOmega]; go_simp)); (first | (refine hK _ ?_; clear hK K) | (apply Exists.intro; refine ⟨fun _ => ?_, hK _ ?_⟩; (first | exact L1.out _); clear hK K)))
  refine mix_nil ?_
  rintro ⟨dq, osq⟩
  have hb2 := below_regrown w1 dq osq
  refine (show wpList _ _ _ _ _ _ from ?_)
  simp only [List.drop, Act.put, List.setIfInBounds_toArray, List.set]
  have e3' := (hb2.cell (p := ⟨g, i, none⟩) (block_lt_of_cell e3)).trans e3
  clear f1 f2 f3 f4 f5 f6 L1 HRI HRJ e1 e2 e3 e4
  have HA2 := Lib.hid (HA1.out.kept hb2)
  have HC2 := Lib.hid (HC1.out.kept hb2)
  have RF2 := Lib.hid (RF.out.kept hb2)
  have RT2 := Lib.hid (RT.out.kept hb2)
  have hbW2 := hbW.trans (hb2.mono hbW.size)
  clear HA HC HA1 HC1 hb2 RF RT hbW
  generalize grow (redrawn w1 dq) osq = w2 at *
  rw [HLT.out]
  cases hlt : Ord.lt ix.l iy.l
  · rw [hlt] at HST
    go_wp2_with fail
    go_end0
    rw [HST.out]
    exact ⟨rfl, HA2.out, HC2.out, only_of_below hbW2, hbW2.mono (Nat.zero_le _)⟩
  · rw [hlt] at HST
    have f2 := cell_regrown (show w2.cell? ⟨O, 0, none⟩ = some (.slice (some ⟨g, 0, none⟩) r.length r.length) by rw [← HLN.out]; exact HA2.out.ov.cell 0)
    have f3 := cell_regrown (show w2.cell? ⟨g, i, none⟩ = some (.int .i64 x) from e3')
    have f5 := cell_regrown (show w2.cell? ⟨w.heap.size, 0, none⟩ = some (.int .i64 i) from RF2.out.cell 0)
    have f6 := cell_regrown (show w2.cell? ⟨w.heap.size + 1, 0, none⟩ = some (.int .i64 j) from RT2.out.cell 0)
    go_upto_region 2 with fail
    refine wp_region_mix 8 (by kernel_rfl) (by kernel_rfl) (by kernel_rfl) ?_
    (refine mix_step (by kernel_rfl) (by kernel_rfl) (fun K hK => ?_); go_simp; (try (simp only [↓IntWalk.iteOmega]; go_simp)); (first | (refine hK _ ?_; clear hK K) | (apply Exists.intro; refine ⟨fun _ => ?_, hK _ ?_⟩; (first | fail); clear hK K)))
    (refine mix_step (by kernel_rfl) (by kernel_rfl) (fun K hK => ?_); go_simp; (try (simp only [↓IntWalk.iteOmega]; go_simp)); (first | (refine hK _ ?_; clear hK K) | (apply Exists.intro; refine ⟨fun _ => ?_, hK _ ?_⟩; (first | fail); clear hK K)))
    (refine mix_step (by kernel_rfl) (by kernel_rfl) (fun K hK => ?_); go_simp; (try (simp only [↓IntWalk.iteOmega]; go_simp)); (first | (refine hK _ ?_; clear hK K) | (apply Exists.intro; refine ⟨fun _ => ?_, hK _ ?_⟩; (first | fail); clear hK K)))
    (refine mix_step (by kernel_rfl) (by kernel_rfl) (fun K hK => ?_); go_simp; (try (simp only [↓IntWalk.iteOmega]; go_simp)); (first | (refine hK _ ?_; clear hK K) | (apply Exists.intro; refine ⟨fun _ => ?_, hK _ ?_⟩; (first | fail); clear hK K)))
    (refine mix_step (by kernel_rfl) (by kernel_rfl) (fun K hK => ?_); go_simp; (try (simp only [↓IntWalk.iteOmega]; go_simp)); (first | (refine hK _ ?_; clear hK K) | (apply Exists.intro; refine ⟨fun _ => ?_, hK _ ?_⟩; (first | fail); clear hK K)))
    (refine mix_step (by kernel_rfl) (by kernel_rfl) (fun K hK => ?_); go_simp; (try (simp only [↓IntWalk.iteOmega]; go_simp)); (first | (refine hK _ ?_; clear hK K) | (apply Exists.intro; refine ⟨fun _ => ?_, hK _ ?_⟩; (first | fail); clear hK K)))
    (refine mix_step (by kernel_rfl) (by kernel_rfl) (fun K hK => ?_); go_simp; (try (simp only [↓IntWalk.iteOmega]; go_simp)); (first | (refine hK _ ?_; clear hK K) | (apply Exists.intro; refine ⟨fun _ => ?_, hK _ ?_⟩; (first | fail); clear hK K)))
    (refine mix_step (by kernel_rfl) (by kernel_rfl) (fun K hK => ?_); go_simp; (try (simp only [↓IntWalk.iteOmega]; go_simp)); (first | (refine hK _ ?_; clear hK K) | (apply Exists.intro; refine ⟨fun _ => ?_, hK _ ?_⟩; (first | fail); clear hK K)))
    refine mix_nil ?_
    rintro ⟨dq, osq⟩
    have hb3 := below_regrown w2 dq osq
    refine (show wpList _ _ _ _ _ _ from ?_)
    simp only [List.drop, Act.put, List.setIfInBounds_toArray, List.set]
    have HA3 := Lib.hid (HA2.out.kept hb3)
    have HC3 := Lib.hid (HC2.out.kept hb3)
    have hbW3 := hbW2.trans (hb3.mono hbW2.size)
    clear f2 f3 f5 f6 HA2 HC2 hb3 RF2 RT2 hbW2
    generalize grow (redrawn w2 dq) osq = w3 at *
    go_wp2_with ((with_reducible refine at_store 3 (.tmp 34) (.tmp 33) ?_); refine wpList_store_cell rfl 3 (.tmp 34) (.tmp 33) rfl g j _ rfl rfl 3 _ HA3.out.arr (by rw [intsA_size, HLN.out]; exact hj) (by kernel_rfl) rfl 0 (Nat.zero_le _) ?_)
    intro w4 hR4 ho4 hs4 hb4
    rw [intsA_set, HSET.out] at hR4
    have HR4 := Lib.hid hR4
    have HC4 := Lib.hid (rowIs_same HC3.out (ho4 _ (Ne.symm hgc)))
    have HO4 := Lib.hid (rowIs_same HA3.out.ov (ho4 _ hOg))
    have HOO4 : Hid (Only [g, C] w w4) := ⟨Nat.le_trans hbW3.size (by omega), fun m hm hn => (ho4 m (fun e => hn (by rw [e]; simp))).trans (hbW3.block m hm)⟩
    have hb04 := (hbW3.mono (Nat.zero_le _)).trans hb4
    clear hR4 ho4 hs4 hb4 HA3 HC3 hbW3
    go_wp2_with ((with_reducible refine at_store 4 (.tmp 4) (.const (.bool true)) ?_); refine wpList_store_cell rfl 4 (.tmp 4) (.const (.bool true)) rfl C 0 _ rfl rfl 4 _ HC4.out (show 0 < 1 from by decide) (by kernel_rfl) rfl 0 (Nat.zero_le _) ?_)
    intro w5 hR5 ho5 hs5 hb5
    have HC5 : Hid (RowIs w5 C 4 #[.bool true]) := hR5
    have HR5 := Lib.hid (rowIs_same HR4.out (ho5 _ hgc))
    have HO5 := Lib.hid (rowIs_same HO4.out (ho5 _ hOC))
    have HOO5 := Lib.hid (HOO4.out.store (S := C) (by simp) ho5 hs5)
    have hb05 := hb04.trans hb5
    clear hR5 ho5 hs5 hb5 HC4 HR4 HO4 HOO4 hb04
    go_wp2_with fail
    go_end0
    rw [HST.out]
    refine ⟨rfl, ⟨?_, HR5.out⟩, HC5.out, HOO5.out, hb05⟩
    show RowIs _ _ _ #[.slice _ (natI (r.set j x)).length (natI (r.set j x)).length]
    rw [natI_len, List.length_set, ← natI_len r]
    exact HO5.out
end Go.Proofs.Ytcmokhpnooldgaa
