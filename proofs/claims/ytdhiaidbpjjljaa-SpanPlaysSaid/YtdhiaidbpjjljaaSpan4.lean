/- span: age, on. By an AI agent. -/
import Derived.Test.YtdhiaidbpjjljaaSpan3
import Derived.Deep.AppendLies
import Derived.Laws.OwnMore
import Derived.ArgAppend
namespace Go.Proofs.Ytdhiaidbpjjljaa
open Go.RowKit Go.Sort Grow

def SS.age (s : SS) : Int × Bool := if s.root < 0 then (0, true) else ((s.port s.root.toNat).w.age + 1, decide ((s.port s.root.toNat).w.age + 1 < s.ma))
def SS.RootOk (s : SS) : Prop := s.root < 0 ∨ ∃ k : Nat, s.root = k ∧ k < s.ports.length
def SS.AgesOk (s : SS) : Prop := ∀ k, 0 ≤ (s.port k).w.age ∧ (s.port k).w.age ≤ 100000

set_option maxRecDepth 20000 in
set_option maxHeartbeats 2000000 in
theorem age_any (B S g cap : Nat) (pbs : List Nat) (w : World) (s : SS) (h : SpAt B S g cap pbs w s) (hp : pbs.length ≤ 1000) (hr : s.RootOk) (ha : s.AgesOk) :
    Calls Try.prog 47 #[.pointer (some ⟨S, 0, none⟩)] w fun e w' => e = .returned (.tuple #[.int .i64 s.age.1, .bool s.age.2]) ∧ Below w.heap.size w w' := by
  have HA := Lib.hid h
  have hlen : s.ports.length = pbs.length := h.len.symm
  have c30 : w.cell? ⟨S, 30, none⟩ = some (.int .i64 s.root) := HA.out.row.cell 30
  have HE : Hid (s.age = if s.root < 0 then (0, true) else ((s.port s.root.toNat).w.age + 1, decide ((s.port s.root.toNat).w.age + 1 < s.ma))) := rfl
  rcases hr with hr | ⟨k, hk, hkl⟩
  · have HE : Hid (s.age = (0, true)) := by show _ = _; rw [HE.out, if_pos hr]
    clear h ha
    go_enter Try.func47, Try.ntmps47
    go_wp2_with fail
    go_ret2
    exact ⟨by rw [HE.out]; rfl, Below.refl _ _⟩
  · have HE : Hid (s.age = ((s.port k).w.age + 1, decide ((s.port k).w.age + 1 < s.ma))) := by show _ = _; rw [HE.out, if_neg (by omega), hk, Int.toNat_natCast]
    have hak := ha k
    rw [hk] at c30
    have hkp : k < pbs.length := by omega
    have q0 := cell_regrown (h.ptr hkp)
    have q1 := cell_regrown (show w.cell? ⟨S, 11, none⟩ = some (.slice (some ⟨g, 0, none⟩) s.ports.length cap) from h.row.cell 11)
    have q30 := cell_regrown c30
    have q23 := cell_regrown (show w.cell? ⟨pbs[k], 21, none⟩ = some (.int .i64 (s.port k).w.age) from (h.ports k hkp).2.cell 21)
    have hx0 : (0 : Int) ≤ (k : Int) := by omega
    have hx1 : (k : Int) < (s.ports.length : Int) := by omega
    have hneg : decide ((k : Int) < 0) = false := decide_eq_false (by omega)
    clear h ha hk
    generalize (s.port k).w.age = ag at *
    have wa : IntKind.i64.wrap (ag + 1) = ag + 1 := IntWalk.i64_in _ (by omega)
    go_enter Try.func47, Try.ntmps47
    go_upto_region 3 with fail
    clear c30
    refine wp_region_mix 16 (by kernel_rfl) (by kernel_rfl) (by kernel_rfl) ?_
    (refine mix_step (by kernel_rfl) (by kernel_rfl) (fun K hK => ?_); go_simp; (try (simp only [↓IntWalk.iteOmega]; go_simp)); (first | (refine hK _ ?_; clear hK K) | (apply Exists.intro; refine ⟨fun _ => ?_, hK _ ?_⟩; (first | fail); clear hK K)))
    (refine mix_step (by kernel_rfl) (by kernel_rfl) (fun K hK => ?_); go_simp; (try (simp only [↓IntWalk.iteOmega]; go_simp)); (first | (refine hK _ ?_; clear hK K) | (apply Exists.intro; refine ⟨fun _ => ?_, hK _ ?_⟩; (first | fail); clear hK K)))
    (refine mix_step (by kernel_rfl) (by kernel_rfl) (fun K hK => ?_); go_simp; (try (simp only [↓IntWalk.iteOmega]; go_simp)); (first | (refine hK _ ?_; clear hK K) | (apply Exists.intro; refine ⟨fun _ => ?_, hK _ ?_⟩; (first | fail); clear hK K)))
    (refine mix_step (by kernel_rfl) (by kernel_rfl) (fun K hK => ?_); go_simp; (try (simp only [↓IntWalk.iteOmega]; go_simp)); (first | (refine hK _ ?_; clear hK K) | (apply Exists.intro; refine ⟨fun _ => ?_, hK _ ?_⟩; (first | fail); clear hK K)))
    (refine mix_step (by kernel_rfl) (by kernel_rfl) (fun K hK => ?_); go_simp; (try (simp only [↓IntWalk.iteOmega]; go_simp)); (first | (refine hK _ ?_; clear hK K) | (apply Exists.intro; refine ⟨fun _ => ?_, hK _ ?_⟩; (first | fail); clear hK K)))
    (refine mix_step (by kernel_rfl) (by kernel_rfl) (fun K hK => ?_); go_simp; (try (simp only [↓IntWalk.iteOmega]; go_simp)); (first | (refine hK _ ?_; clear hK K) | (apply Exists.intro; refine ⟨fun _ => ?_, hK _ ?_⟩; (first | fail); clear hK K)))
    (refine mix_step (by kernel_rfl) (by kernel_rfl) (fun K hK => ?_); go_simp; (try (simp only [↓IntWalk.iteOmega]; go_simp)); (first | (refine hK _ ?_; clear hK K) | (apply Exists.intro; refine ⟨fun _ => ?_, hK _ ?_⟩; (first | fail); clear hK K)))
    (refine mix_step (by kernel_rfl) (by kernel_rfl) (fun K hK => ?_); go_simp; (try (simp only [↓IntWalk.iteOmega]; go_simp)); (first | (refine hK _ ?_; clear hK K) | (apply Exists.intro; refine ⟨fun _ => ?_, hK _ ?_⟩; (first | fail); clear hK K)))
    (refine mix_step (by kernel_rfl) (by kernel_rfl) (fun K hK => ?_); go_simp; (try (simp only [↓IntWalk.iteOmega]; go_simp)); (first | (refine hK _ ?_; clear hK K) | (apply Exists.intro; refine ⟨fun _ => ?_, hK _ ?_⟩; (first | fail); clear hK K)))
    (refine mix_step (by kernel_rfl) (by kernel_rfl) (fun K hK => ?_); go_simp; (try (simp only [↓IntWalk.iteOmega]; go_simp)); (first | (refine hK _ ?_; clear hK K) | (apply Exists.intro; refine ⟨fun _ => ?_, hK _ ?_⟩; (first | fail); clear hK K)))
    (refine mix_step (by kernel_rfl) (by kernel_rfl) (fun K hK => ?_); go_simp; (try (simp only [↓IntWalk.iteOmega]; go_simp)); (first | (refine hK _ ?_; clear hK K) | (apply Exists.intro; refine ⟨fun _ => ?_, hK _ ?_⟩; (first | fail); clear hK K)))
    (refine mix_step (by kernel_rfl) (by kernel_rfl) (fun K hK => ?_); go_simp; (try (simp only [↓IntWalk.iteOmega]; go_simp)); (first | (refine hK _ ?_; clear hK K) | (apply Exists.intro; refine ⟨fun _ => ?_, hK _ ?_⟩; (first | fail); clear hK K)))
    (refine mix_step (by kernel_rfl) (by kernel_rfl) (fun K hK => ?_); go_simp; (try (simp only [↓IntWalk.iteOmega]; go_simp)); (first | (refine hK _ ?_; clear hK K) | (apply Exists.intro; refine ⟨fun _ => ?_, hK _ ?_⟩; (first | fail); clear hK K)))
    (refine mix_step (by kernel_rfl) (by kernel_rfl) (fun K hK => ?_); go_simp; (try (simp only [↓IntWalk.iteOmega]; go_simp)); (first | (refine hK _ ?_; clear hK K) | (apply Exists.intro; refine ⟨fun _ => ?_, hK _ ?_⟩; (first | fail); clear hK K)))
    (refine mix_step (by kernel_rfl) (by kernel_rfl) (fun K hK => ?_); go_simp; (try (simp only [↓IntWalk.iteOmega]; go_simp)); (first | (refine hK _ ?_; clear hK K) | (apply Exists.intro; refine ⟨fun _ => ?_, hK _ ?_⟩; (first | fail); clear hK K)))
    (refine mix_step (by kernel_rfl) (by kernel_rfl) (fun K hK => ?_); go_simp; (try (simp only [↓IntWalk.iteOmega]; go_simp)); (first | (refine hK _ ?_; clear hK K) | (apply Exists.intro; refine ⟨fun _ => ?_, hK _ ?_⟩; (first | fail); clear hK K)))
    refine mix_nil ?_
    rintro ⟨dq, osq⟩
    have hb1 := below_regrown w dq osq
    have HA1 := Lib.hid (HA.out.later hb1)
    have c8 := cell_regrown (show (grow (redrawn w dq) osq).cell? ⟨S, 8, none⟩ = some (.int .i64 s.ma) from HA1.out.row.cell 8)
    clear q0 q1 q30 q23 HA
    generalize grow (redrawn w dq) osq = w1 at *
    refine (show wpList _ _ _ _ _ _ from ?_)
    simp only [List.drop, Act.put, List.setIfInBounds_toArray, List.set]
    go_upto_region 4 with fail
    refine wp_region_mix 10 (by kernel_rfl) (by kernel_rfl) (by kernel_rfl) ?_
    (refine mix_step (by kernel_rfl) (by kernel_rfl) (fun K hK => ?_); go_simp; (try (simp only [↓IntWalk.iteOmega]; go_simp)); (first | (refine hK _ ?_; clear hK K) | (apply Exists.intro; refine ⟨fun _ => ?_, hK _ ?_⟩; (first | fail); clear hK K)))
    (refine mix_step (by kernel_rfl) (by kernel_rfl) (fun K hK => ?_); go_simp; (try (simp only [↓IntWalk.iteOmega]; go_simp)); (first | (refine hK _ ?_; clear hK K) | (apply Exists.intro; refine ⟨fun _ => ?_, hK _ ?_⟩; (first | fail); clear hK K)))
    (refine mix_step (by kernel_rfl) (by kernel_rfl) (fun K hK => ?_); go_simp; (try (simp only [↓IntWalk.iteOmega]; go_simp)); (first | (refine hK _ ?_; clear hK K) | (apply Exists.intro; refine ⟨fun _ => ?_, hK _ ?_⟩; (first | fail); clear hK K)))
    (refine mix_step (by kernel_rfl) (by kernel_rfl) (fun K hK => ?_); go_simp; (try (simp only [↓IntWalk.iteOmega]; go_simp)); (first | (refine hK _ ?_; clear hK K) | (apply Exists.intro; refine ⟨fun _ => ?_, hK _ ?_⟩; (first | fail); clear hK K)))
    (refine mix_step (by kernel_rfl) (by kernel_rfl) (fun K hK => ?_); go_simp; (try (simp only [↓IntWalk.iteOmega]; go_simp)); (first | (refine hK _ ?_; clear hK K) | (apply Exists.intro; refine ⟨fun _ => ?_, hK _ ?_⟩; (first | fail); clear hK K)))
    (refine mix_step (by kernel_rfl) (by kernel_rfl) (fun K hK => ?_); go_simp; (try (simp only [↓IntWalk.iteOmega]; go_simp)); (first | (refine hK _ ?_; clear hK K) | (apply Exists.intro; refine ⟨fun _ => ?_, hK _ ?_⟩; (first | fail); clear hK K)))
    (refine mix_step (by kernel_rfl) (by kernel_rfl) (fun K hK => ?_); go_simp; (try (simp only [↓IntWalk.iteOmega]; go_simp)); (first | (refine hK _ ?_; clear hK K) | (apply Exists.intro; refine ⟨fun _ => ?_, hK _ ?_⟩; (first | fail); clear hK K)))
    (refine mix_step (by kernel_rfl) (by kernel_rfl) (fun K hK => ?_); go_simp; (try (simp only [↓IntWalk.iteOmega]; go_simp)); (first | (refine hK _ ?_; clear hK K) | (apply Exists.intro; refine ⟨fun _ => ?_, hK _ ?_⟩; (first | fail); clear hK K)))
    (refine mix_step (by kernel_rfl) (by kernel_rfl) (fun K hK => ?_); go_simp; (try (simp only [↓IntWalk.iteOmega]; go_simp)); (first | (refine hK _ ?_; clear hK K) | (apply Exists.intro; refine ⟨fun _ => ?_, hK _ ?_⟩; (first | fail); clear hK K)))
    (refine mix_step (by kernel_rfl) (by kernel_rfl) (fun K hK => ?_); go_simp; (try (simp only [↓IntWalk.iteOmega]; go_simp)); (first | (refine hK _ ?_; clear hK K) | (apply Exists.intro; refine ⟨fun _ => ?_, hK _ ?_⟩; (first | fail); clear hK K)))
    refine mix_nil ?_
    rintro ⟨dq, osq⟩
    have hb2 := below_regrown w1 dq osq
    refine (show wpList _ _ _ _ _ _ from ?_)
    simp only [List.drop, Act.put, List.setIfInBounds_toArray, List.set]
    go_wp2_with fail
    go_ret2
    exact ⟨by rw [HE.out]; rfl, hb1.trans (hb2.mono hb1.size)⟩

theorem told_flat (B S g cap : Nat) (pbs : List Nat) (w : World) (s : SS) (h : SpAt B S g cap pbs w s) (i : Nat) (hi : i ≤ 1000) :
    Calls Try.prog 48 #[.pointer (some ⟨S, 0, none⟩), .int .i64 (i : Nat)] w fun e w' => e = .returned (.agg #[.int .u8 (((s.told i).r.f 0).toNat : Int), .int .u8 (((s.told i).r.f 1).toNat : Int), .int .u8 (((s.told i).r.f 2).toNat : Int), .int .u8 (((s.told i).r.f 3).toNat : Int), .int .u8 (((s.told i).r.f 4).toNat : Int), .int .u8 (((s.told i).r.f 5).toNat : Int), .int .u8 (((s.told i).r.f 6).toNat : Int), .int .u8 (((s.told i).r.f 7).toNat : Int), .int .i64 (s.told i).c, .int .u8 (((s.told i).b.f 0).toNat : Int), .int .u8 (((s.told i).b.f 1).toNat : Int), .int .u8 (((s.told i).b.f 2).toNat : Int), .int .u8 (((s.told i).b.f 3).toNat : Int), .int .u8 (((s.told i).b.f 4).toNat : Int), .int .u8 (((s.told i).b.f 5).toNat : Int), .int .u8 (((s.told i).b.f 6).toNat : Int), .int .u8 (((s.told i).b.f 7).toNat : Int), .int .i64 (s.told i).p]) ∧ Below w.heap.size w w' := told_any B S g cap pbs w s h i hi

theorem all_any (i : Int) (w : World) : Calls Try.prog 30 #[.int .i64 i] w fun e w' => e = .returned (.bool true) ∧ Below w.heap.size w w' := by
  go_enter Try.func30, Try.ntmps30
  go_wp2_with fail
  go_ret
  exact ⟨rfl, Below.refl _ _⟩
theorem only_any (bx : Nat) (j : Int) (w : World) (h : RowIs w bx 3 #[.int .i64 j]) (i : Int) : Calls Try.prog 34 #[.int .i64 i, .pointer (some ⟨bx, 0, none⟩)] w fun e w' => e = .returned (.bool (decide (i = j))) ∧ Below w.heap.size w w' := by
  have c : w.cell? ⟨bx, 0, none⟩ = some (.int .i64 j) := h.cell 0
  clear h
  go_enter Try.func34, Try.ntmps34
  go_wp2_with fail
  go_ret
  exact ⟨ret_bool (by rw [Bool.eq_iff_iff]; simp), Below.refl _ _⟩

/-- a word that is told -/
def SS.word (s : SS) (i : Nat) (a : Int) : SW := ⟨(s.told i).r, (s.told i).b, (s.told i).c, (s.told i).p, a, s.ma, s.he, s.de, false, false⟩
structure SO where
  (port : Nat) (w : SW)
def SO.cells (x : SO) : List Value := [.int .i64 (x.port : Nat), .int .u8 ((x.w.r.f 0).toNat : Int), .int .u8 ((x.w.r.f 1).toNat : Int), .int .u8 ((x.w.r.f 2).toNat : Int), .int .u8 ((x.w.r.f 3).toNat : Int), .int .u8 ((x.w.r.f 4).toNat : Int), .int .u8 ((x.w.r.f 5).toNat : Int), .int .u8 ((x.w.r.f 6).toNat : Int), .int .u8 ((x.w.r.f 7).toNat : Int), .int .u8 ((x.w.b.f 0).toNat : Int), .int .u8 ((x.w.b.f 1).toNat : Int), .int .u8 ((x.w.b.f 2).toNat : Int), .int .u8 ((x.w.b.f 3).toNat : Int), .int .u8 ((x.w.b.f 4).toNat : Int), .int .u8 ((x.w.b.f 5).toNat : Int), .int .u8 ((x.w.b.f 6).toNat : Int), .int .u8 ((x.w.b.f 7).toNat : Int), .int .i64 x.w.c, .int .i64 x.w.p, .int .i64 x.w.age, .int .i64 x.w.ma, .int .i64 x.w.he, .int .i64 x.w.de, .bool x.w.ch, .bool x.w.ak]
def SS.tellsF (s : SS) (p : Nat → Bool) (a : Int) : Nat → List SO
  | 0 => []
  | k + 1 => SS.tellsF s p a k ++ (if ((s.port k).role == 2 && p k) = true then [⟨k, s.word k a⟩] else [])
def SS.tells (s : SS) (p : Nat → Bool) : List SO := if s.age.2 then s.tellsF p s.age.1 s.ports.length else []
theorem SS.tellsF_len (s : SS) (p : Nat → Bool) (a : Int) : ∀ k, (s.tellsF p a k).length ≤ k
  | 0 => Nat.le_refl _
  | k + 1 => by
    have := SS.tellsF_len s p a k
    unfold SS.tellsF
    split <;> simp <;> omega

theorem info_out : ∃ i z, Try.prog.info? 47 = some i ∧ i.zero = some z ∧ i.size = 25 ∧ i.bytes = 80 ∧ z.cells.size = 25 := by
  have h : (Try.prog.info? 47).map (fun i => (i.zero.map (·.cells.size), i.size, i.bytes)) = some (some 25, 25, 80) := by kernel_rfl
  obtain ⟨i, hi, h⟩ := Option.map_eq_some_iff.1 h
  simp only [Prod.mk.injEq] at h
  obtain ⟨z, hz, h18⟩ := Option.map_eq_some_iff.1 h.1
  exact ⟨i, z, hi, hz, h.2.1, h.2.2, h18⟩

theorem ownsLater' {w w' : World} {base : Nat} {e : TypeId} {size : Nat} {v : Value} {n : Nat} {xs : List Value} (h : w.ownsRow base e size v n xs) (hb : Below w.heap.size w w') : w'.ownsRow base e size v n xs := by
  refine ⟨h.1, ?_⟩
  rcases h.2 with h | ⟨g, cap, cur, rfl, hg, hc, h⟩
  · exact .inl h
  · exact .inr ⟨g, cap, cur, rfl, hg, (hb.block g (Array.getElem?_eq_some_iff.1 hc).1).trans hc, h⟩

/-- what is told, as a slice -/
def OutAt (w : World) (base : Nat) (v : Value) (outs : List SO) : Prop := ∃ la lc, v = .slice la outs.length lc ∧ w.ownsRow base 47 25 (.slice la outs.length lc) outs.length (outs.flatMap SO.cells)
theorem out_nil (w : World) (base : Nat) : OutAt w base (.slice none 0 0) [] := ⟨none, 0, rfl, World.ownsRow_nil _ _ _ _⟩
theorem OutAt.later {w w' : World} {base : Nat} {v : Value} {outs : List SO} (h : OutAt w base v outs) (hb : Below w.heap.size w w') : OutAt w' base v outs := by
  obtain ⟨la, lc, e, h⟩ := h
  exact ⟨la, lc, e, ownsLater' h hb⟩
theorem out_app {w : World} {base : Nat} {v : Value} {outs : List SO} {x : SO} (h : w.ownsRow base 47 25 v (outs.length + 1) (outs.flatMap SO.cells ++ x.cells)) : OutAt w base v (outs ++ [x]) := by
  obtain ⟨la, lc, rfl⟩ : ∃ la lc, v = .slice la (outs.length + 1) lc := by
    rcases h.2 with ⟨_, e0⟩ | ⟨g', c', _, e', _⟩
    · omega
    · exact ⟨_, _, e'⟩
  refine ⟨la, lc, by simp, ?_⟩
  rw [List.flatMap_append, List.length_append]
  simpa using h

set_option maxRecDepth 20000 in
set_option maxHeartbeats 8000000 in
theorem on_all (B S g cap : Nat) (pbs : List Nat) (w : World) (s : SS) (h : SpAt B S g cap pbs w s) (hp : pbs.length ≤ 1000) (hr : s.RootOk) (ha : s.AgesOk)  :
    Calls Try.prog 29 #[.pointer (some ⟨S, 0, none⟩), .func (.func 30) #[] #[]] w fun e w' => ∃ v, e = .returned v ∧ OutAt w' w.heap.size v (s.tells (fun _ => true)) ∧ Below w.heap.size w w' := by
  have HA := Lib.hid h
  have HA0 := Lib.hid h
  have hlen : s.ports.length = pbs.length := h.len.symm
  have HAG := Lib.hid (age_any B S g cap pbs w s h hp hr ha)
  obtain ⟨ti, tz, hi, hzz, hz1, hz2, hz3⟩ := info_out
  have HI := Lib.hid hi
  have HZ := Lib.hid hzz


  clear h hr ha hi hzz
  go_enter Try.func29, Try.ntmps29
  go_wp2_with fail
  refine HAG.out.mono ?_
  rintro e w1 ⟨rfl, hb1⟩
  have HA1 := Lib.hid (HA.out.later hb1)

  have HF : Hid (s.tells (fun _ => true) = if s.age.2 then s.tellsF (fun _ => true) s.age.1 s.ports.length else []) := rfl
  clear HAG HA
  generalize s.age = ag at *
  obtain ⟨ag, ok⟩ := ag
  simp only at HF
  cases ok
  · have HF : Hid (s.tells (fun _ => true) = []) := HF.out
    go_wp2_with fail
    go_ret
    refine ⟨_, rfl, ?_, hb1⟩
    rw [HF.out]
    exact out_nil _ _
  · have HF : Hid (s.tells (fun _ => true) = s.tellsF (fun _ => true) ag s.ports.length) := HF.out
    have q1 : w1.cell? ⟨S, 11, none⟩ = some (.slice (some ⟨g, 0, none⟩) s.ports.length cap) := HA1.out.row.cell 11
    go_upto_region 6 with fail
    clear q1
    go_loopw [7, 23] (fun s7 s23 wr => ∃ i : Nat, i ≤ s.ports.length ∧ s23 = .int .i64 i ∧ Hid (OutAt wr w.heap.size s7 (s.tellsF (fun _ => true) ag i)) ∧ Hid (SpAt B S g cap pbs wr s) ∧ Below w.heap.size w wr) (fun _ s23 _ => s.ports.length - (intOf s23).toNat)
    case atStart => exact ⟨0, Nat.zero_le _, rfl, out_nil _ _, HA1, hb1⟩
    case round =>
      clear HA1 hb1
      rename World => wr
      obtain ⟨i, hi, rfl, HOUT, HW, hbR⟩ := hrel
      by_cases hlt : i < s.ports.length
      · have hip : i < pbs.length := by omega
        have q0 := HW.out.ptr hip
        have HP := Lib.hid (HW.out.ports i hip).2
        have c27 : wr.cell? ⟨pbs[i], 27, none⟩ = some (.int .i64 (s.port i).role) := HP.out.cell 27
        have HN : Hid (s.tellsF (fun _ => true) ag (i + 1) = s.tellsF (fun _ => true) ag i ++ (if ((s.port i).role == 2 && true) = true then [⟨i, s.word i ag⟩] else [])) := rfl
        have hkl := s.tellsF_len (fun _ => true) ag i
        generalize s.tellsF (fun _ => true) ag i = outs at *
        cases hrl : ((s.port i).role == 2)
        · have hrn : ((s.port i).role != 2) = true := by rw [bne, hrl]; rfl
          rw [hrl] at HN
          have HN : Hid (s.tellsF (fun _ => true) ag (i + 1) = outs ++ []) := HN.out
          go_wp2_with fail
          refine ⟨⟨i + 1, by omega, by go_num, by rw [HN.out, List.append_nil]; exact HOUT, HW, hbR⟩, by simp [intOf]; omega⟩
        · have hrn : ((s.port i).role != 2) = false := by rw [bne, hrl]; rfl
          rw [hrl] at HN
          have HC1 := Lib.hid (all_any i wr)
          have HN : Hid (s.tellsF (fun _ => true) ag (i + 1) = outs ++ [⟨i, s.word i ag⟩]) := HN.out
          go_wp2_with fail
          refine HC1.out.mono ?_
          rintro e w3 ⟨rfl, hb3⟩
          have HOUT3 := Lib.hid (HOUT.out.later hb3)
          have HW3 := Lib.hid (HW.out.later hb3)
          have hbR3 := hbR.trans (hb3.mono hbR.size)

          clear HOUT HW hbR HC1 hb3 q0 c27 HP
          have HT := Lib.hid (told_flat B S g cap pbs w3 s HW3.out i (by omega))
          go_wp2_with fail
          refine HT.out.mono ?_
          rintro e w4 ⟨rfl, hb4⟩
          have HOUT4 := Lib.hid (HOUT3.out.later hb4)
          have HW4 := Lib.hid (HW3.out.later hb4)
          have hbR4 := hbR3.trans (hb4.mono hbR3.size)

          clear HOUT3 HW3 hbR3 HT hb4
          have HX : Hid ((⟨i, s.word i ag⟩ : SO).cells = [.int .i64 (i : Nat), .int .u8 (((s.told i).r.f 0).toNat : Int), .int .u8 (((s.told i).r.f 1).toNat : Int), .int .u8 (((s.told i).r.f 2).toNat : Int), .int .u8 (((s.told i).r.f 3).toNat : Int), .int .u8 (((s.told i).r.f 4).toNat : Int), .int .u8 (((s.told i).r.f 5).toNat : Int), .int .u8 (((s.told i).r.f 6).toNat : Int), .int .u8 (((s.told i).r.f 7).toNat : Int), .int .u8 (((s.told i).b.f 0).toNat : Int), .int .u8 (((s.told i).b.f 1).toNat : Int), .int .u8 (((s.told i).b.f 2).toNat : Int), .int .u8 (((s.told i).b.f 3).toNat : Int), .int .u8 (((s.told i).b.f 4).toNat : Int), .int .u8 (((s.told i).b.f 5).toNat : Int), .int .u8 (((s.told i).b.f 6).toNat : Int), .int .u8 (((s.told i).b.f 7).toNat : Int), .int .i64 (s.told i).c, .int .i64 (s.told i).p, .int .i64 ag, .int .i64 s.ma, .int .i64 s.he, .int .i64 s.de, .bool false, .bool false]) := rfl
          have HXL : Hid (∀ u ∈ (⟨i, s.word i ag⟩ : SO).cells, u.oneCell' = true) := by
            show ∀ u ∈ _, _
            rw [HX.out]
            simp [Value.oneCell']
          have RN : RowIs (w4.alloc (.cells #[.int .u8 0, .int .u8 0, .int .u8 0, .int .u8 0, .int .u8 0, .int .u8 0, .int .u8 0, .int .u8 0, .int .i64 0, .int .u8 0, .int .u8 0, .int .u8 0, .int .u8 0, .int .u8 0, .int .u8 0, .int .u8 0, .int .u8 0, .int .i64 0] 38)) w4.heap.size 38 #[.int .u8 0, .int .u8 0, .int .u8 0, .int .u8 0, .int .u8 0, .int .u8 0, .int .u8 0, .int .u8 0, .int .i64 0, .int .u8 0, .int .u8 0, .int .u8 0, .int .u8 0, .int .u8 0, .int .u8 0, .int .u8 0, .int .u8 0, .int .i64 0] := rowIs_new w4 _ _
          have hbN : Below w4.heap.size w4 (w4.alloc (.cells #[.int .u8 0, .int .u8 0, .int .u8 0, .int .u8 0, .int .u8 0, .int .u8 0, .int .u8 0, .int .u8 0, .int .i64 0, .int .u8 0, .int .u8 0, .int .u8 0, .int .u8 0, .int .u8 0, .int .u8 0, .int .u8 0, .int .u8 0, .int .i64 0] 38)) := (Below.refl _ _).alloc (Nat.le_refl _) _
          generalize s.told i = v at *
          go_wp2_with ((with_reducible refine at_store 38 (.tmp 10) (.tmp 41) ?_); refine wpList_store_own rfl 38 (.tmp 10) (.tmp 41) rfl (w4.heap.size) _ rfl rfl _ _ RN (by kernel_rfl) rfl (by simp [Value.oneCell']) w4.heap.size (Nat.le_refl _) ?_)
          intro w5 hR5 ho5 hs5 hb5
          have R5 := Lib.hid hR5
          have hb5 := hbN.trans hb5
          have HOUT5 := Lib.hid (HOUT4.out.later hb5)
          have HW5 := Lib.hid (HW4.out.later hb5)
          have hbR5 := hbR4.trans (hb5.mono hbR4.size)

          clear HOUT4 HW4 hbR4 hb5 ho5 hs5 hbN RN hR5
          have k8 := cell_regrown (show w5.cell? ⟨S, 8, none⟩ = some (.int .i64 s.ma) from HW5.out.row.cell 8)
          have k9 := cell_regrown (show w5.cell? ⟨S, 9, none⟩ = some (.int .i64 s.he) from HW5.out.row.cell 9)
          have k10 := cell_regrown (show w5.cell? ⟨S, 10, none⟩ = some (.int .i64 s.de) from HW5.out.row.cell 10)
          have l8 := cell_regrown (show w5.cell? ⟨w4.heap.size, 8, none⟩ = some (.int .i64 v.c) from R5.out.cell 8)
          have l17 := cell_regrown (show w5.cell? ⟨w4.heap.size, 17, none⟩ = some (.int .i64 v.p) from R5.out.cell 17)
          generalize w4.heap.size = vb at *
          go_upto_region 10 with fail
          refine wp_region_mix 29 (by kernel_rfl) (by kernel_rfl) (by kernel_rfl) ?_
          (refine mix_step (by kernel_rfl) (by kernel_rfl) (fun K hK => ?_); go_simp; (try (simp only [↓IntWalk.iteOmega]; go_simp)); (first | (refine hK _ ?_; clear hK K) | (apply Exists.intro; refine ⟨fun _ => ?_, hK _ ?_⟩; (first | fail); clear hK K)))
          (refine mix_step (by kernel_rfl) (by kernel_rfl) (fun K hK => ?_); go_simp; (try (simp only [↓IntWalk.iteOmega]; go_simp)); (first | (refine hK _ ?_; clear hK K) | (apply Exists.intro; refine ⟨fun _ => ?_, hK _ ?_⟩; (first | fail); clear hK K)))
          (refine mix_step (by kernel_rfl) (by kernel_rfl) (fun K hK => ?_); go_simp; (try (simp only [↓IntWalk.iteOmega]; go_simp)); (first | (refine hK _ ?_; clear hK K) | (apply Exists.intro; refine ⟨fun _ => ?_, hK _ ?_⟩; (first | fail); clear hK K)))
          refine mix_exact (.agg #[.int .u8 ((v.r.f 0).toNat : Int), .int .u8 ((v.r.f 1).toNat : Int), .int .u8 ((v.r.f 2).toNat : Int), .int .u8 ((v.r.f 3).toNat : Int), .int .u8 ((v.r.f 4).toNat : Int), .int .u8 ((v.r.f 5).toNat : Int), .int .u8 ((v.r.f 6).toNat : Int), .int .u8 ((v.r.f 7).toNat : Int)]) rfl (exact_load_mid (sub := [.int .u8 ((v.r.f 0).toNat : Int), .int .u8 ((v.r.f 1).toNat : Int), .int .u8 ((v.r.f 2).toNat : Int), .int .u8 ((v.r.f 3).toNat : Int), .int .u8 ((v.r.f 4).toNat : Int), .int .u8 ((v.r.f 5).toNat : Int), .int .u8 ((v.r.f 6).toNat : Int), .int .u8 ((v.r.f 7).toNat : Int)]) rfl rfl (by simp) R5.out rfl Try.underlying23 rfl (by kernel_rfl)) ?_
          (refine mix_step (by kernel_rfl) (by kernel_rfl) (fun K hK => ?_); go_simp; (try (simp only [↓IntWalk.iteOmega]; go_simp)); (first | (refine hK _ ?_; clear hK K) | (apply Exists.intro; refine ⟨fun _ => ?_, hK _ ?_⟩; (first | fail); clear hK K)))
          refine mix_exact (.agg #[.int .u8 ((v.b.f 0).toNat : Int), .int .u8 ((v.b.f 1).toNat : Int), .int .u8 ((v.b.f 2).toNat : Int), .int .u8 ((v.b.f 3).toNat : Int), .int .u8 ((v.b.f 4).toNat : Int), .int .u8 ((v.b.f 5).toNat : Int), .int .u8 ((v.b.f 6).toNat : Int), .int .u8 ((v.b.f 7).toNat : Int)]) rfl (exact_load_mid (sub := [.int .u8 ((v.b.f 0).toNat : Int), .int .u8 ((v.b.f 1).toNat : Int), .int .u8 ((v.b.f 2).toNat : Int), .int .u8 ((v.b.f 3).toNat : Int), .int .u8 ((v.b.f 4).toNat : Int), .int .u8 ((v.b.f 5).toNat : Int), .int .u8 ((v.b.f 6).toNat : Int), .int .u8 ((v.b.f 7).toNat : Int)]) rfl rfl (by simp) R5.out rfl Try.underlying23 rfl (by kernel_rfl)) ?_
          (refine mix_step (by kernel_rfl) (by kernel_rfl) (fun K hK => ?_); go_simp; (try (simp only [↓IntWalk.iteOmega]; go_simp)); (first | (refine hK _ ?_; clear hK K) | (apply Exists.intro; refine ⟨fun _ => ?_, hK _ ?_⟩; (first | fail); clear hK K)))
          (refine mix_step (by kernel_rfl) (by kernel_rfl) (fun K hK => ?_); go_simp; (try (simp only [↓IntWalk.iteOmega]; go_simp)); (first | (refine hK _ ?_; clear hK K) | (apply Exists.intro; refine ⟨fun _ => ?_, hK _ ?_⟩; (first | fail); clear hK K)))
          (refine mix_step (by kernel_rfl) (by kernel_rfl) (fun K hK => ?_); go_simp; (try (simp only [↓IntWalk.iteOmega]; go_simp)); (first | (refine hK _ ?_; clear hK K) | (apply Exists.intro; refine ⟨fun _ => ?_, hK _ ?_⟩; (first | fail); clear hK K)))
          (refine mix_step (by kernel_rfl) (by kernel_rfl) (fun K hK => ?_); go_simp; (try (simp only [↓IntWalk.iteOmega]; go_simp)); (first | (refine hK _ ?_; clear hK K) | (apply Exists.intro; refine ⟨fun _ => ?_, hK _ ?_⟩; (first | fail); clear hK K)))
          (refine mix_step (by kernel_rfl) (by kernel_rfl) (fun K hK => ?_); go_simp; (try (simp only [↓IntWalk.iteOmega]; go_simp)); (first | (refine hK _ ?_; clear hK K) | (apply Exists.intro; refine ⟨fun _ => ?_, hK _ ?_⟩; (first | fail); clear hK K)))
          (refine mix_step (by kernel_rfl) (by kernel_rfl) (fun K hK => ?_); go_simp; (try (simp only [↓IntWalk.iteOmega]; go_simp)); (first | (refine hK _ ?_; clear hK K) | (apply Exists.intro; refine ⟨fun _ => ?_, hK _ ?_⟩; (first | fail); clear hK K)))
          (refine mix_step (by kernel_rfl) (by kernel_rfl) (fun K hK => ?_); go_simp; (try (simp only [↓IntWalk.iteOmega]; go_simp)); (first | (refine hK _ ?_; clear hK K) | (apply Exists.intro; refine ⟨fun _ => ?_, hK _ ?_⟩; (first | fail); clear hK K)))
          (refine mix_step (by kernel_rfl) (by kernel_rfl) (fun K hK => ?_); go_simp; (try (simp only [↓IntWalk.iteOmega]; go_simp)); (first | (refine hK _ ?_; clear hK K) | (apply Exists.intro; refine ⟨fun _ => ?_, hK _ ?_⟩; (first | fail); clear hK K)))
          (refine mix_step (by kernel_rfl) (by kernel_rfl) (fun K hK => ?_); go_simp; (try (simp only [↓IntWalk.iteOmega]; go_simp)); (first | (refine hK _ ?_; clear hK K) | (apply Exists.intro; refine ⟨fun _ => ?_, hK _ ?_⟩; (first | fail); clear hK K)))
          (refine mix_step (by kernel_rfl) (by kernel_rfl) (fun K hK => ?_); go_simp; (try (simp only [↓IntWalk.iteOmega]; go_simp)); (first | (refine hK _ ?_; clear hK K) | (apply Exists.intro; refine ⟨fun _ => ?_, hK _ ?_⟩; (first | fail); clear hK K)))
          (refine mix_step (by kernel_rfl) (by kernel_rfl) (fun K hK => ?_); go_simp; (try (simp only [↓IntWalk.iteOmega]; go_simp)); (first | (refine hK _ ?_; clear hK K) | (apply Exists.intro; refine ⟨fun _ => ?_, hK _ ?_⟩; (first | fail); clear hK K)))
          (refine mix_step (by kernel_rfl) (by kernel_rfl) (fun K hK => ?_); go_simp; (try (simp only [↓IntWalk.iteOmega]; go_simp)); (first | (refine hK _ ?_; clear hK K) | (apply Exists.intro; refine ⟨fun _ => ?_, hK _ ?_⟩; (first | fail); clear hK K)))
          (refine mix_step (by kernel_rfl) (by kernel_rfl) (fun K hK => ?_); go_simp; (try (simp only [↓IntWalk.iteOmega]; go_simp)); (first | (refine hK _ ?_; clear hK K) | (apply Exists.intro; refine ⟨fun _ => ?_, hK _ ?_⟩; (first | fail); clear hK K)))
          (refine mix_step (by kernel_rfl) (by kernel_rfl) (fun K hK => ?_); go_simp; (try (simp only [↓IntWalk.iteOmega]; go_simp)); (first | (refine hK _ ?_; clear hK K) | (apply Exists.intro; refine ⟨fun _ => ?_, hK _ ?_⟩; (first | fail); clear hK K)))
          (refine mix_step (by kernel_rfl) (by kernel_rfl) (fun K hK => ?_); go_simp; (try (simp only [↓IntWalk.iteOmega]; go_simp)); (first | (refine hK _ ?_; clear hK K) | (apply Exists.intro; refine ⟨fun _ => ?_, hK _ ?_⟩; (first | fail); clear hK K)))
          (refine mix_step (by kernel_rfl) (by kernel_rfl) (fun K hK => ?_); go_simp; (try (simp only [↓IntWalk.iteOmega]; go_simp)); (first | (refine hK _ ?_; clear hK K) | (apply Exists.intro; refine ⟨fun _ => ?_, hK _ ?_⟩; (first | fail); clear hK K)))
          (refine mix_step (by kernel_rfl) (by kernel_rfl) (fun K hK => ?_); go_simp; (try (simp only [↓IntWalk.iteOmega]; go_simp)); (first | (refine hK _ ?_; clear hK K) | (apply Exists.intro; refine ⟨fun _ => ?_, hK _ ?_⟩; (first | fail); clear hK K)))
          (refine mix_step (by kernel_rfl) (by kernel_rfl) (fun K hK => ?_); go_simp; (try (simp only [↓IntWalk.iteOmega]; go_simp)); (first | (refine hK _ ?_; clear hK K) | (apply Exists.intro; refine ⟨fun _ => ?_, hK _ ?_⟩; (first | fail); clear hK K)))
          (refine mix_step (by kernel_rfl) (by kernel_rfl) (fun K hK => ?_); go_simp; (try (simp only [↓IntWalk.iteOmega]; go_simp)); (first | (refine hK _ ?_; clear hK K) | (apply Exists.intro; refine ⟨fun _ => ?_, hK _ ?_⟩; (first | fail); clear hK K)))
          (refine mix_step (by kernel_rfl) (by kernel_rfl) (fun K hK => ?_); go_simp; (try (simp only [↓IntWalk.iteOmega]; go_simp)); (first | (refine hK _ ?_; clear hK K) | (apply Exists.intro; refine ⟨fun _ => ?_, hK _ ?_⟩; (first | fail); clear hK K)))
          (refine mix_step (by kernel_rfl) (by kernel_rfl) (fun K hK => ?_); go_simp; (try (simp only [↓IntWalk.iteOmega]; go_simp)); (first | (refine hK _ ?_; clear hK K) | (apply Exists.intro; refine ⟨fun _ => ?_, hK _ ?_⟩; (first | fail); clear hK K)))
          (refine mix_step (by kernel_rfl) (by kernel_rfl) (fun K hK => ?_); go_simp; (try (simp only [↓IntWalk.iteOmega]; go_simp)); (first | (refine hK _ ?_; clear hK K) | (apply Exists.intro; refine ⟨fun _ => ?_, hK _ ?_⟩; (first | fail); clear hK K)))
          refine mix_special _ 70 rfl rfl (stable_row _ _ _ _) (owes_buildSlice (cells := #[.int .i64 (i : Nat), .int .u8 ((v.r.f 0).toNat : Int), .int .u8 ((v.r.f 1).toNat : Int), .int .u8 ((v.r.f 2).toNat : Int), .int .u8 ((v.r.f 3).toNat : Int), .int .u8 ((v.r.f 4).toNat : Int), .int .u8 ((v.r.f 5).toNat : Int), .int .u8 ((v.r.f 6).toNat : Int), .int .u8 ((v.r.f 7).toNat : Int), .int .u8 ((v.b.f 0).toNat : Int), .int .u8 ((v.b.f 1).toNat : Int), .int .u8 ((v.b.f 2).toNat : Int), .int .u8 ((v.b.f 3).toNat : Int), .int .u8 ((v.b.f 4).toNat : Int), .int .u8 ((v.b.f 5).toNat : Int), .int .u8 ((v.b.f 6).toNat : Int), .int .u8 ((v.b.f 7).toNat : Int), .int .i64 v.c, .int .i64 v.p, .int .i64 ag, .int .i64 s.ma, .int .i64 s.he, .int .i64 s.de, .bool false, .bool false]) rfl (by simp) Try.underlying33 (sz := 25) (z := .agg #[.int .i64 0, .int .u8 0, .int .u8 0, .int .u8 0, .int .u8 0, .int .u8 0, .int .u8 0, .int .u8 0, .int .u8 0, .int .u8 0, .int .u8 0, .int .u8 0, .int .u8 0, .int .u8 0, .int .u8 0, .int .u8 0, .int .u8 0, .int .i64 0, .int .i64 0, .int .i64 0, .int .i64 0, .int .i64 0, .int .i64 0, .bool false, .bool false]) (by kernel_rfl) (by decide) (by decide) (by kernel_rfl)) ?_
          refine mix_nil ?_
          rintro ⟨dq, osq⟩
          have hb6 := below_regrown w5 dq osq
          rintro u70 ⟨b70, rfl, hB70, hR70⟩
          have R70 := Lib.hid hR70
          have HOUT6 := Lib.hid (HOUT5.out.later hb6)
          have HW6 := Lib.hid (HW5.out.later hb6)
          have hbR6 := hbR5.trans (hb6.mono hbR5.size)

          clear HOUT5 HW5 hbR5 hR70 k8 k9 k10 l8 l17 R5 hB70 hb6
          generalize grow (redrawn w5 dq) osq = w6 at *
          have hbase : w.heap.size ≤ w6.heap.size := hbR6.size
          generalize (⟨i, s.word i ag⟩ : SO) = x at *
          obtain ⟨la, lc, rfl, HO⟩ := HOUT6.out
          have HO6 := Lib.hid HO
          clear HO HOUT6
          refine (show wpList _ _ _ _ _ _ from ?_)
          simp only [List.drop, Act.put, List.setIfInBounds_toArray, List.set]
          go_wp2_with (at_builtin; refine wpList_append_own _ rfl (.tmp 42) (.tmp 70) 33 rfl w.heap.size 47 ti tz 25 80 Try.underlying33 HI.out HZ.out hz1 hz2 hz3 (by decide) _ outs.length _ rfl HO6.out ⟨b70, 0, none⟩ 1 1 x.cells rfl ?c0 ?c1 ?c2 ?c3 ?c4 ?c5 ?_)
          case c0 => rw [HX.out]; rfl
          case c1 =>
            intro j u hj
            rw [HX.out] at hj
            rw [addr_add, R70.out.cell j, ← Array.getElem?_toList]
            exact hj
          case c2 => exact HXL.out
          case c3 => simp [maxLen]; omega
          case c4 => omega
          case c5 => exact hbase
          intro v' w7 ho7 hg7 _
          have HO7 := Lib.hid (out_app ho7)
          have hbAP : Below w.heap.size w6 w7 := (Below.refl _ w6).grown hg7 hbase (fun k e1 => (HO6.out.lt k e1).1)
          have hbR7 := hbR6.trans hbAP
          have HW7 := Lib.hid (HA0.out.later hbR7)

          clear ho7 hg7 hbAP hbR6 HO6 HW6 HX HXL HI HZ
          go_wp2_with fail
          refine ⟨⟨i + 1, by omega, by go_num, by rw [HN.out]; exact HO7, HW7, hbR7⟩, by simp [intOf]; omega⟩
      · obtain rfl : i = s.ports.length := by omega
        go_wp2_with fail
        go_ret
        exact ⟨_, rfl, by rw [HF.out]; exact HOUT.out, hbR⟩

set_option maxRecDepth 20000 in
set_option maxHeartbeats 8000000 in
theorem on_only (B S g cap : Nat) (pbs : List Nat) (w : World) (s : SS) (h : SpAt B S g cap pbs w s) (hp : pbs.length ≤ 1000) (hr : s.RootOk) (ha : s.AgesOk) (bx : Nat) (j : Int) (hbx : RowIs w bx 3 #[.int .i64 j]) :
    Calls Try.prog 29 #[.pointer (some ⟨S, 0, none⟩), .func (.func 34) #[] #[.pointer (some ⟨bx, 0, none⟩)]] w fun e w' => ∃ v, e = .returned v ∧ OutAt w' w.heap.size v (s.tells (fun k => decide ((k : Int) = j))) ∧ Below w.heap.size w w' := by
  have HA := Lib.hid h
  have HA0 := Lib.hid h
  have hlen : s.ports.length = pbs.length := h.len.symm
  have HAG := Lib.hid (age_any B S g cap pbs w s h hp hr ha)
  obtain ⟨ti, tz, hi, hzz, hz1, hz2, hz3⟩ := info_out
  have HI := Lib.hid hi
  have HZ := Lib.hid hzz
  have HBX := Lib.hid hbx
  have HBX0 := Lib.hid hbx
  clear h hr ha hi hzz hbx
  go_enter Try.func29, Try.ntmps29
  go_wp2_with fail
  refine HAG.out.mono ?_
  rintro e w1 ⟨rfl, hb1⟩
  have HA1 := Lib.hid (HA.out.later hb1)
  have HBX1 := Lib.hid (HBX.out.kept hb1)
  have HF : Hid (s.tells (fun k => decide ((k : Int) = j)) = if s.age.2 then s.tellsF (fun k => decide ((k : Int) = j)) s.age.1 s.ports.length else []) := rfl
  clear HAG HA HBX
  generalize s.age = ag at *
  obtain ⟨ag, ok⟩ := ag
  simp only at HF
  cases ok
  · have HF : Hid (s.tells (fun k => decide ((k : Int) = j)) = []) := HF.out
    go_wp2_with fail
    go_ret
    refine ⟨_, rfl, ?_, hb1⟩
    rw [HF.out]
    exact out_nil _ _
  · have HF : Hid (s.tells (fun k => decide ((k : Int) = j)) = s.tellsF (fun k => decide ((k : Int) = j)) ag s.ports.length) := HF.out
    have q1 : w1.cell? ⟨S, 11, none⟩ = some (.slice (some ⟨g, 0, none⟩) s.ports.length cap) := HA1.out.row.cell 11
    go_upto_region 6 with fail
    clear q1
    go_loopw [7, 23] (fun s7 s23 wr => ∃ i : Nat, i ≤ s.ports.length ∧ s23 = .int .i64 i ∧ Hid (OutAt wr w.heap.size s7 (s.tellsF (fun k => decide ((k : Int) = j)) ag i)) ∧ Hid (SpAt B S g cap pbs wr s) ∧ Below w.heap.size w wr ∧ Hid (RowIs wr bx 3 #[.int .i64 j])) (fun _ s23 _ => s.ports.length - (intOf s23).toNat)
    case atStart => exact ⟨0, Nat.zero_le _, rfl, out_nil _ _, HA1, hb1, HBX1⟩
    case round =>
      clear HA1 hb1 HBX1
      rename World => wr
      obtain ⟨i, hi, rfl, HOUT, HW, hbR, HBX⟩ := hrel
      by_cases hlt : i < s.ports.length
      · have hip : i < pbs.length := by omega
        have q0 := HW.out.ptr hip
        have HP := Lib.hid (HW.out.ports i hip).2
        have c27 : wr.cell? ⟨pbs[i], 27, none⟩ = some (.int .i64 (s.port i).role) := HP.out.cell 27
        have HN : Hid (s.tellsF (fun k => decide ((k : Int) = j)) ag (i + 1) = s.tellsF (fun k => decide ((k : Int) = j)) ag i ++ (if ((s.port i).role == 2 && decide ((i : Int) = j)) = true then [⟨i, s.word i ag⟩] else [])) := rfl
        have hkl := s.tellsF_len (fun k => decide ((k : Int) = j)) ag i
        generalize s.tellsF (fun k => decide ((k : Int) = j)) ag i = outs at *
        cases hrl : ((s.port i).role == 2)
        · have hrn : ((s.port i).role != 2) = true := by rw [bne, hrl]; rfl
          rw [hrl] at HN
          have HN : Hid (s.tellsF (fun k => decide ((k : Int) = j)) ag (i + 1) = outs ++ []) := HN.out
          go_wp2_with fail
          refine ⟨⟨i + 1, by omega, by go_num, by rw [HN.out, List.append_nil]; exact HOUT, HW, hbR, HBX⟩, by simp [intOf]; omega⟩
        · have hrn : ((s.port i).role != 2) = false := by rw [bne, hrl]; rfl
          rw [hrl] at HN
          have HC1 := Lib.hid (only_any bx j wr HBX.out i)
          cases hij : decide ((i : Int) = j)
          · rw [hij] at HN HC1
            have HN : Hid (s.tellsF (fun k => decide ((k : Int) = j)) ag (i + 1) = outs ++ []) := HN.out
            have hij' := hij
            clear hij
            go_wp2_with fail
            refine HC1.out.mono ?_
            rintro e w3 ⟨rfl, hb3⟩
            have HOUT3 := Lib.hid (HOUT.out.later hb3)
            have HW3 := Lib.hid (HW.out.later hb3)
            have hbR3 := hbR.trans (hb3.mono hbR.size)
            have HBX3 := Lib.hid (HBX.out.kept hb3)
            clear HOUT HW hbR HBX HC1 hb3 q0 c27 HP
            go_wp2_with fail
            refine ⟨⟨i + 1, by omega, by go_num, by rw [HN.out, List.append_nil]; exact HOUT3, HW3, hbR3, HBX3⟩, by simp [intOf]; omega⟩
          · rw [hij] at HN HC1
            clear hij
            have HN : Hid (s.tellsF (fun k => decide ((k : Int) = j)) ag (i + 1) = outs ++ [⟨i, s.word i ag⟩]) := HN.out
            go_wp2_with fail
            refine HC1.out.mono ?_
            rintro e w3 ⟨rfl, hb3⟩
            have HOUT3 := Lib.hid (HOUT.out.later hb3)
            have HW3 := Lib.hid (HW.out.later hb3)
            have hbR3 := hbR.trans (hb3.mono hbR.size)
            have HBX3 := Lib.hid (HBX.out.kept hb3)
            clear HOUT HW hbR HC1 hb3 q0 c27 HP HBX
            have HT := Lib.hid (told_flat B S g cap pbs w3 s HW3.out i (by omega))
            go_wp2_with fail
            refine HT.out.mono ?_
            rintro e w4 ⟨rfl, hb4⟩
            have HOUT4 := Lib.hid (HOUT3.out.later hb4)
            have HW4 := Lib.hid (HW3.out.later hb4)
            have hbR4 := hbR3.trans (hb4.mono hbR3.size)
            have HBX4 := Lib.hid (HBX3.out.kept hb4)
            clear HOUT3 HW3 hbR3 HT hb4 HBX3
            have HX : Hid ((⟨i, s.word i ag⟩ : SO).cells = [.int .i64 (i : Nat), .int .u8 (((s.told i).r.f 0).toNat : Int), .int .u8 (((s.told i).r.f 1).toNat : Int), .int .u8 (((s.told i).r.f 2).toNat : Int), .int .u8 (((s.told i).r.f 3).toNat : Int), .int .u8 (((s.told i).r.f 4).toNat : Int), .int .u8 (((s.told i).r.f 5).toNat : Int), .int .u8 (((s.told i).r.f 6).toNat : Int), .int .u8 (((s.told i).r.f 7).toNat : Int), .int .u8 (((s.told i).b.f 0).toNat : Int), .int .u8 (((s.told i).b.f 1).toNat : Int), .int .u8 (((s.told i).b.f 2).toNat : Int), .int .u8 (((s.told i).b.f 3).toNat : Int), .int .u8 (((s.told i).b.f 4).toNat : Int), .int .u8 (((s.told i).b.f 5).toNat : Int), .int .u8 (((s.told i).b.f 6).toNat : Int), .int .u8 (((s.told i).b.f 7).toNat : Int), .int .i64 (s.told i).c, .int .i64 (s.told i).p, .int .i64 ag, .int .i64 s.ma, .int .i64 s.he, .int .i64 s.de, .bool false, .bool false]) := rfl
            have HXL : Hid (∀ u ∈ (⟨i, s.word i ag⟩ : SO).cells, u.oneCell' = true) := by
              show ∀ u ∈ _, _
              rw [HX.out]
              simp [Value.oneCell']
            have RN : RowIs (w4.alloc (.cells #[.int .u8 0, .int .u8 0, .int .u8 0, .int .u8 0, .int .u8 0, .int .u8 0, .int .u8 0, .int .u8 0, .int .i64 0, .int .u8 0, .int .u8 0, .int .u8 0, .int .u8 0, .int .u8 0, .int .u8 0, .int .u8 0, .int .u8 0, .int .i64 0] 38)) w4.heap.size 38 #[.int .u8 0, .int .u8 0, .int .u8 0, .int .u8 0, .int .u8 0, .int .u8 0, .int .u8 0, .int .u8 0, .int .i64 0, .int .u8 0, .int .u8 0, .int .u8 0, .int .u8 0, .int .u8 0, .int .u8 0, .int .u8 0, .int .u8 0, .int .i64 0] := rowIs_new w4 _ _
            have hbN : Below w4.heap.size w4 (w4.alloc (.cells #[.int .u8 0, .int .u8 0, .int .u8 0, .int .u8 0, .int .u8 0, .int .u8 0, .int .u8 0, .int .u8 0, .int .i64 0, .int .u8 0, .int .u8 0, .int .u8 0, .int .u8 0, .int .u8 0, .int .u8 0, .int .u8 0, .int .u8 0, .int .i64 0] 38)) := (Below.refl _ _).alloc (Nat.le_refl _) _
            generalize s.told i = v at *
            go_wp2_with ((with_reducible refine at_store 38 (.tmp 10) (.tmp 41) ?_); refine wpList_store_own rfl 38 (.tmp 10) (.tmp 41) rfl (w4.heap.size) _ rfl rfl _ _ RN (by kernel_rfl) rfl (by simp [Value.oneCell']) w4.heap.size (Nat.le_refl _) ?_)
            intro w5 hR5 ho5 hs5 hb5
            have R5 := Lib.hid hR5
            have hb5 := hbN.trans hb5
            have HOUT5 := Lib.hid (HOUT4.out.later hb5)
            have HW5 := Lib.hid (HW4.out.later hb5)
            have hbR5 := hbR4.trans (hb5.mono hbR4.size)
            have HBX5 := Lib.hid (HBX4.out.kept hb5)
            clear HOUT4 HW4 hbR4 hb5 ho5 hs5 hbN RN hR5 HBX4
            have k8 := cell_regrown (show w5.cell? ⟨S, 8, none⟩ = some (.int .i64 s.ma) from HW5.out.row.cell 8)
            have k9 := cell_regrown (show w5.cell? ⟨S, 9, none⟩ = some (.int .i64 s.he) from HW5.out.row.cell 9)
            have k10 := cell_regrown (show w5.cell? ⟨S, 10, none⟩ = some (.int .i64 s.de) from HW5.out.row.cell 10)
            have l8 := cell_regrown (show w5.cell? ⟨w4.heap.size, 8, none⟩ = some (.int .i64 v.c) from R5.out.cell 8)
            have l17 := cell_regrown (show w5.cell? ⟨w4.heap.size, 17, none⟩ = some (.int .i64 v.p) from R5.out.cell 17)
            generalize w4.heap.size = vb at *
            go_upto_region 10 with fail
            refine wp_region_mix 29 (by kernel_rfl) (by kernel_rfl) (by kernel_rfl) ?_
            (refine mix_step (by kernel_rfl) (by kernel_rfl) (fun K hK => ?_); go_simp; (try (simp only [↓IntWalk.iteOmega]; go_simp)); (first | (refine hK _ ?_; clear hK K) | (apply Exists.intro; refine ⟨fun _ => ?_, hK _ ?_⟩; (first | fail); clear hK K)))
            (refine mix_step (by kernel_rfl) (by kernel_rfl) (fun K hK => ?_); go_simp; (try (simp only [↓IntWalk.iteOmega]; go_simp)); (first | (refine hK _ ?_; clear hK K) | (apply Exists.intro; refine ⟨fun _ => ?_, hK _ ?_⟩; (first | fail); clear hK K)))
            (refine mix_step (by kernel_rfl) (by kernel_rfl) (fun K hK => ?_); go_simp; (try (simp only [↓IntWalk.iteOmega]; go_simp)); (first | (refine hK _ ?_; clear hK K) | (apply Exists.intro; refine ⟨fun _ => ?_, hK _ ?_⟩; (first | fail); clear hK K)))
            refine mix_exact (.agg #[.int .u8 ((v.r.f 0).toNat : Int), .int .u8 ((v.r.f 1).toNat : Int), .int .u8 ((v.r.f 2).toNat : Int), .int .u8 ((v.r.f 3).toNat : Int), .int .u8 ((v.r.f 4).toNat : Int), .int .u8 ((v.r.f 5).toNat : Int), .int .u8 ((v.r.f 6).toNat : Int), .int .u8 ((v.r.f 7).toNat : Int)]) rfl (exact_load_mid (sub := [.int .u8 ((v.r.f 0).toNat : Int), .int .u8 ((v.r.f 1).toNat : Int), .int .u8 ((v.r.f 2).toNat : Int), .int .u8 ((v.r.f 3).toNat : Int), .int .u8 ((v.r.f 4).toNat : Int), .int .u8 ((v.r.f 5).toNat : Int), .int .u8 ((v.r.f 6).toNat : Int), .int .u8 ((v.r.f 7).toNat : Int)]) rfl rfl (by simp) R5.out rfl Try.underlying23 rfl (by kernel_rfl)) ?_
            (refine mix_step (by kernel_rfl) (by kernel_rfl) (fun K hK => ?_); go_simp; (try (simp only [↓IntWalk.iteOmega]; go_simp)); (first | (refine hK _ ?_; clear hK K) | (apply Exists.intro; refine ⟨fun _ => ?_, hK _ ?_⟩; (first | fail); clear hK K)))
            refine mix_exact (.agg #[.int .u8 ((v.b.f 0).toNat : Int), .int .u8 ((v.b.f 1).toNat : Int), .int .u8 ((v.b.f 2).toNat : Int), .int .u8 ((v.b.f 3).toNat : Int), .int .u8 ((v.b.f 4).toNat : Int), .int .u8 ((v.b.f 5).toNat : Int), .int .u8 ((v.b.f 6).toNat : Int), .int .u8 ((v.b.f 7).toNat : Int)]) rfl (exact_load_mid (sub := [.int .u8 ((v.b.f 0).toNat : Int), .int .u8 ((v.b.f 1).toNat : Int), .int .u8 ((v.b.f 2).toNat : Int), .int .u8 ((v.b.f 3).toNat : Int), .int .u8 ((v.b.f 4).toNat : Int), .int .u8 ((v.b.f 5).toNat : Int), .int .u8 ((v.b.f 6).toNat : Int), .int .u8 ((v.b.f 7).toNat : Int)]) rfl rfl (by simp) R5.out rfl Try.underlying23 rfl (by kernel_rfl)) ?_
            (refine mix_step (by kernel_rfl) (by kernel_rfl) (fun K hK => ?_); go_simp; (try (simp only [↓IntWalk.iteOmega]; go_simp)); (first | (refine hK _ ?_; clear hK K) | (apply Exists.intro; refine ⟨fun _ => ?_, hK _ ?_⟩; (first | fail); clear hK K)))
            (refine mix_step (by kernel_rfl) (by kernel_rfl) (fun K hK => ?_); go_simp; (try (simp only [↓IntWalk.iteOmega]; go_simp)); (first | (refine hK _ ?_; clear hK K) | (apply Exists.intro; refine ⟨fun _ => ?_, hK _ ?_⟩; (first | fail); clear hK K)))
            (refine mix_step (by kernel_rfl) (by kernel_rfl) (fun K hK => ?_); go_simp; (try (simp only [↓IntWalk.iteOmega]; go_simp)); (first | (refine hK _ ?_; clear hK K) | (apply Exists.intro; refine ⟨fun _ => ?_, hK _ ?_⟩; (first | fail); clear hK K)))
            (refine mix_step (by kernel_rfl) (by kernel_rfl) (fun K hK => ?_); go_simp; (try (simp only [↓IntWalk.iteOmega]; go_simp)); (first | (refine hK _ ?_; clear hK K) | (apply Exists.intro; refine ⟨fun _ => ?_, hK _ ?_⟩; (first | fail); clear hK K)))
            (refine mix_step (by kernel_rfl) (by kernel_rfl) (fun K hK => ?_); go_simp; (try (simp only [↓IntWalk.iteOmega]; go_simp)); (first | (refine hK _ ?_; clear hK K) | (apply Exists.intro; refine ⟨fun _ => ?_, hK _ ?_⟩; (first | fail); clear hK K)))
            (refine mix_step (by kernel_rfl) (by kernel_rfl) (fun K hK => ?_); go_simp; (try (simp only [↓IntWalk.iteOmega]; go_simp)); (first | (refine hK _ ?_; clear hK K) | (apply Exists.intro; refine ⟨fun _ => ?_, hK _ ?_⟩; (first | fail); clear hK K)))
            (refine mix_step (by kernel_rfl) (by kernel_rfl) (fun K hK => ?_); go_simp; (try (simp only [↓IntWalk.iteOmega]; go_simp)); (first | (refine hK _ ?_; clear hK K) | (apply Exists.intro; refine ⟨fun _ => ?_, hK _ ?_⟩; (first | fail); clear hK K)))
            (refine mix_step (by kernel_rfl) (by kernel_rfl) (fun K hK => ?_); go_simp; (try (simp only [↓IntWalk.iteOmega]; go_simp)); (first | (refine hK _ ?_; clear hK K) | (apply Exists.intro; refine ⟨fun _ => ?_, hK _ ?_⟩; (first | fail); clear hK K)))
            (refine mix_step (by kernel_rfl) (by kernel_rfl) (fun K hK => ?_); go_simp; (try (simp only [↓IntWalk.iteOmega]; go_simp)); (first | (refine hK _ ?_; clear hK K) | (apply Exists.intro; refine ⟨fun _ => ?_, hK _ ?_⟩; (first | fail); clear hK K)))
            (refine mix_step (by kernel_rfl) (by kernel_rfl) (fun K hK => ?_); go_simp; (try (simp only [↓IntWalk.iteOmega]; go_simp)); (first | (refine hK _ ?_; clear hK K) | (apply Exists.intro; refine ⟨fun _ => ?_, hK _ ?_⟩; (first | fail); clear hK K)))
            (refine mix_step (by kernel_rfl) (by kernel_rfl) (fun K hK => ?_); go_simp; (try (simp only [↓IntWalk.iteOmega]; go_simp)); (first | (refine hK _ ?_; clear hK K) | (apply Exists.intro; refine ⟨fun _ => ?_, hK _ ?_⟩; (first | fail); clear hK K)))
            (refine mix_step (by kernel_rfl) (by kernel_rfl) (fun K hK => ?_); go_simp; (try (simp only [↓IntWalk.iteOmega]; go_simp)); (first | (refine hK _ ?_; clear hK K) | (apply Exists.intro; refine ⟨fun _ => ?_, hK _ ?_⟩; (first | fail); clear hK K)))
            (refine mix_step (by kernel_rfl) (by kernel_rfl) (fun K hK => ?_); go_simp; (try (simp only [↓IntWalk.iteOmega]; go_simp)); (first | (refine hK _ ?_; clear hK K) | (apply Exists.intro; refine ⟨fun _ => ?_, hK _ ?_⟩; (first | fail); clear hK K)))
            (refine mix_step (by kernel_rfl) (by kernel_rfl) (fun K hK => ?_); go_simp; (try (simp only [↓IntWalk.iteOmega]; go_simp)); (first | (refine hK _ ?_; clear hK K) | (apply Exists.intro; refine ⟨fun _ => ?_, hK _ ?_⟩; (first | fail); clear hK K)))
            (refine mix_step (by kernel_rfl) (by kernel_rfl) (fun K hK => ?_); go_simp; (try (simp only [↓IntWalk.iteOmega]; go_simp)); (first | (refine hK _ ?_; clear hK K) | (apply Exists.intro; refine ⟨fun _ => ?_, hK _ ?_⟩; (first | fail); clear hK K)))
            (refine mix_step (by kernel_rfl) (by kernel_rfl) (fun K hK => ?_); go_simp; (try (simp only [↓IntWalk.iteOmega]; go_simp)); (first | (refine hK _ ?_; clear hK K) | (apply Exists.intro; refine ⟨fun _ => ?_, hK _ ?_⟩; (first | fail); clear hK K)))
            (refine mix_step (by kernel_rfl) (by kernel_rfl) (fun K hK => ?_); go_simp; (try (simp only [↓IntWalk.iteOmega]; go_simp)); (first | (refine hK _ ?_; clear hK K) | (apply Exists.intro; refine ⟨fun _ => ?_, hK _ ?_⟩; (first | fail); clear hK K)))
            (refine mix_step (by kernel_rfl) (by kernel_rfl) (fun K hK => ?_); go_simp; (try (simp only [↓IntWalk.iteOmega]; go_simp)); (first | (refine hK _ ?_; clear hK K) | (apply Exists.intro; refine ⟨fun _ => ?_, hK _ ?_⟩; (first | fail); clear hK K)))
            (refine mix_step (by kernel_rfl) (by kernel_rfl) (fun K hK => ?_); go_simp; (try (simp only [↓IntWalk.iteOmega]; go_simp)); (first | (refine hK _ ?_; clear hK K) | (apply Exists.intro; refine ⟨fun _ => ?_, hK _ ?_⟩; (first | fail); clear hK K)))
            (refine mix_step (by kernel_rfl) (by kernel_rfl) (fun K hK => ?_); go_simp; (try (simp only [↓IntWalk.iteOmega]; go_simp)); (first | (refine hK _ ?_; clear hK K) | (apply Exists.intro; refine ⟨fun _ => ?_, hK _ ?_⟩; (first | fail); clear hK K)))
            (refine mix_step (by kernel_rfl) (by kernel_rfl) (fun K hK => ?_); go_simp; (try (simp only [↓IntWalk.iteOmega]; go_simp)); (first | (refine hK _ ?_; clear hK K) | (apply Exists.intro; refine ⟨fun _ => ?_, hK _ ?_⟩; (first | fail); clear hK K)))
            (refine mix_step (by kernel_rfl) (by kernel_rfl) (fun K hK => ?_); go_simp; (try (simp only [↓IntWalk.iteOmega]; go_simp)); (first | (refine hK _ ?_; clear hK K) | (apply Exists.intro; refine ⟨fun _ => ?_, hK _ ?_⟩; (first | fail); clear hK K)))
            refine mix_special _ 70 rfl rfl (stable_row _ _ _ _) (owes_buildSlice (cells := #[.int .i64 (i : Nat), .int .u8 ((v.r.f 0).toNat : Int), .int .u8 ((v.r.f 1).toNat : Int), .int .u8 ((v.r.f 2).toNat : Int), .int .u8 ((v.r.f 3).toNat : Int), .int .u8 ((v.r.f 4).toNat : Int), .int .u8 ((v.r.f 5).toNat : Int), .int .u8 ((v.r.f 6).toNat : Int), .int .u8 ((v.r.f 7).toNat : Int), .int .u8 ((v.b.f 0).toNat : Int), .int .u8 ((v.b.f 1).toNat : Int), .int .u8 ((v.b.f 2).toNat : Int), .int .u8 ((v.b.f 3).toNat : Int), .int .u8 ((v.b.f 4).toNat : Int), .int .u8 ((v.b.f 5).toNat : Int), .int .u8 ((v.b.f 6).toNat : Int), .int .u8 ((v.b.f 7).toNat : Int), .int .i64 v.c, .int .i64 v.p, .int .i64 ag, .int .i64 s.ma, .int .i64 s.he, .int .i64 s.de, .bool false, .bool false]) rfl (by simp) Try.underlying33 (sz := 25) (z := .agg #[.int .i64 0, .int .u8 0, .int .u8 0, .int .u8 0, .int .u8 0, .int .u8 0, .int .u8 0, .int .u8 0, .int .u8 0, .int .u8 0, .int .u8 0, .int .u8 0, .int .u8 0, .int .u8 0, .int .u8 0, .int .u8 0, .int .u8 0, .int .i64 0, .int .i64 0, .int .i64 0, .int .i64 0, .int .i64 0, .int .i64 0, .bool false, .bool false]) (by kernel_rfl) (by decide) (by decide) (by kernel_rfl)) ?_
            refine mix_nil ?_
            rintro ⟨dq, osq⟩
            have hb6 := below_regrown w5 dq osq
            rintro u70 ⟨b70, rfl, hB70, hR70⟩
            have R70 := Lib.hid hR70
            have HOUT6 := Lib.hid (HOUT5.out.later hb6)
            have HW6 := Lib.hid (HW5.out.later hb6)
            have hbR6 := hbR5.trans (hb6.mono hbR5.size)
            have HBX6 := Lib.hid (HBX5.out.kept hb6)
            clear HOUT5 HW5 hbR5 hR70 k8 k9 k10 l8 l17 R5 hB70 hb6 HBX5
            generalize grow (redrawn w5 dq) osq = w6 at *
            have hbase : w.heap.size ≤ w6.heap.size := hbR6.size
            generalize (⟨i, s.word i ag⟩ : SO) = x at *
            obtain ⟨la, lc, rfl, HO⟩ := HOUT6.out
            have HO6 := Lib.hid HO
            clear HO HOUT6
            refine (show wpList _ _ _ _ _ _ from ?_)
            simp only [List.drop, Act.put, List.setIfInBounds_toArray, List.set]
            go_wp2_with (at_builtin; refine wpList_append_own _ rfl (.tmp 42) (.tmp 70) 33 rfl w.heap.size 47 ti tz 25 80 Try.underlying33 HI.out HZ.out hz1 hz2 hz3 (by decide) _ outs.length _ rfl HO6.out ⟨b70, 0, none⟩ 1 1 x.cells rfl ?c0 ?c1 ?c2 ?c3 ?c4 ?c5 ?_)
            case c0 => rw [HX.out]; rfl
            case c1 =>
              intro j u hj
              rw [HX.out] at hj
              rw [addr_add, R70.out.cell j, ← Array.getElem?_toList]
              exact hj
            case c2 => exact HXL.out
            case c3 => simp [maxLen]; omega
            case c4 => omega
            case c5 => exact hbase
            intro v' w7 ho7 hg7 _
            have HO7 := Lib.hid (out_app ho7)
            have hbAP : Below w.heap.size w6 w7 := (Below.refl _ w6).grown hg7 hbase (fun k e1 => (HO6.out.lt k e1).1)
            have hbR7 := hbR6.trans hbAP
            have HW7 := Lib.hid (HA0.out.later hbR7)
            have HBX7 := Lib.hid (HBX0.out.kept hbR7)
            clear ho7 hg7 hbAP hbR6 HO6 HW6 HX HXL HI HZ HBX6
            go_wp2_with fail
            refine ⟨⟨i + 1, by omega, by go_num, by rw [HN.out]; exact HO7, HW7, hbR7, HBX7⟩, by simp [intOf]; omega⟩
      · obtain rfl : i = s.ports.length := by omega
        go_wp2_with fail
        go_ret
        exact ⟨_, rfl, by rw [HF.out]; exact HOUT.out, hbR⟩

end Go.Proofs.Ytdhiaidbpjjljaa
