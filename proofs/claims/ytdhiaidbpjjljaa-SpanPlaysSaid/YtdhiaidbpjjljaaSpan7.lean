/- span: has, State, Role, Root, Changes, hears. By an AI agent. -/
import Derived.Test.YtdhiaidbpjjljaaSpan6
import Derived.Test.YtdhiaidbpjjljaaGrowApp
namespace Go.Proofs.Ytdhiaidbpjjljaa
open Go.RowKit Go.Sort Grow

def SS.has (s : SS) (i : Int) : Bool := decide (0 ≤ i) && decide (i < (s.ports.length : Int))
def SS.stateAt (s : SS) (i : Int) : Int := if s.has i = true then (s.port i.toNat).state else 0
def SS.roleAt (s : SS) (i : Int) : Int := if s.has i = true then (s.port i.toNat).role else 0
theorem SS.has_true (s : SS) (i : Int) (h : s.has i = true) : ∃ k : Nat, i = k ∧ k < s.ports.length := by
  unfold SS.has at h
  simp only [Bool.and_eq_true, decide_eq_true_eq] at h
  exact ⟨i.toNat, by omega, by omega⟩

set_option maxRecDepth 20000 in
set_option maxHeartbeats 2000000 in
theorem has_any (B S g cap : Nat) (pbs : List Nat) (w : World) (s : SS) (h : SpAt B S g cap pbs w s) (hp : pbs.length ≤ 1000) (i : Int) (hi : (Lit.int .i64 i).wf = true) :
    Calls Try.prog 28 #[.pointer (some ⟨S, 0, none⟩), .int .i64 i] w fun e w' => e = .returned (.bool (s.has i)) ∧ w = w' := by
  have q1 : w.cell? ⟨S, 11, none⟩ = some (.slice (some ⟨g, 0, none⟩) s.ports.length cap) := h.row.cell 11
  have HE : Hid (s.has i = (decide (0 ≤ i) && decide (i < (s.ports.length : Int)))) := rfl
  clear h hi
  cases h0 : decide (0 ≤ i)
  · have HE : Hid (s.has i = false) := by show _ = _; rw [HE.out, h0]; rfl
    rw [HE.out]
    go_enter Try.func28, Try.ntmps28
    go_wp2_with fail
    go_ret
    exact ⟨rfl, rfl⟩
  · have HE : Hid (s.has i = decide (i < (s.ports.length : Int))) := by show _ = _; rw [HE.out, h0]; rfl
    rw [HE.out]
    go_enter Try.func28, Try.ntmps28
    go_wp2_with fail
    go_ret
    exact ⟨rfl, rfl⟩

set_option maxRecDepth 20000 in
set_option maxHeartbeats 2000000 in
theorem stateAt_any (B S g cap : Nat) (pbs : List Nat) (w : World) (s : SS) (h : SpAt B S g cap pbs w s) (hp : pbs.length ≤ 1000) (i : Int) (hi : (Lit.int .i64 i).wf = true) :
    Calls Try.prog 10 #[.pointer (some ⟨S, 0, none⟩), .int .i64 i] w fun e w' => e = .returned (.int .i64 (s.stateAt i)) ∧ w = w' := by
  have HH := Lib.hid (has_any B S g cap pbs w s h hp i hi)
  have HE : Hid (s.stateAt i = if s.has i = true then (s.port i.toNat).state else 0) := rfl
  have hlen : s.ports.length = pbs.length := h.len.symm
  cases hh : s.has i
  · have HE : Hid (s.stateAt i = 0) := by show _ = _; rw [HE.out, hh]; rfl
    rw [hh] at HH
    clear h hi hh
    rw [HE.out]
    go_enter Try.func10, Try.ntmps10
    go_wp2_with fail
    refine HH.out.mono ?_
    rintro e w1 ⟨rfl, rfl⟩
    go_wp2_with fail
    go_ret
    exact ⟨rfl, rfl⟩
  · have HE : Hid (s.stateAt i = (s.port i.toNat).state) := by show _ = _; rw [HE.out, hh]; rfl
    rw [hh] at HH
    obtain ⟨k, rfl, hk⟩ := s.has_true i hh
    rw [Int.toNat_natCast] at HE
    have hkp : k < pbs.length := by omega
    have q0 := h.ptr hkp
    have q1 : w.cell? ⟨S, 11, none⟩ = some (.slice (some ⟨g, 0, none⟩) s.ports.length cap) := h.row.cell 11
    have q2 : w.cell? ⟨pbs[k], 28, none⟩ = some (.int .i64 (s.port k).state) := (h.ports k hkp).2.cell 28
    clear h hi hh
    rw [HE.out]
    go_enter Try.func10, Try.ntmps10
    go_wp2_with fail
    refine HH.out.mono ?_
    rintro e w1 ⟨rfl, rfl⟩
    go_wp2_with fail
    go_ret
    exact ⟨rfl, rfl⟩

set_option maxRecDepth 20000 in
set_option maxHeartbeats 2000000 in
theorem roleAt_any (B S g cap : Nat) (pbs : List Nat) (w : World) (s : SS) (h : SpAt B S g cap pbs w s) (hp : pbs.length ≤ 1000) (i : Int) (hi : (Lit.int .i64 i).wf = true) :
    Calls Try.prog 23 #[.pointer (some ⟨S, 0, none⟩), .int .i64 i] w fun e w' => e = .returned (.int .i64 (s.roleAt i)) ∧ w = w' := by
  have HH := Lib.hid (has_any B S g cap pbs w s h hp i hi)
  have HE : Hid (s.roleAt i = if s.has i = true then (s.port i.toNat).role else 0) := rfl
  have hlen : s.ports.length = pbs.length := h.len.symm
  cases hh : s.has i
  · have HE : Hid (s.roleAt i = 0) := by show _ = _; rw [HE.out, hh]; rfl
    rw [hh] at HH
    clear h hi hh
    rw [HE.out]
    go_enter Try.func23, Try.ntmps23
    go_wp2_with fail
    refine HH.out.mono ?_
    rintro e w1 ⟨rfl, rfl⟩
    go_wp2_with fail
    go_ret
    exact ⟨rfl, rfl⟩
  · have HE : Hid (s.roleAt i = (s.port i.toNat).role) := by show _ = _; rw [HE.out, hh]; rfl
    rw [hh] at HH
    obtain ⟨k, rfl, hk⟩ := s.has_true i hh
    rw [Int.toNat_natCast] at HE
    have hkp : k < pbs.length := by omega
    have q0 := h.ptr hkp
    have q1 : w.cell? ⟨S, 11, none⟩ = some (.slice (some ⟨g, 0, none⟩) s.ports.length cap) := h.row.cell 11
    have q2 : w.cell? ⟨pbs[k], 27, none⟩ = some (.int .i64 (s.port k).role) := (h.ports k hkp).2.cell 27
    clear h hi hh
    rw [HE.out]
    go_enter Try.func23, Try.ntmps23
    go_wp2_with fail
    refine HH.out.mono ?_
    rintro e w1 ⟨rfl, rfl⟩
    go_wp2_with fail
    go_ret
    exact ⟨rfl, rfl⟩

set_option maxRecDepth 20000 in
set_option maxHeartbeats 2000000 in
theorem changes_any (B S g cap : Nat) (pbs : List Nat) (w : World) (s : SS) (h : SpAt B S g cap pbs w s) :
    Calls Try.prog 12 #[.pointer (some ⟨S, 0, none⟩)] w fun e w' => e = .returned (.int .i64 s.chg) ∧ w = w' := by
  have q1 : w.cell? ⟨S, 32, none⟩ = some (.int .i64 s.chg) := h.row.cell 32
  clear h
  go_enter Try.func12, Try.ntmps12
  go_wp2_with fail
  go_ret
  exact ⟨rfl, rfl⟩

set_option maxRecDepth 20000 in
set_option maxHeartbeats 2000000 in
theorem root_any (B S g cap : Nat) (pbs : List Nat) (w : World) (s : SS) (h : SpAt B S g cap pbs w s) :
    Calls Try.prog 11 #[.pointer (some ⟨S, 0, none⟩)] w fun e w' => e = .returned (.tuple #[.agg #[.int .u8 ((s.best.r.f 0).toNat : Int), .int .u8 ((s.best.r.f 1).toNat : Int), .int .u8 ((s.best.r.f 2).toNat : Int), .int .u8 ((s.best.r.f 3).toNat : Int), .int .u8 ((s.best.r.f 4).toNat : Int), .int .u8 ((s.best.r.f 5).toNat : Int), .int .u8 ((s.best.r.f 6).toNat : Int), .int .u8 ((s.best.r.f 7).toNat : Int), .int .i64 s.best.c, .int .u8 ((s.best.b.f 0).toNat : Int), .int .u8 ((s.best.b.f 1).toNat : Int), .int .u8 ((s.best.b.f 2).toNat : Int), .int .u8 ((s.best.b.f 3).toNat : Int), .int .u8 ((s.best.b.f 4).toNat : Int), .int .u8 ((s.best.b.f 5).toNat : Int), .int .u8 ((s.best.b.f 6).toNat : Int), .int .u8 ((s.best.b.f 7).toNat : Int), .int .i64 s.best.p], .int .i64 s.root]) ∧ Below w.heap.size w w' := by
  have HS := Lib.hid h.row
  have HS0 := h.row.lt
  clear h
  go_enter Try.func11, Try.ntmps11
  go_upto_region 3 with fail
  generalize hW : w.alloc _ = W
  have hbW : Below w.heap.size w W := by rw [← hW]; exact (Below.refl _ _).alloc (Nat.le_refl _) _
  have R1 : Hid (RowIs W S 82 #[.int .u8 ((s.id.f 0).toNat : Int), .int .u8 ((s.id.f 1).toNat : Int), .int .u8 ((s.id.f 2).toNat : Int), .int .u8 ((s.id.f 3).toNat : Int), .int .u8 ((s.id.f 4).toNat : Int), .int .u8 ((s.id.f 5).toNat : Int), .int .u8 ((s.id.f 6).toNat : Int), .int .u8 ((s.id.f 7).toNat : Int), .int .i64 s.ma, .int .i64 s.he, .int .i64 s.de, .slice (some ⟨g, 0, none⟩) s.ports.length cap, .int .u8 ((s.best.r.f 0).toNat : Int), .int .u8 ((s.best.r.f 1).toNat : Int), .int .u8 ((s.best.r.f 2).toNat : Int), .int .u8 ((s.best.r.f 3).toNat : Int), .int .u8 ((s.best.r.f 4).toNat : Int), .int .u8 ((s.best.r.f 5).toNat : Int), .int .u8 ((s.best.r.f 6).toNat : Int), .int .u8 ((s.best.r.f 7).toNat : Int), .int .i64 s.best.c, .int .u8 ((s.best.b.f 0).toNat : Int), .int .u8 ((s.best.b.f 1).toNat : Int), .int .u8 ((s.best.b.f 2).toNat : Int), .int .u8 ((s.best.b.f 3).toNat : Int), .int .u8 ((s.best.b.f 4).toNat : Int), .int .u8 ((s.best.b.f 5).toNat : Int), .int .u8 ((s.best.b.f 6).toNat : Int), .int .u8 ((s.best.b.f 7).toNat : Int), .int .i64 s.best.p, .int .i64 s.root, .int .i64 s.now, .int .i64 s.chg]) := by subst hW; exact HS.out.alloc _
  have R2 : Hid (RowIs W w.heap.size 38 #[.int .u8 0, .int .u8 0, .int .u8 0, .int .u8 0, .int .u8 0, .int .u8 0, .int .u8 0, .int .u8 0, .int .i64 0, .int .u8 0, .int .u8 0, .int .u8 0, .int .u8 0, .int .u8 0, .int .u8 0, .int .u8 0, .int .u8 0, .int .i64 0]) := by subst hW; exact rowIs_new w _ _
  clear hW HS
  have hSb : S < w.heap.size := HS0
  have hne : S ≠ w.heap.size := Nat.ne_of_lt HS0
  have hbs : w.heap.size < W.heap.size := R2.out.lt
  refine wp_region_mixL (wle_ok w.heap.size [(0, (.int .u8 ((s.best.r.f 0).toNat : Int))), (1, (.int .u8 ((s.best.r.f 1).toNat : Int))), (2, (.int .u8 ((s.best.r.f 2).toNat : Int))), (3, (.int .u8 ((s.best.r.f 3).toNat : Int))), (4, (.int .u8 ((s.best.r.f 4).toNat : Int))), (5, (.int .u8 ((s.best.r.f 5).toNat : Int))), (6, (.int .u8 ((s.best.r.f 6).toNat : Int))), (7, (.int .u8 ((s.best.r.f 7).toNat : Int))), (8, (.int .i64 s.best.c)), (9, (.int .u8 ((s.best.b.f 0).toNat : Int))), (10, (.int .u8 ((s.best.b.f 1).toNat : Int))), (11, (.int .u8 ((s.best.b.f 2).toNat : Int))), (12, (.int .u8 ((s.best.b.f 3).toNat : Int))), (13, (.int .u8 ((s.best.b.f 4).toNat : Int))), (14, (.int .u8 ((s.best.b.f 5).toNat : Int))), (15, (.int .u8 ((s.best.b.f 6).toNat : Int))), (16, (.int .u8 ((s.best.b.f 7).toNat : Int))), (17, (.int .i64 s.best.p))]) 10 (by kernel_rfl) (by kernel_rfl) (by kernel_rfl) ?_
  (refine mix_stepP (by kernel_rfl) (by kernel_rfl) (fun K hK => ?_); go_simp; (first | (refine hK _ ?_; clear hK K) | (apply Exists.intro; refine ⟨fun _ => ?_, hK _ ?_⟩; (first | fail); clear hK K)))
  (refine mix_stepP (by kernel_rfl) (by kernel_rfl) (fun K hK => ?_); go_simp; (first | (refine hK _ ?_; clear hK K) | (apply Exists.intro; refine ⟨fun _ => ?_, hK _ ?_⟩; (first | fail); clear hK K)))
  (refine mix_stepP (by kernel_rfl) (by kernel_rfl) (fun K hK => ?_); go_simp; (first | (refine hK _ ?_; clear hK K) | (apply Exists.intro; refine ⟨fun _ => ?_, hK _ ?_⟩; (first | fail); clear hK K)))
  refine mix_exact (.agg #[.int .u8 ((s.best.r.f 0).toNat : Int), .int .u8 ((s.best.r.f 1).toNat : Int), .int .u8 ((s.best.r.f 2).toNat : Int), .int .u8 ((s.best.r.f 3).toNat : Int), .int .u8 ((s.best.r.f 4).toNat : Int), .int .u8 ((s.best.r.f 5).toNat : Int), .int .u8 ((s.best.r.f 6).toNat : Int), .int .u8 ((s.best.r.f 7).toNat : Int), .int .i64 s.best.c, .int .u8 ((s.best.b.f 0).toNat : Int), .int .u8 ((s.best.b.f 1).toNat : Int), .int .u8 ((s.best.b.f 2).toNat : Int), .int .u8 ((s.best.b.f 3).toNat : Int), .int .u8 ((s.best.b.f 4).toNat : Int), .int .u8 ((s.best.b.f 5).toNat : Int), .int .u8 ((s.best.b.f 6).toNat : Int), .int .u8 ((s.best.b.f 7).toNat : Int), .int .i64 s.best.p]) rfl (exact_loadL (sub := [.int .u8 ((s.best.r.f 0).toNat : Int), .int .u8 ((s.best.r.f 1).toNat : Int), .int .u8 ((s.best.r.f 2).toNat : Int), .int .u8 ((s.best.r.f 3).toNat : Int), .int .u8 ((s.best.r.f 4).toNat : Int), .int .u8 ((s.best.r.f 5).toNat : Int), .int .u8 ((s.best.r.f 6).toNat : Int), .int .u8 ((s.best.r.f 7).toNat : Int), .int .i64 s.best.c, .int .u8 ((s.best.b.f 0).toNat : Int), .int .u8 ((s.best.b.f 1).toNat : Int), .int .u8 ((s.best.b.f 2).toNat : Int), .int .u8 ((s.best.b.f 3).toNat : Int), .int .u8 ((s.best.b.f 4).toNat : Int), .int .u8 ((s.best.b.f 5).toNat : Int), .int .u8 ((s.best.b.f 6).toNat : Int), .int .u8 ((s.best.b.f 7).toNat : Int), .int .i64 s.best.p]) rfl rfl (by simp) R1.out rfl (.inl hne) Try.underlying38 rfl (by kernel_rfl)) ?_
  (refine mix_stepP (by kernel_rfl) (by kernel_rfl) (fun K hK => ?_); go_simp; (first | (refine hK _ ?_; clear hK K) | (apply Exists.intro; refine ⟨fun _ => ?_, hK _ ?_⟩; (first | fail); clear hK K)))
  (refine mix_stepP (by kernel_rfl) (by kernel_rfl) (fun K hK => ?_); go_simp; (first | (refine hK _ ?_; clear hK K) | (apply Exists.intro; refine ⟨fun _ => ?_, hK _ ?_⟩; (first | fail); clear hK K)))
  (refine mix_stepP (by kernel_rfl) (by kernel_rfl) (fun K hK => ?_); go_simp; (first | (refine hK _ ?_; clear hK K) | (apply Exists.intro; refine ⟨fun _ => ?_, hK _ ?_⟩; (first | fail); clear hK K)))
  refine mix_exact (.int .i64 s.root) rfl (exact_load_cell (wle_ok _ _) rfl rfl (by simp) (fun w' hle => (below_regrown_wle hle R1.out hne).cell 30) Try.underlying3 rfl) ?_
  refine mix_store (PartAt w.heap.size 38 0 #[.int .u8 ((s.best.r.f 0).toNat : Int), .int .u8 ((s.best.r.f 1).toNat : Int), .int .u8 ((s.best.r.f 2).toNat : Int), .int .u8 ((s.best.r.f 3).toNat : Int), .int .u8 ((s.best.r.f 4).toNat : Int), .int .u8 ((s.best.r.f 5).toNat : Int), .int .u8 ((s.best.r.f 6).toNat : Int), .int .u8 ((s.best.r.f 7).toNat : Int), .int .i64 s.best.c, .int .u8 ((s.best.b.f 0).toNat : Int), .int .u8 ((s.best.b.f 1).toNat : Int), .int .u8 ((s.best.b.f 2).toNat : Int), .int .u8 ((s.best.b.f 3).toNat : Int), .int .u8 ((s.best.b.f 4).toNat : Int), .int .u8 ((s.best.b.f 5).toNat : Int), .int .u8 ((s.best.b.f 6).toNat : Int), .int .u8 ((s.best.b.f 7).toNat : Int), .int .i64 s.best.p]) rfl rfl (stable_partAt _ (by
    intro j v u hj hu
    have hjl := (Array.getElem?_eq_some_iff.1 hj).1
    simp only [List.mem_cons, List.not_mem_nil, or_false, Prod.mk.injEq] at hu
    rcases hu with ⟨e, rfl⟩ | ⟨e, rfl⟩ | ⟨e, rfl⟩ | ⟨e, rfl⟩ | ⟨e, rfl⟩ | ⟨e, rfl⟩ | ⟨e, rfl⟩ | ⟨e, rfl⟩ | ⟨e, rfl⟩ | ⟨e, rfl⟩ | ⟨e, rfl⟩ | ⟨e, rfl⟩ | ⟨e, rfl⟩ | ⟨e, rfl⟩ | ⟨e, rfl⟩ | ⟨e, rfl⟩ | ⟨e, rfl⟩ | ⟨e, rfl⟩
    · obtain rfl : j = 0 := by omega
      cases hj
      rfl
    · obtain rfl : j = 1 := by omega
      cases hj
      rfl
    · obtain rfl : j = 2 := by omega
      cases hj
      rfl
    · obtain rfl : j = 3 := by omega
      cases hj
      rfl
    · obtain rfl : j = 4 := by omega
      cases hj
      rfl
    · obtain rfl : j = 5 := by omega
      cases hj
      rfl
    · obtain rfl : j = 6 := by omega
      cases hj
      rfl
    · obtain rfl : j = 7 := by omega
      cases hj
      rfl
    · obtain rfl : j = 8 := by omega
      cases hj
      rfl
    · obtain rfl : j = 9 := by omega
      cases hj
      rfl
    · obtain rfl : j = 10 := by omega
      cases hj
      rfl
    · obtain rfl : j = 11 := by omega
      cases hj
      rfl
    · obtain rfl : j = 12 := by omega
      cases hj
      rfl
    · obtain rfl : j = 13 := by omega
      cases hj
      rfl
    · obtain rfl : j = 14 := by omega
      cases hj
      rfl
    · obtain rfl : j = 15 := by omega
      cases hj
      rfl
    · obtain rfl : j = 16 := by omega
      cases hj
      rfl
    · obtain rfl : j = 17 := by omega
      cases hj
      rfl)) (owes_store_part rfl rfl rfl (by simp) (by simp) R2.out (by simp) (by kernel_rfl) (by simp [Value.oneCell']) (by
    intro j v hj
    have hjl : j < 18 := (Array.getElem?_eq_some_iff.1 hj).1
    rcases (show j = 0 ∨ j = 1 ∨ j = 2 ∨ j = 3 ∨ j = 4 ∨ j = 5 ∨ j = 6 ∨ j = 7 ∨ j = 8 ∨ j = 9 ∨ j = 10 ∨ j = 11 ∨ j = 12 ∨ j = 13 ∨ j = 14 ∨ j = 15 ∨ j = 16 ∨ j = 17 from by omega) with rfl | rfl | rfl | rfl | rfl | rfl | rfl | rfl | rfl | rfl | rfl | rfl | rfl | rfl | rfl | rfl | rfl | rfl <;> (cases hj; simp))) ?_
  (refine mix_stepP (by kernel_rfl) (by kernel_rfl) (fun K hK => ?_); go_simp; (first | (refine hK _ ?_; clear hK K) | (apply Exists.intro; refine ⟨fun _ => ?_, hK _ ?_⟩; (first | fail); clear hK K)))
  refine mix_nilL fun w3 hle hF => ?_
  have r3 := row_stored R2.out hle (by simp) (by simp) (fun p hp => by
    simp only [List.nil_append, List.cons_append, List.mem_cons, List.not_mem_nil, or_false, forall_eq_or_imp, forall_eq] at hF
    have f12 := hF
    simp only [List.mem_cons, List.not_mem_nil, or_false] at hp
    rcases hp with rfl | rfl | rfl | rfl | rfl | rfl | rfl | rfl | rfl | rfl | rfl | rfl | rfl | rfl | rfl | rfl | rfl | rfl
    · exact part_stored (j := 0) f12 rfl
    · exact part_stored (j := 1) f12 rfl
    · exact part_stored (j := 2) f12 rfl
    · exact part_stored (j := 3) f12 rfl
    · exact part_stored (j := 4) f12 rfl
    · exact part_stored (j := 5) f12 rfl
    · exact part_stored (j := 6) f12 rfl
    · exact part_stored (j := 7) f12 rfl
    · exact part_stored (j := 8) f12 rfl
    · exact part_stored (j := 9) f12 rfl
    · exact part_stored (j := 10) f12 rfl
    · exact part_stored (j := 11) f12 rfl
    · exact part_stored (j := 12) f12 rfl
    · exact part_stored (j := 13) f12 rfl
    · exact part_stored (j := 14) f12 rfl
    · exact part_stored (j := 15) f12 rfl
    · exact part_stored (j := 16) f12 rfl
    · exact part_stored (j := 17) f12 rfl)
  simp only [List.foldl, List.setIfInBounds_toArray, List.set] at r3
  have hb3 := below_of_wle (B := w.heap.size) hle (Nat.le_of_lt hbs) (Nat.le_refl _)
  have R5 := Lib.hid r3
  have hbW := hbW.trans hb3
  clear r3 hle hF R1 R2 hb3
  refine (show wpList _ _ _ _ _ _ from ?_)
  simp only [List.drop, Act.put, List.setIfInBounds_toArray, List.set]
  go_wp2_with fail
  refine bodyPost_ret (results_row_tmp1 Try.results11 _ _ w.heap.size 38 _ _ rfl R5.out Try.underlying38 rfl (by kernel_rfl)) rfl ?_
  exact ⟨rfl, hbW⟩

def SP.hears (p : SP) (x : SW) : Bool := !p.heard || x.v.better p.w.v || (decide (x.b = p.w.b) && x.p == p.w.p)

set_option maxRecDepth 20000 in
set_option maxHeartbeats 4000000 in
theorem hears_any (pb : Nat) (p : SP) (x : SW) (w : World) (h : RowIs w pb 85 p.cells) :
    Calls Try.prog 35 #[.pointer (some ⟨pb, 0, none⟩), .agg #[.int .u8 ((x.r.f 0).toNat : Int), .int .u8 ((x.r.f 1).toNat : Int), .int .u8 ((x.r.f 2).toNat : Int), .int .u8 ((x.r.f 3).toNat : Int), .int .u8 ((x.r.f 4).toNat : Int), .int .u8 ((x.r.f 5).toNat : Int), .int .u8 ((x.r.f 6).toNat : Int), .int .u8 ((x.r.f 7).toNat : Int), .int .u8 ((x.b.f 0).toNat : Int), .int .u8 ((x.b.f 1).toNat : Int), .int .u8 ((x.b.f 2).toNat : Int), .int .u8 ((x.b.f 3).toNat : Int), .int .u8 ((x.b.f 4).toNat : Int), .int .u8 ((x.b.f 5).toNat : Int), .int .u8 ((x.b.f 6).toNat : Int), .int .u8 ((x.b.f 7).toNat : Int), .int .i64 x.c, .int .i64 x.p, .int .i64 x.age, .int .i64 x.ma, .int .i64 x.he, .int .i64 x.de, .bool x.ch, .bool x.ak]] w fun e w' => e = .returned (.bool (p.hears x)) ∧ Below w.heap.size w w' := by
  have HP := Lib.hid h
  have HE : Hid (p.hears x = (!p.heard || x.v.better p.w.v || (decide (x.b = p.w.b) && x.p == p.w.p))) := rfl
  clear h
  obtain ⟨pc, up, heard, pw, prole, pstate, psince⟩ := p
  simp only at HE
  have m1 : ∀ w, (Op.equalIn 10000 23 (.agg #[.int .u8 ((x.b.f 0).toNat : Int), .int .u8 ((x.b.f 1).toNat : Int), .int .u8 ((x.b.f 2).toNat : Int), .int .u8 ((x.b.f 3).toNat : Int), .int .u8 ((x.b.f 4).toNat : Int), .int .u8 ((x.b.f 5).toNat : Int), .int .u8 ((x.b.f 6).toNat : Int), .int .u8 ((x.b.f 7).toNat : Int)]) (.agg #[.int .u8 ((pw.b.f 0).toNat : Int), .int .u8 ((pw.b.f 1).toNat : Int), .int .u8 ((pw.b.f 2).toNat : Int), .int .u8 ((pw.b.f 3).toNat : Int), .int .u8 ((pw.b.f 4).toNat : Int), .int .u8 ((pw.b.f 5).toNat : Int), .int .u8 ((pw.b.f 6).toNat : Int), .int .u8 ((pw.b.f 7).toNat : Int)])).run Try.prog w = .ok (decide (x.b = pw.b)) w := fun w => by
    rw [← eqB_id]
    exact run_equalIn_bid 9998 _ _ w
  have C2 := Lib.hid (fun (y : SW) (q : World) => vector_any y q)
  have C3 := Lib.hid (fun (q : World) => betterS_any x.v pw.v q)
  generalize hbt : x.v.better pw.v = bt at *
  generalize hei : decide (x.b = pw.b) = ei at *
  clear hbt hei
  go_enter Try.func35, Try.ntmps35
  go_upto_region 1 with fail
  generalize hW : w.alloc _ = W
  have hbW : Below w.heap.size w W := by rw [← hW]; exact (Below.refl _ _).alloc (Nat.le_refl _) _
  have R1 : Hid (RowIs W pb 85 #[.int .i64 pc, .bool up, .bool heard, .int .u8 ((pw.r.f 0).toNat : Int), .int .u8 ((pw.r.f 1).toNat : Int), .int .u8 ((pw.r.f 2).toNat : Int), .int .u8 ((pw.r.f 3).toNat : Int), .int .u8 ((pw.r.f 4).toNat : Int), .int .u8 ((pw.r.f 5).toNat : Int), .int .u8 ((pw.r.f 6).toNat : Int), .int .u8 ((pw.r.f 7).toNat : Int), .int .u8 ((pw.b.f 0).toNat : Int), .int .u8 ((pw.b.f 1).toNat : Int), .int .u8 ((pw.b.f 2).toNat : Int), .int .u8 ((pw.b.f 3).toNat : Int), .int .u8 ((pw.b.f 4).toNat : Int), .int .u8 ((pw.b.f 5).toNat : Int), .int .u8 ((pw.b.f 6).toNat : Int), .int .u8 ((pw.b.f 7).toNat : Int), .int .i64 pw.c, .int .i64 pw.p, .int .i64 pw.age, .int .i64 pw.ma, .int .i64 pw.he, .int .i64 pw.de, .bool pw.ch, .bool pw.ak, .int .i64 prole, .int .i64 pstate, .int .i64 psince]) := by subst hW; exact HP.out.alloc _
  have R2 : Hid (RowIs W w.heap.size 45 #[.int .u8 ((x.r.f 0).toNat : Int), .int .u8 ((x.r.f 1).toNat : Int), .int .u8 ((x.r.f 2).toNat : Int), .int .u8 ((x.r.f 3).toNat : Int), .int .u8 ((x.r.f 4).toNat : Int), .int .u8 ((x.r.f 5).toNat : Int), .int .u8 ((x.r.f 6).toNat : Int), .int .u8 ((x.r.f 7).toNat : Int), .int .u8 ((x.b.f 0).toNat : Int), .int .u8 ((x.b.f 1).toNat : Int), .int .u8 ((x.b.f 2).toNat : Int), .int .u8 ((x.b.f 3).toNat : Int), .int .u8 ((x.b.f 4).toNat : Int), .int .u8 ((x.b.f 5).toNat : Int), .int .u8 ((x.b.f 6).toNat : Int), .int .u8 ((x.b.f 7).toNat : Int), .int .i64 x.c, .int .i64 x.p, .int .i64 x.age, .int .i64 x.ma, .int .i64 x.he, .int .i64 x.de, .bool x.ch, .bool x.ak]) := by subst hW; exact rowIs_new w _ _
  clear hW HP
  have k2 := cell_regrown (show W.cell? ⟨pb, 2, none⟩ = some (.bool heard) from R1.out.cell 2)
  have k20 := cell_regrown (show W.cell? ⟨pb, 20, none⟩ = some (.int .i64 pw.p) from R1.out.cell 20)
  have l17 := cell_regrown (show W.cell? ⟨w.heap.size, 17, none⟩ = some (.int .i64 x.p) from R2.out.cell 17)
  generalize hxb : w.heap.size = xb at *
  have HXB := Lib.hid hxb
  clear hxb
  cases heard
  · have HE : Hid (SP.hears ⟨pc, up, false, pw, prole, pstate, psince⟩ x = true) := HE.out
    refine wp_region_mix 36 (by kernel_rfl) (by kernel_rfl) (by kernel_rfl) ?_
    (refine mix_step (by kernel_rfl) (by kernel_rfl) (fun K hK => ?_); go_simp; (try (simp only [↓IntWalk.iteOmega]; go_simp)); (first | (refine hK _ ?_; clear hK K) | (apply Exists.intro; refine ⟨fun _ => ?_, hK _ ?_⟩; (first | fail); clear hK K)))
    (refine mix_step (by kernel_rfl) (by kernel_rfl) (fun K hK => ?_); go_simp; (try (simp only [↓IntWalk.iteOmega]; go_simp)); (first | (refine hK _ ?_; clear hK K) | (apply Exists.intro; refine ⟨fun _ => ?_, hK _ ?_⟩; (first | fail); clear hK K)))
    (refine mix_step (by kernel_rfl) (by kernel_rfl) (fun K hK => ?_); go_simp; (try (simp only [↓IntWalk.iteOmega]; go_simp)); (first | (refine hK _ ?_; clear hK K) | (apply Exists.intro; refine ⟨fun _ => ?_, hK _ ?_⟩; (first | fail); clear hK K)))
    (refine mix_step (by kernel_rfl) (by kernel_rfl) (fun K hK => ?_); go_simp; (try (simp only [↓IntWalk.iteOmega]; go_simp)); (first | (refine hK _ ?_; clear hK K) | (apply Exists.intro; refine ⟨fun _ => ?_, hK _ ?_⟩; (first | fail); clear hK K)))
    (refine mix_step (by kernel_rfl) (by kernel_rfl) (fun K hK => ?_); go_simp; (try (simp only [↓IntWalk.iteOmega]; go_simp)); (first | (refine hK _ ?_; clear hK K) | (apply Exists.intro; refine ⟨fun _ => ?_, hK _ ?_⟩; (first | fail); clear hK K)))
    (refine mix_step (by kernel_rfl) (by kernel_rfl) (fun K hK => ?_); go_simp; (try (simp only [↓IntWalk.iteOmega]; go_simp)); (first | (refine hK _ ?_; clear hK K) | (apply Exists.intro; refine ⟨fun _ => ?_, hK _ ?_⟩; (first | fail); clear hK K)))
    (refine mix_step (by kernel_rfl) (by kernel_rfl) (fun K hK => ?_); go_simp; (try (simp only [↓IntWalk.iteOmega]; go_simp)); (first | (refine hK _ ?_; clear hK K) | (apply Exists.intro; refine ⟨fun _ => ?_, hK _ ?_⟩; (first | fail); clear hK K)))
    (refine mix_step (by kernel_rfl) (by kernel_rfl) (fun K hK => ?_); go_simp; (try (simp only [↓IntWalk.iteOmega]; go_simp)); (first | (refine hK _ ?_; clear hK K) | (apply Exists.intro; refine ⟨fun _ => ?_, hK _ ?_⟩; (first | fail); clear hK K)))
    (refine mix_step (by kernel_rfl) (by kernel_rfl) (fun K hK => ?_); go_simp; (try (simp only [↓IntWalk.iteOmega]; go_simp)); (first | (refine hK _ ?_; clear hK K) | (apply Exists.intro; refine ⟨fun _ => ?_, hK _ ?_⟩; (first | fail); clear hK K)))
    (refine mix_step (by kernel_rfl) (by kernel_rfl) (fun K hK => ?_); go_simp; (try (simp only [↓IntWalk.iteOmega]; go_simp)); (first | (refine hK _ ?_; clear hK K) | (apply Exists.intro; refine ⟨fun _ => ?_, hK _ ?_⟩; (first | fail); clear hK K)))
    (refine mix_step (by kernel_rfl) (by kernel_rfl) (fun K hK => ?_); go_simp; (try (simp only [↓IntWalk.iteOmega]; go_simp)); (first | (refine hK _ ?_; clear hK K) | (apply Exists.intro; refine ⟨fun _ => ?_, hK _ ?_⟩; (first | fail); clear hK K)))
    (refine mix_step (by kernel_rfl) (by kernel_rfl) (fun K hK => ?_); go_simp; (try (simp only [↓IntWalk.iteOmega]; go_simp)); (first | (refine hK _ ?_; clear hK K) | (apply Exists.intro; refine ⟨fun _ => ?_, hK _ ?_⟩; (first | fail); clear hK K)))
    (refine mix_step (by kernel_rfl) (by kernel_rfl) (fun K hK => ?_); go_simp; (try (simp only [↓IntWalk.iteOmega]; go_simp)); (first | (refine hK _ ?_; clear hK K) | (apply Exists.intro; refine ⟨fun _ => ?_, hK _ ?_⟩; (first | fail); clear hK K)))
    (refine mix_step (by kernel_rfl) (by kernel_rfl) (fun K hK => ?_); go_simp; (try (simp only [↓IntWalk.iteOmega]; go_simp)); (first | (refine hK _ ?_; clear hK K) | (apply Exists.intro; refine ⟨fun _ => ?_, hK _ ?_⟩; (first | fail); clear hK K)))
    (refine mix_step (by kernel_rfl) (by kernel_rfl) (fun K hK => ?_); go_simp; (try (simp only [↓IntWalk.iteOmega]; go_simp)); (first | (refine hK _ ?_; clear hK K) | (apply Exists.intro; refine ⟨fun _ => ?_, hK _ ?_⟩; (first | fail); clear hK K)))
    (refine mix_step (by kernel_rfl) (by kernel_rfl) (fun K hK => ?_); go_simp; (try (simp only [↓IntWalk.iteOmega]; go_simp)); (first | (refine hK _ ?_; clear hK K) | (apply Exists.intro; refine ⟨fun _ => ?_, hK _ ?_⟩; (first | fail); clear hK K)))
    (refine mix_step (by kernel_rfl) (by kernel_rfl) (fun K hK => ?_); go_simp; (try (simp only [↓IntWalk.iteOmega]; go_simp)); (first | (refine hK _ ?_; clear hK K) | (apply Exists.intro; refine ⟨fun _ => ?_, hK _ ?_⟩; (first | fail); clear hK K)))
    (refine mix_step (by kernel_rfl) (by kernel_rfl) (fun K hK => ?_); go_simp; (try (simp only [↓IntWalk.iteOmega]; go_simp)); (first | (refine hK _ ?_; clear hK K) | (apply Exists.intro; refine ⟨fun _ => ?_, hK _ ?_⟩; (first | fail); clear hK K)))
    (refine mix_step (by kernel_rfl) (by kernel_rfl) (fun K hK => ?_); go_simp; (try (simp only [↓IntWalk.iteOmega]; go_simp)); (first | (refine hK _ ?_; clear hK K) | (apply Exists.intro; refine ⟨fun _ => ?_, hK _ ?_⟩; (first | fail); clear hK K)))
    (refine mix_step (by kernel_rfl) (by kernel_rfl) (fun K hK => ?_); go_simp; (try (simp only [↓IntWalk.iteOmega]; go_simp)); (first | (refine hK _ ?_; clear hK K) | (apply Exists.intro; refine ⟨fun _ => ?_, hK _ ?_⟩; (first | fail); clear hK K)))
    (refine mix_step (by kernel_rfl) (by kernel_rfl) (fun K hK => ?_); go_simp; (try (simp only [↓IntWalk.iteOmega]; go_simp)); (first | (refine hK _ ?_; clear hK K) | (apply Exists.intro; refine ⟨fun _ => ?_, hK _ ?_⟩; (first | fail); clear hK K)))
    (refine mix_step (by kernel_rfl) (by kernel_rfl) (fun K hK => ?_); go_simp; (try (simp only [↓IntWalk.iteOmega]; go_simp)); (first | (refine hK _ ?_; clear hK K) | (apply Exists.intro; refine ⟨fun _ => ?_, hK _ ?_⟩; (first | fail); clear hK K)))
    (refine mix_step (by kernel_rfl) (by kernel_rfl) (fun K hK => ?_); go_simp; (try (simp only [↓IntWalk.iteOmega]; go_simp)); (first | (refine hK _ ?_; clear hK K) | (apply Exists.intro; refine ⟨fun _ => ?_, hK _ ?_⟩; (first | fail); clear hK K)))
    (refine mix_step (by kernel_rfl) (by kernel_rfl) (fun K hK => ?_); go_simp; (try (simp only [↓IntWalk.iteOmega]; go_simp)); (first | (refine hK _ ?_; clear hK K) | (apply Exists.intro; refine ⟨fun _ => ?_, hK _ ?_⟩; (first | fail); clear hK K)))
    (refine mix_step (by kernel_rfl) (by kernel_rfl) (fun K hK => ?_); go_simp; (try (simp only [↓IntWalk.iteOmega]; go_simp)); (first | (refine hK _ ?_; clear hK K) | (apply Exists.intro; refine ⟨fun _ => ?_, hK _ ?_⟩; (first | fail); clear hK K)))
    (refine mix_step (by kernel_rfl) (by kernel_rfl) (fun K hK => ?_); go_simp; (try (simp only [↓IntWalk.iteOmega]; go_simp)); (first | (refine hK _ ?_; clear hK K) | (apply Exists.intro; refine ⟨fun _ => ?_, hK _ ?_⟩; (first | fail); clear hK K)))
    (refine mix_step (by kernel_rfl) (by kernel_rfl) (fun K hK => ?_); go_simp; (try (simp only [↓IntWalk.iteOmega]; go_simp)); (first | (refine hK _ ?_; clear hK K) | (apply Exists.intro; refine ⟨fun _ => ?_, hK _ ?_⟩; (first | fail); clear hK K)))
    (refine mix_step (by kernel_rfl) (by kernel_rfl) (fun K hK => ?_); go_simp; (try (simp only [↓IntWalk.iteOmega]; go_simp)); (first | (refine hK _ ?_; clear hK K) | (apply Exists.intro; refine ⟨fun _ => ?_, hK _ ?_⟩; (first | fail); clear hK K)))
    (refine mix_step (by kernel_rfl) (by kernel_rfl) (fun K hK => ?_); go_simp; (try (simp only [↓IntWalk.iteOmega]; go_simp)); (first | (refine hK _ ?_; clear hK K) | (apply Exists.intro; refine ⟨fun _ => ?_, hK _ ?_⟩; (first | fail); clear hK K)))
    (refine mix_step (by kernel_rfl) (by kernel_rfl) (fun K hK => ?_); go_simp; (try (simp only [↓IntWalk.iteOmega]; go_simp)); (first | (refine hK _ ?_; clear hK K) | (apply Exists.intro; refine ⟨fun _ => ?_, hK _ ?_⟩; (first | fail); clear hK K)))
    (refine mix_step (by kernel_rfl) (by kernel_rfl) (fun K hK => ?_); go_simp; (try (simp only [↓IntWalk.iteOmega]; go_simp)); (first | (refine hK _ ?_; clear hK K) | (apply Exists.intro; refine ⟨fun _ => ?_, hK _ ?_⟩; (first | fail); clear hK K)))
    (refine mix_step (by kernel_rfl) (by kernel_rfl) (fun K hK => ?_); go_simp; (try (simp only [↓IntWalk.iteOmega]; go_simp)); (first | (refine hK _ ?_; clear hK K) | (apply Exists.intro; refine ⟨fun _ => ?_, hK _ ?_⟩; (first | fail); clear hK K)))
    (refine mix_step (by kernel_rfl) (by kernel_rfl) (fun K hK => ?_); go_simp; (try (simp only [↓IntWalk.iteOmega]; go_simp)); (first | (refine hK _ ?_; clear hK K) | (apply Exists.intro; refine ⟨fun _ => ?_, hK _ ?_⟩; (first | fail); clear hK K)))
    (refine mix_step (by kernel_rfl) (by kernel_rfl) (fun K hK => ?_); go_simp; (try (simp only [↓IntWalk.iteOmega]; go_simp)); (first | (refine hK _ ?_; clear hK K) | (apply Exists.intro; refine ⟨fun _ => ?_, hK _ ?_⟩; (first | fail); clear hK K)))
    (refine mix_step (by kernel_rfl) (by kernel_rfl) (fun K hK => ?_); go_simp; (try (simp only [↓IntWalk.iteOmega]; go_simp)); (first | (refine hK _ ?_; clear hK K) | (apply Exists.intro; refine ⟨fun _ => ?_, hK _ ?_⟩; (first | fail); clear hK K)))
    (refine mix_step (by kernel_rfl) (by kernel_rfl) (fun K hK => ?_); go_simp; (try (simp only [↓IntWalk.iteOmega]; go_simp)); (first | (refine hK _ ?_; clear hK K) | (apply Exists.intro; refine ⟨fun _ => ?_, hK _ ?_⟩; (first | fail); clear hK K)))
    refine mix_nil ?_
    rintro ⟨dq, osq⟩
    have hb1 := below_regrown W dq osq
    refine (show wpList _ _ _ _ _ _ from ?_)
    simp only [List.drop, Act.put, List.setIfInBounds_toArray, List.set]
    go_wp2_with fail
    go_ret
    exact ⟨by rw [HE.out]; rfl, by rw [HXB.out]; exact hbW.trans (hb1.mono (Nat.le_of_lt (R2.out.lt)))⟩
  · cases bt
    · cases ei
      · have HE : Hid (SP.hears ⟨pc, up, true, pw, prole, pstate, psince⟩ x = false) := HE.out
        refine wp_region_mix 36 (by kernel_rfl) (by kernel_rfl) (by kernel_rfl) ?_
        (refine mix_step (by kernel_rfl) (by kernel_rfl) (fun K hK => ?_); go_simp; (try (simp only [↓IntWalk.iteOmega]; go_simp)); (first | (refine hK _ ?_; clear hK K) | (apply Exists.intro; refine ⟨fun _ => ?_, hK _ ?_⟩; (first | fail); clear hK K)))
        (refine mix_step (by kernel_rfl) (by kernel_rfl) (fun K hK => ?_); go_simp; (try (simp only [↓IntWalk.iteOmega]; go_simp)); (first | (refine hK _ ?_; clear hK K) | (apply Exists.intro; refine ⟨fun _ => ?_, hK _ ?_⟩; (first | fail); clear hK K)))
        (refine mix_step (by kernel_rfl) (by kernel_rfl) (fun K hK => ?_); go_simp; (try (simp only [↓IntWalk.iteOmega]; go_simp)); (first | (refine hK _ ?_; clear hK K) | (apply Exists.intro; refine ⟨fun _ => ?_, hK _ ?_⟩; (first | fail); clear hK K)))
        (refine mix_step (by kernel_rfl) (by kernel_rfl) (fun K hK => ?_); go_simp; (try (simp only [↓IntWalk.iteOmega]; go_simp)); (first | (refine hK _ ?_; clear hK K) | (apply Exists.intro; refine ⟨fun _ => ?_, hK _ ?_⟩; (first | fail); clear hK K)))
        (refine mix_step (by kernel_rfl) (by kernel_rfl) (fun K hK => ?_); go_simp; (try (simp only [↓IntWalk.iteOmega]; go_simp)); (first | (refine hK _ ?_; clear hK K) | (apply Exists.intro; refine ⟨fun _ => ?_, hK _ ?_⟩; (first | fail); clear hK K)))
        (refine mix_step (by kernel_rfl) (by kernel_rfl) (fun K hK => ?_); go_simp; (try (simp only [↓IntWalk.iteOmega]; go_simp)); (first | (refine hK _ ?_; clear hK K) | (apply Exists.intro; refine ⟨fun _ => ?_, hK _ ?_⟩; (first | fail); clear hK K)))
        refine mix_exact (.agg #[.int .u8 ((x.r.f 0).toNat : Int), .int .u8 ((x.r.f 1).toNat : Int), .int .u8 ((x.r.f 2).toNat : Int), .int .u8 ((x.r.f 3).toNat : Int), .int .u8 ((x.r.f 4).toNat : Int), .int .u8 ((x.r.f 5).toNat : Int), .int .u8 ((x.r.f 6).toNat : Int), .int .u8 ((x.r.f 7).toNat : Int), .int .u8 ((x.b.f 0).toNat : Int), .int .u8 ((x.b.f 1).toNat : Int), .int .u8 ((x.b.f 2).toNat : Int), .int .u8 ((x.b.f 3).toNat : Int), .int .u8 ((x.b.f 4).toNat : Int), .int .u8 ((x.b.f 5).toNat : Int), .int .u8 ((x.b.f 6).toNat : Int), .int .u8 ((x.b.f 7).toNat : Int), .int .i64 x.c, .int .i64 x.p, .int .i64 x.age, .int .i64 x.ma, .int .i64 x.he, .int .i64 x.de, .bool x.ch, .bool x.ak]) rfl (exact_load_row rfl rfl (by simp) R2.out Try.underlying45 rfl (by kernel_rfl)) ?_
        (refine mix_step (by kernel_rfl) (by kernel_rfl) (fun K hK => ?_); go_simp; (try (simp only [↓IntWalk.iteOmega]; go_simp)); (first | (refine hK _ ?_; clear hK K) | (apply Exists.intro; refine ⟨fun _ => ?_, hK _ ?_⟩; (first | exact C2.out _ _); clear hK K)))
        (refine mix_step (by kernel_rfl) (by kernel_rfl) (fun K hK => ?_); go_simp; (try (simp only [↓IntWalk.iteOmega]; go_simp)); (first | (refine hK _ ?_; clear hK K) | (apply Exists.intro; refine ⟨fun _ => ?_, hK _ ?_⟩; (first | fail); clear hK K)))
        (refine mix_step (by kernel_rfl) (by kernel_rfl) (fun K hK => ?_); go_simp; (try (simp only [↓IntWalk.iteOmega]; go_simp)); (first | (refine hK _ ?_; clear hK K) | (apply Exists.intro; refine ⟨fun _ => ?_, hK _ ?_⟩; (first | fail); clear hK K)))
        (refine mix_step (by kernel_rfl) (by kernel_rfl) (fun K hK => ?_); go_simp; (try (simp only [↓IntWalk.iteOmega]; go_simp)); (first | (refine hK _ ?_; clear hK K) | (apply Exists.intro; refine ⟨fun _ => ?_, hK _ ?_⟩; (first | fail); clear hK K)))
        refine mix_exact (.agg #[.int .u8 ((pw.r.f 0).toNat : Int), .int .u8 ((pw.r.f 1).toNat : Int), .int .u8 ((pw.r.f 2).toNat : Int), .int .u8 ((pw.r.f 3).toNat : Int), .int .u8 ((pw.r.f 4).toNat : Int), .int .u8 ((pw.r.f 5).toNat : Int), .int .u8 ((pw.r.f 6).toNat : Int), .int .u8 ((pw.r.f 7).toNat : Int), .int .u8 ((pw.b.f 0).toNat : Int), .int .u8 ((pw.b.f 1).toNat : Int), .int .u8 ((pw.b.f 2).toNat : Int), .int .u8 ((pw.b.f 3).toNat : Int), .int .u8 ((pw.b.f 4).toNat : Int), .int .u8 ((pw.b.f 5).toNat : Int), .int .u8 ((pw.b.f 6).toNat : Int), .int .u8 ((pw.b.f 7).toNat : Int), .int .i64 pw.c, .int .i64 pw.p, .int .i64 pw.age, .int .i64 pw.ma, .int .i64 pw.he, .int .i64 pw.de, .bool pw.ch, .bool pw.ak]) rfl (exact_load_mid (sub := [.int .u8 ((pw.r.f 0).toNat : Int), .int .u8 ((pw.r.f 1).toNat : Int), .int .u8 ((pw.r.f 2).toNat : Int), .int .u8 ((pw.r.f 3).toNat : Int), .int .u8 ((pw.r.f 4).toNat : Int), .int .u8 ((pw.r.f 5).toNat : Int), .int .u8 ((pw.r.f 6).toNat : Int), .int .u8 ((pw.r.f 7).toNat : Int), .int .u8 ((pw.b.f 0).toNat : Int), .int .u8 ((pw.b.f 1).toNat : Int), .int .u8 ((pw.b.f 2).toNat : Int), .int .u8 ((pw.b.f 3).toNat : Int), .int .u8 ((pw.b.f 4).toNat : Int), .int .u8 ((pw.b.f 5).toNat : Int), .int .u8 ((pw.b.f 6).toNat : Int), .int .u8 ((pw.b.f 7).toNat : Int), .int .i64 pw.c, .int .i64 pw.p, .int .i64 pw.age, .int .i64 pw.ma, .int .i64 pw.he, .int .i64 pw.de, .bool pw.ch, .bool pw.ak]) rfl rfl (by simp) R1.out rfl Try.underlying45 rfl (by kernel_rfl)) ?_
        (refine mix_step (by kernel_rfl) (by kernel_rfl) (fun K hK => ?_); go_simp; (try (simp only [↓IntWalk.iteOmega]; go_simp)); (first | (refine hK _ ?_; clear hK K) | (apply Exists.intro; refine ⟨fun _ => ?_, hK _ ?_⟩; (first | exact C2.out _ _); clear hK K)))
        (refine mix_step (by kernel_rfl) (by kernel_rfl) (fun K hK => ?_); go_simp; (try (simp only [↓IntWalk.iteOmega]; go_simp)); (first | (refine hK _ ?_; clear hK K) | (apply Exists.intro; refine ⟨fun _ => ?_, hK _ ?_⟩; (first | exact C3.out _); clear hK K)))
        (refine mix_step (by kernel_rfl) (by kernel_rfl) (fun K hK => ?_); go_simp; (try (simp only [↓IntWalk.iteOmega]; go_simp)); (first | (refine hK _ ?_; clear hK K) | (apply Exists.intro; refine ⟨fun _ => ?_, hK _ ?_⟩; (first | fail); clear hK K)))
        (refine mix_step (by kernel_rfl) (by kernel_rfl) (fun K hK => ?_); go_simp; (try (simp only [↓IntWalk.iteOmega]; go_simp)); (first | (refine hK _ ?_; clear hK K) | (apply Exists.intro; refine ⟨fun _ => ?_, hK _ ?_⟩; (first | fail); clear hK K)))
        (refine mix_step (by kernel_rfl) (by kernel_rfl) (fun K hK => ?_); go_simp; (try (simp only [↓IntWalk.iteOmega]; go_simp)); (first | (refine hK _ ?_; clear hK K) | (apply Exists.intro; refine ⟨fun _ => ?_, hK _ ?_⟩; (first | fail); clear hK K)))
        refine mix_exact (.agg #[.int .u8 ((x.b.f 0).toNat : Int), .int .u8 ((x.b.f 1).toNat : Int), .int .u8 ((x.b.f 2).toNat : Int), .int .u8 ((x.b.f 3).toNat : Int), .int .u8 ((x.b.f 4).toNat : Int), .int .u8 ((x.b.f 5).toNat : Int), .int .u8 ((x.b.f 6).toNat : Int), .int .u8 ((x.b.f 7).toNat : Int)]) rfl (exact_load_mid (sub := [.int .u8 ((x.b.f 0).toNat : Int), .int .u8 ((x.b.f 1).toNat : Int), .int .u8 ((x.b.f 2).toNat : Int), .int .u8 ((x.b.f 3).toNat : Int), .int .u8 ((x.b.f 4).toNat : Int), .int .u8 ((x.b.f 5).toNat : Int), .int .u8 ((x.b.f 6).toNat : Int), .int .u8 ((x.b.f 7).toNat : Int)]) rfl rfl (by simp) R2.out rfl Try.underlying23 rfl (by kernel_rfl)) ?_
        (refine mix_step (by kernel_rfl) (by kernel_rfl) (fun K hK => ?_); go_simp; (try (simp only [↓IntWalk.iteOmega]; go_simp)); (first | (refine hK _ ?_; clear hK K) | (apply Exists.intro; refine ⟨fun _ => ?_, hK _ ?_⟩; (first | fail); clear hK K)))
        (refine mix_step (by kernel_rfl) (by kernel_rfl) (fun K hK => ?_); go_simp; (try (simp only [↓IntWalk.iteOmega]; go_simp)); (first | (refine hK _ ?_; clear hK K) | (apply Exists.intro; refine ⟨fun _ => ?_, hK _ ?_⟩; (first | fail); clear hK K)))
        (refine mix_step (by kernel_rfl) (by kernel_rfl) (fun K hK => ?_); go_simp; (try (simp only [↓IntWalk.iteOmega]; go_simp)); (first | (refine hK _ ?_; clear hK K) | (apply Exists.intro; refine ⟨fun _ => ?_, hK _ ?_⟩; (first | fail); clear hK K)))
        (refine mix_step (by kernel_rfl) (by kernel_rfl) (fun K hK => ?_); go_simp; (try (simp only [↓IntWalk.iteOmega]; go_simp)); (first | (refine hK _ ?_; clear hK K) | (apply Exists.intro; refine ⟨fun _ => ?_, hK _ ?_⟩; (first | fail); clear hK K)))
        refine mix_exact (.agg #[.int .u8 ((pw.b.f 0).toNat : Int), .int .u8 ((pw.b.f 1).toNat : Int), .int .u8 ((pw.b.f 2).toNat : Int), .int .u8 ((pw.b.f 3).toNat : Int), .int .u8 ((pw.b.f 4).toNat : Int), .int .u8 ((pw.b.f 5).toNat : Int), .int .u8 ((pw.b.f 6).toNat : Int), .int .u8 ((pw.b.f 7).toNat : Int)]) rfl (exact_load_mid (sub := [.int .u8 ((pw.b.f 0).toNat : Int), .int .u8 ((pw.b.f 1).toNat : Int), .int .u8 ((pw.b.f 2).toNat : Int), .int .u8 ((pw.b.f 3).toNat : Int), .int .u8 ((pw.b.f 4).toNat : Int), .int .u8 ((pw.b.f 5).toNat : Int), .int .u8 ((pw.b.f 6).toNat : Int), .int .u8 ((pw.b.f 7).toNat : Int)]) rfl rfl (by simp) R1.out rfl Try.underlying23 rfl (by kernel_rfl)) ?_
        (refine mix_step (by kernel_rfl) (by kernel_rfl) (fun K hK => ?_); go_simp; (try (simp only [↓IntWalk.iteOmega]; go_simp)); (first | (refine hK _ ?_; clear hK K) | (apply Exists.intro; refine ⟨fun _ => ?_, hK _ ?_⟩; (first | fail); clear hK K)))
        (refine mix_step (by kernel_rfl) (by kernel_rfl) (fun K hK => ?_); go_simp; (try (simp only [↓IntWalk.iteOmega]; go_simp)); (first | (refine hK _ ?_; clear hK K) | (apply Exists.intro; refine ⟨fun _ => ?_, hK _ ?_⟩; (first | fail); clear hK K)))
        (refine mix_step (by kernel_rfl) (by kernel_rfl) (fun K hK => ?_); go_simp; (try (simp only [↓IntWalk.iteOmega]; go_simp)); (first | (refine hK _ ?_; clear hK K) | (apply Exists.intro; refine ⟨fun _ => ?_, hK _ ?_⟩; (first | fail); clear hK K)))
        (refine mix_step (by kernel_rfl) (by kernel_rfl) (fun K hK => ?_); go_simp; (try (simp only [↓IntWalk.iteOmega]; go_simp)); (first | (refine hK _ ?_; clear hK K) | (apply Exists.intro; refine ⟨fun _ => ?_, hK _ ?_⟩; (first | fail); clear hK K)))
        (refine mix_step (by kernel_rfl) (by kernel_rfl) (fun K hK => ?_); go_simp; (try (simp only [↓IntWalk.iteOmega]; go_simp)); (first | (refine hK _ ?_; clear hK K) | (apply Exists.intro; refine ⟨fun _ => ?_, hK _ ?_⟩; (first | fail); clear hK K)))
        (refine mix_step (by kernel_rfl) (by kernel_rfl) (fun K hK => ?_); go_simp; (try (simp only [↓IntWalk.iteOmega]; go_simp)); (first | (refine hK _ ?_; clear hK K) | (apply Exists.intro; refine ⟨fun _ => ?_, hK _ ?_⟩; (first | fail); clear hK K)))
        (refine mix_step (by kernel_rfl) (by kernel_rfl) (fun K hK => ?_); go_simp; (try (simp only [↓IntWalk.iteOmega]; go_simp)); (first | (refine hK _ ?_; clear hK K) | (apply Exists.intro; refine ⟨fun _ => ?_, hK _ ?_⟩; (first | fail); clear hK K)))
        (refine mix_step (by kernel_rfl) (by kernel_rfl) (fun K hK => ?_); go_simp; (try (simp only [↓IntWalk.iteOmega]; go_simp)); (first | (refine hK _ ?_; clear hK K) | (apply Exists.intro; refine ⟨fun _ => ?_, hK _ ?_⟩; (first | fail); clear hK K)))
        (refine mix_step (by kernel_rfl) (by kernel_rfl) (fun K hK => ?_); go_simp; (try (simp only [↓IntWalk.iteOmega]; go_simp)); (first | (refine hK _ ?_; clear hK K) | (apply Exists.intro; refine ⟨fun _ => ?_, hK _ ?_⟩; (first | fail); clear hK K)))
        (refine mix_step (by kernel_rfl) (by kernel_rfl) (fun K hK => ?_); go_simp; (try (simp only [↓IntWalk.iteOmega]; go_simp)); (first | (refine hK _ ?_; clear hK K) | (apply Exists.intro; refine ⟨fun _ => ?_, hK _ ?_⟩; (first | fail); clear hK K)))
        (refine mix_step (by kernel_rfl) (by kernel_rfl) (fun K hK => ?_); go_simp; (try (simp only [↓IntWalk.iteOmega]; go_simp)); (first | (refine hK _ ?_; clear hK K) | (apply Exists.intro; refine ⟨fun _ => ?_, hK _ ?_⟩; (first | fail); clear hK K)))
        (refine mix_step (by kernel_rfl) (by kernel_rfl) (fun K hK => ?_); go_simp; (try (simp only [↓IntWalk.iteOmega]; go_simp)); (first | (refine hK _ ?_; clear hK K) | (apply Exists.intro; refine ⟨fun _ => ?_, hK _ ?_⟩; (first | fail); clear hK K)))
        (refine mix_step (by kernel_rfl) (by kernel_rfl) (fun K hK => ?_); go_simp; (try (simp only [↓IntWalk.iteOmega]; go_simp)); (first | (refine hK _ ?_; clear hK K) | (apply Exists.intro; refine ⟨fun _ => ?_, hK _ ?_⟩; (first | fail); clear hK K)))
        refine mix_nil ?_
        rintro ⟨dq, osq⟩
        have hb1 := below_regrown W dq osq
        refine (show wpList _ _ _ _ _ _ from ?_)
        simp only [List.drop, Act.put, List.setIfInBounds_toArray, List.set]
        go_wp2_with fail
        go_ret
        exact ⟨by rw [HE.out]; rfl, by rw [HXB.out]; exact hbW.trans (hb1.mono (Nat.le_of_lt (R2.out.lt)))⟩
      · have HE : Hid (SP.hears ⟨pc, up, true, pw, prole, pstate, psince⟩ x = (x.p == pw.p)) := HE.out
        refine wp_region_mix 36 (by kernel_rfl) (by kernel_rfl) (by kernel_rfl) ?_
        (refine mix_step (by kernel_rfl) (by kernel_rfl) (fun K hK => ?_); go_simp; (try (simp only [↓IntWalk.iteOmega]; go_simp)); (first | (refine hK _ ?_; clear hK K) | (apply Exists.intro; refine ⟨fun _ => ?_, hK _ ?_⟩; (first | fail); clear hK K)))
        (refine mix_step (by kernel_rfl) (by kernel_rfl) (fun K hK => ?_); go_simp; (try (simp only [↓IntWalk.iteOmega]; go_simp)); (first | (refine hK _ ?_; clear hK K) | (apply Exists.intro; refine ⟨fun _ => ?_, hK _ ?_⟩; (first | fail); clear hK K)))
        (refine mix_step (by kernel_rfl) (by kernel_rfl) (fun K hK => ?_); go_simp; (try (simp only [↓IntWalk.iteOmega]; go_simp)); (first | (refine hK _ ?_; clear hK K) | (apply Exists.intro; refine ⟨fun _ => ?_, hK _ ?_⟩; (first | fail); clear hK K)))
        (refine mix_step (by kernel_rfl) (by kernel_rfl) (fun K hK => ?_); go_simp; (try (simp only [↓IntWalk.iteOmega]; go_simp)); (first | (refine hK _ ?_; clear hK K) | (apply Exists.intro; refine ⟨fun _ => ?_, hK _ ?_⟩; (first | fail); clear hK K)))
        (refine mix_step (by kernel_rfl) (by kernel_rfl) (fun K hK => ?_); go_simp; (try (simp only [↓IntWalk.iteOmega]; go_simp)); (first | (refine hK _ ?_; clear hK K) | (apply Exists.intro; refine ⟨fun _ => ?_, hK _ ?_⟩; (first | fail); clear hK K)))
        (refine mix_step (by kernel_rfl) (by kernel_rfl) (fun K hK => ?_); go_simp; (try (simp only [↓IntWalk.iteOmega]; go_simp)); (first | (refine hK _ ?_; clear hK K) | (apply Exists.intro; refine ⟨fun _ => ?_, hK _ ?_⟩; (first | fail); clear hK K)))
        refine mix_exact (.agg #[.int .u8 ((x.r.f 0).toNat : Int), .int .u8 ((x.r.f 1).toNat : Int), .int .u8 ((x.r.f 2).toNat : Int), .int .u8 ((x.r.f 3).toNat : Int), .int .u8 ((x.r.f 4).toNat : Int), .int .u8 ((x.r.f 5).toNat : Int), .int .u8 ((x.r.f 6).toNat : Int), .int .u8 ((x.r.f 7).toNat : Int), .int .u8 ((x.b.f 0).toNat : Int), .int .u8 ((x.b.f 1).toNat : Int), .int .u8 ((x.b.f 2).toNat : Int), .int .u8 ((x.b.f 3).toNat : Int), .int .u8 ((x.b.f 4).toNat : Int), .int .u8 ((x.b.f 5).toNat : Int), .int .u8 ((x.b.f 6).toNat : Int), .int .u8 ((x.b.f 7).toNat : Int), .int .i64 x.c, .int .i64 x.p, .int .i64 x.age, .int .i64 x.ma, .int .i64 x.he, .int .i64 x.de, .bool x.ch, .bool x.ak]) rfl (exact_load_row rfl rfl (by simp) R2.out Try.underlying45 rfl (by kernel_rfl)) ?_
        (refine mix_step (by kernel_rfl) (by kernel_rfl) (fun K hK => ?_); go_simp; (try (simp only [↓IntWalk.iteOmega]; go_simp)); (first | (refine hK _ ?_; clear hK K) | (apply Exists.intro; refine ⟨fun _ => ?_, hK _ ?_⟩; (first | exact C2.out _ _); clear hK K)))
        (refine mix_step (by kernel_rfl) (by kernel_rfl) (fun K hK => ?_); go_simp; (try (simp only [↓IntWalk.iteOmega]; go_simp)); (first | (refine hK _ ?_; clear hK K) | (apply Exists.intro; refine ⟨fun _ => ?_, hK _ ?_⟩; (first | fail); clear hK K)))
        (refine mix_step (by kernel_rfl) (by kernel_rfl) (fun K hK => ?_); go_simp; (try (simp only [↓IntWalk.iteOmega]; go_simp)); (first | (refine hK _ ?_; clear hK K) | (apply Exists.intro; refine ⟨fun _ => ?_, hK _ ?_⟩; (first | fail); clear hK K)))
        (refine mix_step (by kernel_rfl) (by kernel_rfl) (fun K hK => ?_); go_simp; (try (simp only [↓IntWalk.iteOmega]; go_simp)); (first | (refine hK _ ?_; clear hK K) | (apply Exists.intro; refine ⟨fun _ => ?_, hK _ ?_⟩; (first | fail); clear hK K)))
        refine mix_exact (.agg #[.int .u8 ((pw.r.f 0).toNat : Int), .int .u8 ((pw.r.f 1).toNat : Int), .int .u8 ((pw.r.f 2).toNat : Int), .int .u8 ((pw.r.f 3).toNat : Int), .int .u8 ((pw.r.f 4).toNat : Int), .int .u8 ((pw.r.f 5).toNat : Int), .int .u8 ((pw.r.f 6).toNat : Int), .int .u8 ((pw.r.f 7).toNat : Int), .int .u8 ((pw.b.f 0).toNat : Int), .int .u8 ((pw.b.f 1).toNat : Int), .int .u8 ((pw.b.f 2).toNat : Int), .int .u8 ((pw.b.f 3).toNat : Int), .int .u8 ((pw.b.f 4).toNat : Int), .int .u8 ((pw.b.f 5).toNat : Int), .int .u8 ((pw.b.f 6).toNat : Int), .int .u8 ((pw.b.f 7).toNat : Int), .int .i64 pw.c, .int .i64 pw.p, .int .i64 pw.age, .int .i64 pw.ma, .int .i64 pw.he, .int .i64 pw.de, .bool pw.ch, .bool pw.ak]) rfl (exact_load_mid (sub := [.int .u8 ((pw.r.f 0).toNat : Int), .int .u8 ((pw.r.f 1).toNat : Int), .int .u8 ((pw.r.f 2).toNat : Int), .int .u8 ((pw.r.f 3).toNat : Int), .int .u8 ((pw.r.f 4).toNat : Int), .int .u8 ((pw.r.f 5).toNat : Int), .int .u8 ((pw.r.f 6).toNat : Int), .int .u8 ((pw.r.f 7).toNat : Int), .int .u8 ((pw.b.f 0).toNat : Int), .int .u8 ((pw.b.f 1).toNat : Int), .int .u8 ((pw.b.f 2).toNat : Int), .int .u8 ((pw.b.f 3).toNat : Int), .int .u8 ((pw.b.f 4).toNat : Int), .int .u8 ((pw.b.f 5).toNat : Int), .int .u8 ((pw.b.f 6).toNat : Int), .int .u8 ((pw.b.f 7).toNat : Int), .int .i64 pw.c, .int .i64 pw.p, .int .i64 pw.age, .int .i64 pw.ma, .int .i64 pw.he, .int .i64 pw.de, .bool pw.ch, .bool pw.ak]) rfl rfl (by simp) R1.out rfl Try.underlying45 rfl (by kernel_rfl)) ?_
        (refine mix_step (by kernel_rfl) (by kernel_rfl) (fun K hK => ?_); go_simp; (try (simp only [↓IntWalk.iteOmega]; go_simp)); (first | (refine hK _ ?_; clear hK K) | (apply Exists.intro; refine ⟨fun _ => ?_, hK _ ?_⟩; (first | exact C2.out _ _); clear hK K)))
        (refine mix_step (by kernel_rfl) (by kernel_rfl) (fun K hK => ?_); go_simp; (try (simp only [↓IntWalk.iteOmega]; go_simp)); (first | (refine hK _ ?_; clear hK K) | (apply Exists.intro; refine ⟨fun _ => ?_, hK _ ?_⟩; (first | exact C3.out _); clear hK K)))
        (refine mix_step (by kernel_rfl) (by kernel_rfl) (fun K hK => ?_); go_simp; (try (simp only [↓IntWalk.iteOmega]; go_simp)); (first | (refine hK _ ?_; clear hK K) | (apply Exists.intro; refine ⟨fun _ => ?_, hK _ ?_⟩; (first | fail); clear hK K)))
        (refine mix_step (by kernel_rfl) (by kernel_rfl) (fun K hK => ?_); go_simp; (try (simp only [↓IntWalk.iteOmega]; go_simp)); (first | (refine hK _ ?_; clear hK K) | (apply Exists.intro; refine ⟨fun _ => ?_, hK _ ?_⟩; (first | fail); clear hK K)))
        (refine mix_step (by kernel_rfl) (by kernel_rfl) (fun K hK => ?_); go_simp; (try (simp only [↓IntWalk.iteOmega]; go_simp)); (first | (refine hK _ ?_; clear hK K) | (apply Exists.intro; refine ⟨fun _ => ?_, hK _ ?_⟩; (first | fail); clear hK K)))
        refine mix_exact (.agg #[.int .u8 ((x.b.f 0).toNat : Int), .int .u8 ((x.b.f 1).toNat : Int), .int .u8 ((x.b.f 2).toNat : Int), .int .u8 ((x.b.f 3).toNat : Int), .int .u8 ((x.b.f 4).toNat : Int), .int .u8 ((x.b.f 5).toNat : Int), .int .u8 ((x.b.f 6).toNat : Int), .int .u8 ((x.b.f 7).toNat : Int)]) rfl (exact_load_mid (sub := [.int .u8 ((x.b.f 0).toNat : Int), .int .u8 ((x.b.f 1).toNat : Int), .int .u8 ((x.b.f 2).toNat : Int), .int .u8 ((x.b.f 3).toNat : Int), .int .u8 ((x.b.f 4).toNat : Int), .int .u8 ((x.b.f 5).toNat : Int), .int .u8 ((x.b.f 6).toNat : Int), .int .u8 ((x.b.f 7).toNat : Int)]) rfl rfl (by simp) R2.out rfl Try.underlying23 rfl (by kernel_rfl)) ?_
        (refine mix_step (by kernel_rfl) (by kernel_rfl) (fun K hK => ?_); go_simp; (try (simp only [↓IntWalk.iteOmega]; go_simp)); (first | (refine hK _ ?_; clear hK K) | (apply Exists.intro; refine ⟨fun _ => ?_, hK _ ?_⟩; (first | fail); clear hK K)))
        (refine mix_step (by kernel_rfl) (by kernel_rfl) (fun K hK => ?_); go_simp; (try (simp only [↓IntWalk.iteOmega]; go_simp)); (first | (refine hK _ ?_; clear hK K) | (apply Exists.intro; refine ⟨fun _ => ?_, hK _ ?_⟩; (first | fail); clear hK K)))
        (refine mix_step (by kernel_rfl) (by kernel_rfl) (fun K hK => ?_); go_simp; (try (simp only [↓IntWalk.iteOmega]; go_simp)); (first | (refine hK _ ?_; clear hK K) | (apply Exists.intro; refine ⟨fun _ => ?_, hK _ ?_⟩; (first | fail); clear hK K)))
        (refine mix_step (by kernel_rfl) (by kernel_rfl) (fun K hK => ?_); go_simp; (try (simp only [↓IntWalk.iteOmega]; go_simp)); (first | (refine hK _ ?_; clear hK K) | (apply Exists.intro; refine ⟨fun _ => ?_, hK _ ?_⟩; (first | fail); clear hK K)))
        refine mix_exact (.agg #[.int .u8 ((pw.b.f 0).toNat : Int), .int .u8 ((pw.b.f 1).toNat : Int), .int .u8 ((pw.b.f 2).toNat : Int), .int .u8 ((pw.b.f 3).toNat : Int), .int .u8 ((pw.b.f 4).toNat : Int), .int .u8 ((pw.b.f 5).toNat : Int), .int .u8 ((pw.b.f 6).toNat : Int), .int .u8 ((pw.b.f 7).toNat : Int)]) rfl (exact_load_mid (sub := [.int .u8 ((pw.b.f 0).toNat : Int), .int .u8 ((pw.b.f 1).toNat : Int), .int .u8 ((pw.b.f 2).toNat : Int), .int .u8 ((pw.b.f 3).toNat : Int), .int .u8 ((pw.b.f 4).toNat : Int), .int .u8 ((pw.b.f 5).toNat : Int), .int .u8 ((pw.b.f 6).toNat : Int), .int .u8 ((pw.b.f 7).toNat : Int)]) rfl rfl (by simp) R1.out rfl Try.underlying23 rfl (by kernel_rfl)) ?_
        (refine mix_step (by kernel_rfl) (by kernel_rfl) (fun K hK => ?_); go_simp; (try (simp only [↓IntWalk.iteOmega]; go_simp)); (first | (refine hK _ ?_; clear hK K) | (apply Exists.intro; refine ⟨fun _ => ?_, hK _ ?_⟩; (first | fail); clear hK K)))
        (refine mix_step (by kernel_rfl) (by kernel_rfl) (fun K hK => ?_); go_simp; (try (simp only [↓IntWalk.iteOmega]; go_simp)); (first | (refine hK _ ?_; clear hK K) | (apply Exists.intro; refine ⟨fun _ => ?_, hK _ ?_⟩; (first | fail); clear hK K)))
        (refine mix_step (by kernel_rfl) (by kernel_rfl) (fun K hK => ?_); go_simp; (try (simp only [↓IntWalk.iteOmega]; go_simp)); (first | (refine hK _ ?_; clear hK K) | (apply Exists.intro; refine ⟨fun _ => ?_, hK _ ?_⟩; (first | fail); clear hK K)))
        (refine mix_step (by kernel_rfl) (by kernel_rfl) (fun K hK => ?_); go_simp; (try (simp only [↓IntWalk.iteOmega]; go_simp)); (first | (refine hK _ ?_; clear hK K) | (apply Exists.intro; refine ⟨fun _ => ?_, hK _ ?_⟩; (first | fail); clear hK K)))
        (refine mix_step (by kernel_rfl) (by kernel_rfl) (fun K hK => ?_); go_simp; (try (simp only [↓IntWalk.iteOmega]; go_simp)); (first | (refine hK _ ?_; clear hK K) | (apply Exists.intro; refine ⟨fun _ => ?_, hK _ ?_⟩; (first | fail); clear hK K)))
        (refine mix_step (by kernel_rfl) (by kernel_rfl) (fun K hK => ?_); go_simp; (try (simp only [↓IntWalk.iteOmega]; go_simp)); (first | (refine hK _ ?_; clear hK K) | (apply Exists.intro; refine ⟨fun _ => ?_, hK _ ?_⟩; (first | fail); clear hK K)))
        (refine mix_step (by kernel_rfl) (by kernel_rfl) (fun K hK => ?_); go_simp; (try (simp only [↓IntWalk.iteOmega]; go_simp)); (first | (refine hK _ ?_; clear hK K) | (apply Exists.intro; refine ⟨fun _ => ?_, hK _ ?_⟩; (first | fail); clear hK K)))
        (refine mix_step (by kernel_rfl) (by kernel_rfl) (fun K hK => ?_); go_simp; (try (simp only [↓IntWalk.iteOmega]; go_simp)); (first | (refine hK _ ?_; clear hK K) | (apply Exists.intro; refine ⟨fun _ => ?_, hK _ ?_⟩; (first | fail); clear hK K)))
        (refine mix_step (by kernel_rfl) (by kernel_rfl) (fun K hK => ?_); go_simp; (try (simp only [↓IntWalk.iteOmega]; go_simp)); (first | (refine hK _ ?_; clear hK K) | (apply Exists.intro; refine ⟨fun _ => ?_, hK _ ?_⟩; (first | fail); clear hK K)))
        (refine mix_step (by kernel_rfl) (by kernel_rfl) (fun K hK => ?_); go_simp; (try (simp only [↓IntWalk.iteOmega]; go_simp)); (first | (refine hK _ ?_; clear hK K) | (apply Exists.intro; refine ⟨fun _ => ?_, hK _ ?_⟩; (first | fail); clear hK K)))
        (refine mix_step (by kernel_rfl) (by kernel_rfl) (fun K hK => ?_); go_simp; (try (simp only [↓IntWalk.iteOmega]; go_simp)); (first | (refine hK _ ?_; clear hK K) | (apply Exists.intro; refine ⟨fun _ => ?_, hK _ ?_⟩; (first | fail); clear hK K)))
        (refine mix_step (by kernel_rfl) (by kernel_rfl) (fun K hK => ?_); go_simp; (try (simp only [↓IntWalk.iteOmega]; go_simp)); (first | (refine hK _ ?_; clear hK K) | (apply Exists.intro; refine ⟨fun _ => ?_, hK _ ?_⟩; (first | fail); clear hK K)))
        (refine mix_step (by kernel_rfl) (by kernel_rfl) (fun K hK => ?_); go_simp; (try (simp only [↓IntWalk.iteOmega]; go_simp)); (first | (refine hK _ ?_; clear hK K) | (apply Exists.intro; refine ⟨fun _ => ?_, hK _ ?_⟩; (first | fail); clear hK K)))
        refine mix_nil ?_
        rintro ⟨dq, osq⟩
        have hb1 := below_regrown W dq osq
        refine (show wpList _ _ _ _ _ _ from ?_)
        simp only [List.drop, Act.put, List.setIfInBounds_toArray, List.set]
        go_wp2_with fail
        go_ret
        exact ⟨by rw [HE.out]; rfl, by rw [HXB.out]; exact hbW.trans (hb1.mono (Nat.le_of_lt (R2.out.lt)))⟩
    · have HE : Hid (SP.hears ⟨pc, up, true, pw, prole, pstate, psince⟩ x = true) := HE.out
      refine wp_region_mix 36 (by kernel_rfl) (by kernel_rfl) (by kernel_rfl) ?_
      (refine mix_step (by kernel_rfl) (by kernel_rfl) (fun K hK => ?_); go_simp; (try (simp only [↓IntWalk.iteOmega]; go_simp)); (first | (refine hK _ ?_; clear hK K) | (apply Exists.intro; refine ⟨fun _ => ?_, hK _ ?_⟩; (first | fail); clear hK K)))
      (refine mix_step (by kernel_rfl) (by kernel_rfl) (fun K hK => ?_); go_simp; (try (simp only [↓IntWalk.iteOmega]; go_simp)); (first | (refine hK _ ?_; clear hK K) | (apply Exists.intro; refine ⟨fun _ => ?_, hK _ ?_⟩; (first | fail); clear hK K)))
      (refine mix_step (by kernel_rfl) (by kernel_rfl) (fun K hK => ?_); go_simp; (try (simp only [↓IntWalk.iteOmega]; go_simp)); (first | (refine hK _ ?_; clear hK K) | (apply Exists.intro; refine ⟨fun _ => ?_, hK _ ?_⟩; (first | fail); clear hK K)))
      (refine mix_step (by kernel_rfl) (by kernel_rfl) (fun K hK => ?_); go_simp; (try (simp only [↓IntWalk.iteOmega]; go_simp)); (first | (refine hK _ ?_; clear hK K) | (apply Exists.intro; refine ⟨fun _ => ?_, hK _ ?_⟩; (first | fail); clear hK K)))
      (refine mix_step (by kernel_rfl) (by kernel_rfl) (fun K hK => ?_); go_simp; (try (simp only [↓IntWalk.iteOmega]; go_simp)); (first | (refine hK _ ?_; clear hK K) | (apply Exists.intro; refine ⟨fun _ => ?_, hK _ ?_⟩; (first | fail); clear hK K)))
      (refine mix_step (by kernel_rfl) (by kernel_rfl) (fun K hK => ?_); go_simp; (try (simp only [↓IntWalk.iteOmega]; go_simp)); (first | (refine hK _ ?_; clear hK K) | (apply Exists.intro; refine ⟨fun _ => ?_, hK _ ?_⟩; (first | fail); clear hK K)))
      refine mix_exact (.agg #[.int .u8 ((x.r.f 0).toNat : Int), .int .u8 ((x.r.f 1).toNat : Int), .int .u8 ((x.r.f 2).toNat : Int), .int .u8 ((x.r.f 3).toNat : Int), .int .u8 ((x.r.f 4).toNat : Int), .int .u8 ((x.r.f 5).toNat : Int), .int .u8 ((x.r.f 6).toNat : Int), .int .u8 ((x.r.f 7).toNat : Int), .int .u8 ((x.b.f 0).toNat : Int), .int .u8 ((x.b.f 1).toNat : Int), .int .u8 ((x.b.f 2).toNat : Int), .int .u8 ((x.b.f 3).toNat : Int), .int .u8 ((x.b.f 4).toNat : Int), .int .u8 ((x.b.f 5).toNat : Int), .int .u8 ((x.b.f 6).toNat : Int), .int .u8 ((x.b.f 7).toNat : Int), .int .i64 x.c, .int .i64 x.p, .int .i64 x.age, .int .i64 x.ma, .int .i64 x.he, .int .i64 x.de, .bool x.ch, .bool x.ak]) rfl (exact_load_row rfl rfl (by simp) R2.out Try.underlying45 rfl (by kernel_rfl)) ?_
      (refine mix_step (by kernel_rfl) (by kernel_rfl) (fun K hK => ?_); go_simp; (try (simp only [↓IntWalk.iteOmega]; go_simp)); (first | (refine hK _ ?_; clear hK K) | (apply Exists.intro; refine ⟨fun _ => ?_, hK _ ?_⟩; (first | exact C2.out _ _); clear hK K)))
      (refine mix_step (by kernel_rfl) (by kernel_rfl) (fun K hK => ?_); go_simp; (try (simp only [↓IntWalk.iteOmega]; go_simp)); (first | (refine hK _ ?_; clear hK K) | (apply Exists.intro; refine ⟨fun _ => ?_, hK _ ?_⟩; (first | fail); clear hK K)))
      (refine mix_step (by kernel_rfl) (by kernel_rfl) (fun K hK => ?_); go_simp; (try (simp only [↓IntWalk.iteOmega]; go_simp)); (first | (refine hK _ ?_; clear hK K) | (apply Exists.intro; refine ⟨fun _ => ?_, hK _ ?_⟩; (first | fail); clear hK K)))
      (refine mix_step (by kernel_rfl) (by kernel_rfl) (fun K hK => ?_); go_simp; (try (simp only [↓IntWalk.iteOmega]; go_simp)); (first | (refine hK _ ?_; clear hK K) | (apply Exists.intro; refine ⟨fun _ => ?_, hK _ ?_⟩; (first | fail); clear hK K)))
      refine mix_exact (.agg #[.int .u8 ((pw.r.f 0).toNat : Int), .int .u8 ((pw.r.f 1).toNat : Int), .int .u8 ((pw.r.f 2).toNat : Int), .int .u8 ((pw.r.f 3).toNat : Int), .int .u8 ((pw.r.f 4).toNat : Int), .int .u8 ((pw.r.f 5).toNat : Int), .int .u8 ((pw.r.f 6).toNat : Int), .int .u8 ((pw.r.f 7).toNat : Int), .int .u8 ((pw.b.f 0).toNat : Int), .int .u8 ((pw.b.f 1).toNat : Int), .int .u8 ((pw.b.f 2).toNat : Int), .int .u8 ((pw.b.f 3).toNat : Int), .int .u8 ((pw.b.f 4).toNat : Int), .int .u8 ((pw.b.f 5).toNat : Int), .int .u8 ((pw.b.f 6).toNat : Int), .int .u8 ((pw.b.f 7).toNat : Int), .int .i64 pw.c, .int .i64 pw.p, .int .i64 pw.age, .int .i64 pw.ma, .int .i64 pw.he, .int .i64 pw.de, .bool pw.ch, .bool pw.ak]) rfl (exact_load_mid (sub := [.int .u8 ((pw.r.f 0).toNat : Int), .int .u8 ((pw.r.f 1).toNat : Int), .int .u8 ((pw.r.f 2).toNat : Int), .int .u8 ((pw.r.f 3).toNat : Int), .int .u8 ((pw.r.f 4).toNat : Int), .int .u8 ((pw.r.f 5).toNat : Int), .int .u8 ((pw.r.f 6).toNat : Int), .int .u8 ((pw.r.f 7).toNat : Int), .int .u8 ((pw.b.f 0).toNat : Int), .int .u8 ((pw.b.f 1).toNat : Int), .int .u8 ((pw.b.f 2).toNat : Int), .int .u8 ((pw.b.f 3).toNat : Int), .int .u8 ((pw.b.f 4).toNat : Int), .int .u8 ((pw.b.f 5).toNat : Int), .int .u8 ((pw.b.f 6).toNat : Int), .int .u8 ((pw.b.f 7).toNat : Int), .int .i64 pw.c, .int .i64 pw.p, .int .i64 pw.age, .int .i64 pw.ma, .int .i64 pw.he, .int .i64 pw.de, .bool pw.ch, .bool pw.ak]) rfl rfl (by simp) R1.out rfl Try.underlying45 rfl (by kernel_rfl)) ?_
      (refine mix_step (by kernel_rfl) (by kernel_rfl) (fun K hK => ?_); go_simp; (try (simp only [↓IntWalk.iteOmega]; go_simp)); (first | (refine hK _ ?_; clear hK K) | (apply Exists.intro; refine ⟨fun _ => ?_, hK _ ?_⟩; (first | exact C2.out _ _); clear hK K)))
      (refine mix_step (by kernel_rfl) (by kernel_rfl) (fun K hK => ?_); go_simp; (try (simp only [↓IntWalk.iteOmega]; go_simp)); (first | (refine hK _ ?_; clear hK K) | (apply Exists.intro; refine ⟨fun _ => ?_, hK _ ?_⟩; (first | exact C3.out _); clear hK K)))
      (refine mix_step (by kernel_rfl) (by kernel_rfl) (fun K hK => ?_); go_simp; (try (simp only [↓IntWalk.iteOmega]; go_simp)); (first | (refine hK _ ?_; clear hK K) | (apply Exists.intro; refine ⟨fun _ => ?_, hK _ ?_⟩; (first | fail); clear hK K)))
      (refine mix_step (by kernel_rfl) (by kernel_rfl) (fun K hK => ?_); go_simp; (try (simp only [↓IntWalk.iteOmega]; go_simp)); (first | (refine hK _ ?_; clear hK K) | (apply Exists.intro; refine ⟨fun _ => ?_, hK _ ?_⟩; (first | fail); clear hK K)))
      (refine mix_step (by kernel_rfl) (by kernel_rfl) (fun K hK => ?_); go_simp; (try (simp only [↓IntWalk.iteOmega]; go_simp)); (first | (refine hK _ ?_; clear hK K) | (apply Exists.intro; refine ⟨fun _ => ?_, hK _ ?_⟩; (first | fail); clear hK K)))
      (refine mix_step (by kernel_rfl) (by kernel_rfl) (fun K hK => ?_); go_simp; (try (simp only [↓IntWalk.iteOmega]; go_simp)); (first | (refine hK _ ?_; clear hK K) | (apply Exists.intro; refine ⟨fun _ => ?_, hK _ ?_⟩; (first | fail); clear hK K)))
      (refine mix_step (by kernel_rfl) (by kernel_rfl) (fun K hK => ?_); go_simp; (try (simp only [↓IntWalk.iteOmega]; go_simp)); (first | (refine hK _ ?_; clear hK K) | (apply Exists.intro; refine ⟨fun _ => ?_, hK _ ?_⟩; (first | fail); clear hK K)))
      (refine mix_step (by kernel_rfl) (by kernel_rfl) (fun K hK => ?_); go_simp; (try (simp only [↓IntWalk.iteOmega]; go_simp)); (first | (refine hK _ ?_; clear hK K) | (apply Exists.intro; refine ⟨fun _ => ?_, hK _ ?_⟩; (first | fail); clear hK K)))
      (refine mix_step (by kernel_rfl) (by kernel_rfl) (fun K hK => ?_); go_simp; (try (simp only [↓IntWalk.iteOmega]; go_simp)); (first | (refine hK _ ?_; clear hK K) | (apply Exists.intro; refine ⟨fun _ => ?_, hK _ ?_⟩; (first | fail); clear hK K)))
      (refine mix_step (by kernel_rfl) (by kernel_rfl) (fun K hK => ?_); go_simp; (try (simp only [↓IntWalk.iteOmega]; go_simp)); (first | (refine hK _ ?_; clear hK K) | (apply Exists.intro; refine ⟨fun _ => ?_, hK _ ?_⟩; (first | fail); clear hK K)))
      (refine mix_step (by kernel_rfl) (by kernel_rfl) (fun K hK => ?_); go_simp; (try (simp only [↓IntWalk.iteOmega]; go_simp)); (first | (refine hK _ ?_; clear hK K) | (apply Exists.intro; refine ⟨fun _ => ?_, hK _ ?_⟩; (first | fail); clear hK K)))
      (refine mix_step (by kernel_rfl) (by kernel_rfl) (fun K hK => ?_); go_simp; (try (simp only [↓IntWalk.iteOmega]; go_simp)); (first | (refine hK _ ?_; clear hK K) | (apply Exists.intro; refine ⟨fun _ => ?_, hK _ ?_⟩; (first | fail); clear hK K)))
      (refine mix_step (by kernel_rfl) (by kernel_rfl) (fun K hK => ?_); go_simp; (try (simp only [↓IntWalk.iteOmega]; go_simp)); (first | (refine hK _ ?_; clear hK K) | (apply Exists.intro; refine ⟨fun _ => ?_, hK _ ?_⟩; (first | fail); clear hK K)))
      (refine mix_step (by kernel_rfl) (by kernel_rfl) (fun K hK => ?_); go_simp; (try (simp only [↓IntWalk.iteOmega]; go_simp)); (first | (refine hK _ ?_; clear hK K) | (apply Exists.intro; refine ⟨fun _ => ?_, hK _ ?_⟩; (first | fail); clear hK K)))
      (refine mix_step (by kernel_rfl) (by kernel_rfl) (fun K hK => ?_); go_simp; (try (simp only [↓IntWalk.iteOmega]; go_simp)); (first | (refine hK _ ?_; clear hK K) | (apply Exists.intro; refine ⟨fun _ => ?_, hK _ ?_⟩; (first | fail); clear hK K)))
      (refine mix_step (by kernel_rfl) (by kernel_rfl) (fun K hK => ?_); go_simp; (try (simp only [↓IntWalk.iteOmega]; go_simp)); (first | (refine hK _ ?_; clear hK K) | (apply Exists.intro; refine ⟨fun _ => ?_, hK _ ?_⟩; (first | fail); clear hK K)))
      (refine mix_step (by kernel_rfl) (by kernel_rfl) (fun K hK => ?_); go_simp; (try (simp only [↓IntWalk.iteOmega]; go_simp)); (first | (refine hK _ ?_; clear hK K) | (apply Exists.intro; refine ⟨fun _ => ?_, hK _ ?_⟩; (first | fail); clear hK K)))
      (refine mix_step (by kernel_rfl) (by kernel_rfl) (fun K hK => ?_); go_simp; (try (simp only [↓IntWalk.iteOmega]; go_simp)); (first | (refine hK _ ?_; clear hK K) | (apply Exists.intro; refine ⟨fun _ => ?_, hK _ ?_⟩; (first | fail); clear hK K)))
      (refine mix_step (by kernel_rfl) (by kernel_rfl) (fun K hK => ?_); go_simp; (try (simp only [↓IntWalk.iteOmega]; go_simp)); (first | (refine hK _ ?_; clear hK K) | (apply Exists.intro; refine ⟨fun _ => ?_, hK _ ?_⟩; (first | fail); clear hK K)))
      (refine mix_step (by kernel_rfl) (by kernel_rfl) (fun K hK => ?_); go_simp; (try (simp only [↓IntWalk.iteOmega]; go_simp)); (first | (refine hK _ ?_; clear hK K) | (apply Exists.intro; refine ⟨fun _ => ?_, hK _ ?_⟩; (first | fail); clear hK K)))
      (refine mix_step (by kernel_rfl) (by kernel_rfl) (fun K hK => ?_); go_simp; (try (simp only [↓IntWalk.iteOmega]; go_simp)); (first | (refine hK _ ?_; clear hK K) | (apply Exists.intro; refine ⟨fun _ => ?_, hK _ ?_⟩; (first | fail); clear hK K)))
      (refine mix_step (by kernel_rfl) (by kernel_rfl) (fun K hK => ?_); go_simp; (try (simp only [↓IntWalk.iteOmega]; go_simp)); (first | (refine hK _ ?_; clear hK K) | (apply Exists.intro; refine ⟨fun _ => ?_, hK _ ?_⟩; (first | fail); clear hK K)))
      (refine mix_step (by kernel_rfl) (by kernel_rfl) (fun K hK => ?_); go_simp; (try (simp only [↓IntWalk.iteOmega]; go_simp)); (first | (refine hK _ ?_; clear hK K) | (apply Exists.intro; refine ⟨fun _ => ?_, hK _ ?_⟩; (first | fail); clear hK K)))
      (refine mix_step (by kernel_rfl) (by kernel_rfl) (fun K hK => ?_); go_simp; (try (simp only [↓IntWalk.iteOmega]; go_simp)); (first | (refine hK _ ?_; clear hK K) | (apply Exists.intro; refine ⟨fun _ => ?_, hK _ ?_⟩; (first | fail); clear hK K)))
      refine mix_nil ?_
      rintro ⟨dq, osq⟩
      have hb1 := below_regrown W dq osq
      refine (show wpList _ _ _ _ _ _ from ?_)
      simp only [List.drop, Act.put, List.setIfInBounds_toArray, List.set]
      go_wp2_with fail
      go_ret
      exact ⟨by rw [HE.out]; rfl, by rw [HXB.out]; exact hbW.trans (hb1.mono (Nat.le_of_lt (R2.out.lt)))⟩
end Go.Proofs.Ytdhiaidbpjjljaa
