/- span: rooted. By an AI agent. -/
import Derived.Test.YthfckdnennfnoaaGreatDoorSpan1
import Derived.Test.YthfckdnennfnoaaGreatDoorGrowPart
import Derived.Deep.DeepCutAuto
namespace Go.Proofs.YthfckdnennfnoaaGreatDoor
open Go.RowKit Go.Sort Grow

/-- the vector that is heard on a port, as it counts for the bridge -/
def SP.over (p : SP) : SV := ⟨p.w.r, Vec.held p.w.c + Vec.held p.cost, p.w.b, p.w.p⟩
def SS.own (s : SS) : SV := ⟨s.id, 0, s.id, 0⟩
theorem SpAt.spanSetL {B S g cap : Nat} {pbs : List Nat} {w w' : World} {s : SS} (h : SpAt B S g cap pbs w s) {s' : SS} (hp : s'.ports = s.ports) (hr : RowIs w' S 138 (s'.cells g cap)) (ho : ∀ j, j < w.heap.size → j ≠ S → w'.heap[j]? = w.heap[j]?) : SpAt B S g cap pbs w' s' := by
  obtain ⟨cur, h1, h2⟩ := h.arr
  have e : ∀ i, s'.port i = s.port i := fun i => by unfold SS.port; rw [hp]
  exact ⟨h.hB, hr, h.hg, ⟨cur, rowIs_same h1 (ho _ h1.lt (rowIs_ne h1 h.row (by decide))), h2⟩, by rw [hp]; exact h.len, h.nodup, fun i hi => ⟨(h.ports i hi).1, by
    rw [e]
    exact rowIs_same (h.ports i hi).2 (ho _ (h.ports i hi).2.lt (rowIs_ne (h.ports i hi).2 h.row (by decide)))⟩⟩
def rootStep (s : SS) (i : Nat) (st : SV × Int) : SV × Int := if ((s.port i).up && (s.port i).heard && (s.port i).over.better st.1) = true then ((s.port i).over, (i : Int)) else st
def rootF (s : SS) : Nat → SV × Int
  | 0 => (s.own, -1)
  | k + 1 => rootStep s k (rootF s k)
def SS.at (s : SS) (st : SV × Int) : SS := { s with best := st.1, root := st.2 }
def SS.rooted (s : SS) : SS := s.at (rootF s s.ports.length)
theorem SS.at_at (s : SS) (a b : SV × Int) : (s.at a).at b = s.at b := rfl
theorem SpAt.atSet {B S g cap : Nat} {pbs : List Nat} {w w' : World} {s : SS} (h : SpAt B S g cap pbs w s) (st : SV × Int) (hr : RowIs w' S 138 ((s.at st).cells g cap)) (ho : ∀ j, j ≠ S → w'.heap[j]? = w.heap[j]?) : SpAt B S g cap pbs w' (s.at st) :=
  h.spanSet (s' := s.at st) rfl hr ho

theorem part_stored {g k j : Nat} {t : TypeId} {cells : Array Value} {w : World} {v : Value} (h : ∃ u, PartAt g t k cells w u) (hj : cells[j]? = some v) : ∃ u, StoredAt g t (k + j) v w u := by
  obtain ⟨u, cs, hr, hk⟩ := h
  exact ⟨u, cs, hr, hk j v hj⟩

set_option maxRecDepth 20000 in
set_option maxHeartbeats 8000000 in
theorem rooted_any (B S g cap : Nat) (pbs : List Nat) (w : World) (s : SS) (h : SpAt B S g cap pbs w s) (hp : pbs.length ≤ 1000) :
    Calls Tryz.prog 68 #[.pointer (some ⟨S, 0, none⟩)] w fun e w' => e = .returned (.tuple #[]) ∧ SpAt B S g cap pbs w' s.rooted ∧ Below B w w' ∧ Only [S] w w' := by
  have HA := Lib.hid h
  have hlen : s.ports.length = pbs.length := h.len.symm
  have HBS := h.hB
  have hSw := h.row.lt
  clear h
  go_enter Tryz.func68, Tryz.ntmps68
  go_upto_region 0 with fail
  have R0 : Hid (RowIs w S 138 #[.int .u8 ((s.id.f 0).toNat : Int), .int .u8 ((s.id.f 1).toNat : Int), .int .u8 ((s.id.f 2).toNat : Int), .int .u8 ((s.id.f 3).toNat : Int), .int .u8 ((s.id.f 4).toNat : Int), .int .u8 ((s.id.f 5).toNat : Int), .int .u8 ((s.id.f 6).toNat : Int), .int .u8 ((s.id.f 7).toNat : Int), .int .i64 s.ma, .int .i64 s.he, .int .i64 s.de, .slice (some ⟨g, 0, none⟩) s.ports.length cap, .int .u8 ((s.best.r.f 0).toNat : Int), .int .u8 ((s.best.r.f 1).toNat : Int), .int .u8 ((s.best.r.f 2).toNat : Int), .int .u8 ((s.best.r.f 3).toNat : Int), .int .u8 ((s.best.r.f 4).toNat : Int), .int .u8 ((s.best.r.f 5).toNat : Int), .int .u8 ((s.best.r.f 6).toNat : Int), .int .u8 ((s.best.r.f 7).toNat : Int), .int .i64 s.best.c, .int .u8 ((s.best.b.f 0).toNat : Int), .int .u8 ((s.best.b.f 1).toNat : Int), .int .u8 ((s.best.b.f 2).toNat : Int), .int .u8 ((s.best.b.f 3).toNat : Int), .int .u8 ((s.best.b.f 4).toNat : Int), .int .u8 ((s.best.b.f 5).toNat : Int), .int .u8 ((s.best.b.f 6).toNat : Int), .int .u8 ((s.best.b.f 7).toNat : Int), .int .i64 s.best.p, .int .i64 s.root, .int .i64 s.now, .int .i64 s.chg]) := HA.out.row
  refine wp_region_mixL (wle_ok S [(12, (.int .u8 ((s.id.f 0).toNat : Int))), (13, (.int .u8 ((s.id.f 1).toNat : Int))), (14, (.int .u8 ((s.id.f 2).toNat : Int))), (15, (.int .u8 ((s.id.f 3).toNat : Int))), (16, (.int .u8 ((s.id.f 4).toNat : Int))), (17, (.int .u8 ((s.id.f 5).toNat : Int))), (18, (.int .u8 ((s.id.f 6).toNat : Int))), (19, (.int .u8 ((s.id.f 7).toNat : Int))), (20, (.int .i64 0)), (21, (.int .u8 ((s.id.f 0).toNat : Int))), (22, (.int .u8 ((s.id.f 1).toNat : Int))), (23, (.int .u8 ((s.id.f 2).toNat : Int))), (24, (.int .u8 ((s.id.f 3).toNat : Int))), (25, (.int .u8 ((s.id.f 4).toNat : Int))), (26, (.int .u8 ((s.id.f 5).toNat : Int))), (27, (.int .u8 ((s.id.f 6).toNat : Int))), (28, (.int .u8 ((s.id.f 7).toNat : Int))), (29, (.int .i64 0)), (30, .int .i64 (-1))]) 17 (by kernel_rfl) (by kernel_rfl) (by kernel_rfl) ?_
  (refine mix_stepP (by kernel_rfl) (by kernel_rfl) (fun K hK => ?_); go_simp; (first | (refine hK _ ?_; clear hK K) | (apply Exists.intro; refine ⟨fun _ => ?_, hK _ ?_⟩; (first | fail); clear hK K)))
  (refine mix_stepP (by kernel_rfl) (by kernel_rfl) (fun K hK => ?_); go_simp; (first | (refine hK _ ?_; clear hK K) | (apply Exists.intro; refine ⟨fun _ => ?_, hK _ ?_⟩; (first | fail); clear hK K)))
  (refine mix_stepP (by kernel_rfl) (by kernel_rfl) (fun K hK => ?_); go_simp; (first | (refine hK _ ?_; clear hK K) | (apply Exists.intro; refine ⟨fun _ => ?_, hK _ ?_⟩; (first | fail); clear hK K)))
  (refine mix_stepP (by kernel_rfl) (by kernel_rfl) (fun K hK => ?_); go_simp; (first | (refine hK _ ?_; clear hK K) | (apply Exists.intro; refine ⟨fun _ => ?_, hK _ ?_⟩; (first | fail); clear hK K)))
  (refine mix_stepP (by kernel_rfl) (by kernel_rfl) (fun K hK => ?_); go_simp; (first | (refine hK _ ?_; clear hK K) | (apply Exists.intro; refine ⟨fun _ => ?_, hK _ ?_⟩; (first | fail); clear hK K)))
  refine mix_exact (.agg #[.int .u8 ((s.id.f 0).toNat : Int), .int .u8 ((s.id.f 1).toNat : Int), .int .u8 ((s.id.f 2).toNat : Int), .int .u8 ((s.id.f 3).toNat : Int), .int .u8 ((s.id.f 4).toNat : Int), .int .u8 ((s.id.f 5).toNat : Int), .int .u8 ((s.id.f 6).toNat : Int), .int .u8 ((s.id.f 7).toNat : Int)]) rfl (exact_loadL (sub := [.int .u8 ((s.id.f 0).toNat : Int), .int .u8 ((s.id.f 1).toNat : Int), .int .u8 ((s.id.f 2).toNat : Int), .int .u8 ((s.id.f 3).toNat : Int), .int .u8 ((s.id.f 4).toNat : Int), .int .u8 ((s.id.f 5).toNat : Int), .int .u8 ((s.id.f 6).toNat : Int), .int .u8 ((s.id.f 7).toNat : Int)]) rfl rfl (by simp) R0.out rfl (.inr (by simp)) Tryz.underlying28 rfl (by kernel_rfl)) ?_
  (refine mix_stepP (by kernel_rfl) (by kernel_rfl) (fun K hK => ?_); go_simp; (first | (refine hK _ ?_; clear hK K) | (apply Exists.intro; refine ⟨fun _ => ?_, hK _ ?_⟩; (first | fail); clear hK K)))
  (refine mix_stepP (by kernel_rfl) (by kernel_rfl) (fun K hK => ?_); go_simp; (first | (refine hK _ ?_; clear hK K) | (apply Exists.intro; refine ⟨fun _ => ?_, hK _ ?_⟩; (first | fail); clear hK K)))
  (refine mix_stepP (by kernel_rfl) (by kernel_rfl) (fun K hK => ?_); go_simp; (first | (refine hK _ ?_; clear hK K) | (apply Exists.intro; refine ⟨fun _ => ?_, hK _ ?_⟩; (first | fail); clear hK K)))
  refine mix_exact (.agg #[.int .u8 ((s.id.f 0).toNat : Int), .int .u8 ((s.id.f 1).toNat : Int), .int .u8 ((s.id.f 2).toNat : Int), .int .u8 ((s.id.f 3).toNat : Int), .int .u8 ((s.id.f 4).toNat : Int), .int .u8 ((s.id.f 5).toNat : Int), .int .u8 ((s.id.f 6).toNat : Int), .int .u8 ((s.id.f 7).toNat : Int)]) rfl (exact_loadL (sub := [.int .u8 ((s.id.f 0).toNat : Int), .int .u8 ((s.id.f 1).toNat : Int), .int .u8 ((s.id.f 2).toNat : Int), .int .u8 ((s.id.f 3).toNat : Int), .int .u8 ((s.id.f 4).toNat : Int), .int .u8 ((s.id.f 5).toNat : Int), .int .u8 ((s.id.f 6).toNat : Int), .int .u8 ((s.id.f 7).toNat : Int)]) rfl rfl (by simp) R0.out rfl (.inr (by simp)) Tryz.underlying28 rfl (by kernel_rfl)) ?_
  (refine mix_stepP (by kernel_rfl) (by kernel_rfl) (fun K hK => ?_); go_simp; (first | (refine hK _ ?_; clear hK K) | (apply Exists.intro; refine ⟨fun _ => ?_, hK _ ?_⟩; (first | fail); clear hK K)))
  (refine mix_stepP (by kernel_rfl) (by kernel_rfl) (fun K hK => ?_); go_simp; (first | (refine hK _ ?_; clear hK K) | (apply Exists.intro; refine ⟨fun _ => ?_, hK _ ?_⟩; (first | fail); clear hK K)))
  (refine mix_stepP (by kernel_rfl) (by kernel_rfl) (fun K hK => ?_); go_simp; (first | (refine hK _ ?_; clear hK K) | (apply Exists.intro; refine ⟨fun _ => ?_, hK _ ?_⟩; (first | fail); clear hK K)))
  refine mix_store (PartAt S 138 12 #[.int .u8 ((s.id.f 0).toNat : Int), .int .u8 ((s.id.f 1).toNat : Int), .int .u8 ((s.id.f 2).toNat : Int), .int .u8 ((s.id.f 3).toNat : Int), .int .u8 ((s.id.f 4).toNat : Int), .int .u8 ((s.id.f 5).toNat : Int), .int .u8 ((s.id.f 6).toNat : Int), .int .u8 ((s.id.f 7).toNat : Int), .int .i64 0, .int .u8 ((s.id.f 0).toNat : Int), .int .u8 ((s.id.f 1).toNat : Int), .int .u8 ((s.id.f 2).toNat : Int), .int .u8 ((s.id.f 3).toNat : Int), .int .u8 ((s.id.f 4).toNat : Int), .int .u8 ((s.id.f 5).toNat : Int), .int .u8 ((s.id.f 6).toNat : Int), .int .u8 ((s.id.f 7).toNat : Int), .int .i64 0]) rfl rfl (stable_partAt _ (by
    intro j v u hj hu
    have hjl := (Array.getElem?_eq_some_iff.1 hj).1
    simp only [List.mem_cons, List.not_mem_nil, or_false, Prod.mk.injEq] at hu
    rcases hu with ⟨e, rfl⟩ | ⟨e, rfl⟩ | ⟨e, rfl⟩ | ⟨e, rfl⟩ | ⟨e, rfl⟩ | ⟨e, rfl⟩ | ⟨e, rfl⟩ | ⟨e, rfl⟩ | ⟨e, rfl⟩ | ⟨e, rfl⟩ | ⟨e, rfl⟩ | ⟨e, rfl⟩ | ⟨e, rfl⟩ | ⟨e, rfl⟩ | ⟨e, rfl⟩ | ⟨e, rfl⟩ | ⟨e, rfl⟩ | ⟨e, rfl⟩ | ⟨e, rfl⟩
    · obtain rfl : j = 0 := by omega
      cases hj
      rfl
    · obtain rfl : j = 1 := by omega
      cases hj
      rfl
    · obtain rfl : j = 2 := by omega
      cases hj
      rfl
    · obtain rfl : j = 3 := by omega
      cases hj
      rfl
    · obtain rfl : j = 4 := by omega
      cases hj
      rfl
    · obtain rfl : j = 5 := by omega
      cases hj
      rfl
    · obtain rfl : j = 6 := by omega
      cases hj
      rfl
    · obtain rfl : j = 7 := by omega
      cases hj
      rfl
    · obtain rfl : j = 8 := by omega
      cases hj
      rfl
    · obtain rfl : j = 9 := by omega
      cases hj
      rfl
    · obtain rfl : j = 10 := by omega
      cases hj
      rfl
    · obtain rfl : j = 11 := by omega
      cases hj
      rfl
    · obtain rfl : j = 12 := by omega
      cases hj
      rfl
    · obtain rfl : j = 13 := by omega
      cases hj
      rfl
    · obtain rfl : j = 14 := by omega
      cases hj
      rfl
    · obtain rfl : j = 15 := by omega
      cases hj
      rfl
    · obtain rfl : j = 16 := by omega
      cases hj
      rfl
    · obtain rfl : j = 17 := by omega
      cases hj
      rfl
    · simp at hjl
      omega)) (owes_store_part rfl rfl rfl (by simp) (by simp) R0.out (by simp) (by kernel_rfl) (by simp [Value.oneCell']) (by
    intro j v hj
    have hjl : j < 18 := (Array.getElem?_eq_some_iff.1 hj).1
    rcases (show j = 0 ∨ j = 1 ∨ j = 2 ∨ j = 3 ∨ j = 4 ∨ j = 5 ∨ j = 6 ∨ j = 7 ∨ j = 8 ∨ j = 9 ∨ j = 10 ∨ j = 11 ∨ j = 12 ∨ j = 13 ∨ j = 14 ∨ j = 15 ∨ j = 16 ∨ j = 17 from by omega) with rfl | rfl | rfl | rfl | rfl | rfl | rfl | rfl | rfl | rfl | rfl | rfl | rfl | rfl | rfl | rfl | rfl | rfl <;> (cases hj; simp))) ?_
  (refine mix_stepP (by kernel_rfl) (by kernel_rfl) (fun K hK => ?_); go_simp; (first | (refine hK _ ?_; clear hK K) | (apply Exists.intro; refine ⟨fun _ => ?_, hK _ ?_⟩; (first | fail); clear hK K)))
  (refine mix_stepP (by kernel_rfl) (by kernel_rfl) (fun K hK => ?_); go_simp; (first | (refine hK _ ?_; clear hK K) | (apply Exists.intro; refine ⟨fun _ => ?_, hK _ ?_⟩; (first | fail); clear hK K)))
  refine mix_store (StoredAt S 138 30 (.int .i64 (-1))) rfl rfl (stable_stored _ (by simp)) (owes_store rfl rfl rfl (by simp) (by simp) R0.out (by simp) (by kernel_rfl) rfl (by simp)) ?_
  refine mix_nilL fun w3 hle hF => ?_
  have r3 := row_stored R0.out hle (by simp) (by simp) (fun p hp => by
    simp only [List.nil_append, List.cons_append, List.mem_cons, List.not_mem_nil, or_false, forall_eq_or_imp, forall_eq] at hF
    obtain ⟨f12, f30⟩ := hF
    simp only [List.mem_cons, List.not_mem_nil, or_false] at hp
    rcases hp with rfl | rfl | rfl | rfl | rfl | rfl | rfl | rfl | rfl | rfl | rfl | rfl | rfl | rfl | rfl | rfl | rfl | rfl | rfl
    · exact part_stored (j := 0) f12 rfl
    · exact part_stored (j := 1) f12 rfl
    · exact part_stored (j := 2) f12 rfl
    · exact part_stored (j := 3) f12 rfl
    · exact part_stored (j := 4) f12 rfl
    · exact part_stored (j := 5) f12 rfl
    · exact part_stored (j := 6) f12 rfl
    · exact part_stored (j := 7) f12 rfl
    · exact part_stored (j := 8) f12 rfl
    · exact part_stored (j := 9) f12 rfl
    · exact part_stored (j := 10) f12 rfl
    · exact part_stored (j := 11) f12 rfl
    · exact part_stored (j := 12) f12 rfl
    · exact part_stored (j := 13) f12 rfl
    · exact part_stored (j := 14) f12 rfl
    · exact part_stored (j := 15) f12 rfl
    · exact part_stored (j := 16) f12 rfl
    · exact part_stored (j := 17) f12 rfl
    · exact f30)
  simp only [List.foldl, List.setIfInBounds_toArray, List.set] at r3
  have hb3 := below_of_wle (B := B) hle (by omega) (by omega)
  have ho3 : ∀ j, j < w.heap.size → j ≠ S → w3.heap[j]? = w.heap[j]? := fun j hj hne => hle.1.block j hj (fun e => hne (Option.some.inj e))
  have HA3 : Hid (SpAt B S g cap pbs w3 (s.at (rootF s 0))) := HA.out.spanSetL (s' := s.at (s.own, -1)) rfl r3 ho3
  have HO3 : Hid (Only [S] w w3) := ⟨hb3.size, fun j hj hn => ho3 j hj (fun e => hn (by rw [e]; simp))⟩
  clear r3 hle hF ho3 HA R0
  have hbB := hb3
  have hsz3 : B ≤ w3.heap.size := Nat.le_trans (by omega) hb3.size
  clear hb3
  refine (show wpList _ _ _ _ _ _ from ?_)
  simp only [List.drop, Act.put, List.setIfInBounds_toArray, List.set]
  have q1 : w3.cell? ⟨S, 11, none⟩ = some (.slice (some ⟨g, 0, none⟩) s.ports.length cap) := HA3.out.row.cell 11
  go_upto_region 2 with fail
  clear q1
  go_loopw [25] (fun s25 wr => ∃ i : Nat, i ≤ s.ports.length ∧ s25 = .int .i64 i ∧ Hid (SpAt B S g cap pbs wr (s.at (rootF s i))) ∧ Below B w wr ∧ B ≤ wr.heap.size ∧ Hid (Only [S] w wr)) (fun s25 _ => s.ports.length - (intOf s25).toNat)
  case atStart => exact ⟨0, Nat.zero_le _, rfl, HA3, hbB, hsz3, HO3⟩
  case round =>
    clear HA3 hbB hsz3 HO3
    rename World => wr
    obtain ⟨i, hi, rfl, HW, hbR, hszR, HOR⟩ := hrel
    by_cases hlt : i < s.ports.length
    · have hip : i < pbs.length := by omega
      have q0 := HW.out.ptr hip
      have HP := Lib.hid (HW.out.ports i hip).2
      have HN : Hid (rootF s (i + 1) = rootStep s i (rootF s i)) := rfl
      have HPE : Hid ((s.at (rootF s i)).port i = s.port i) := rfl
      rw [HPE.out] at HP
      have HST : Hid (rootStep s i (rootF s i) = if ((s.port i).up && (s.port i).heard && (s.port i).over.better (rootF s i).1) = true then ((s.port i).over, (i : Int)) else rootF s i) := rfl
      have q2 : wr.cell? ⟨pbs[i], 1, none⟩ = some (.bool (s.port i).up) := HP.out.cell 1
      have q3 : wr.cell? ⟨pbs[i], 2, none⟩ = some (.bool (s.port i).heard) := HP.out.cell 2
      clear HPE
      have hbelow : ∀ b, pbs[i] = b → b < wr.heap.size := fun b e => by rw [← e]; exact HP.out.lt
      generalize rootF s i = st at *
      generalize s.port i = p at *
      generalize pbs[i] = pb at *
      obtain ⟨pc, up, heard, pw, prole, pstate, psince⟩ := p
      simp only at q2 q3 HST
      cases up
      · have hx : rootF s (i + 1) = st := HN.out.trans HST.out
        clear HN HST HP q3
        go_wp2_with fail
        refine ⟨⟨i + 1, by omega, by go_num, by rw [hx]; exact HW, hbR, hszR, HOR⟩, by simp [intOf]; omega⟩
      · cases heard
        · have hx : rootF s (i + 1) = st := HN.out.trans HST.out
          clear HN HST HP
          go_wp2_with fail
          refine ⟨⟨i + 1, by omega, by go_num, by rw [hx]; exact HW, hbR, hszR, HOR⟩, by simp [intOf]; omega⟩
        · go_upto_region 5 with fail
          clear q0 q2 q3
          have C1 := Lib.hid (fun (q : Regrown) => vector_any pw (grow (redrawn wr q.d) q.os))
          have C2 := Lib.hid (fun (q : Regrown) => over_any pw.r.f pw.b.f pw.b.f pw.c pw.p pc pw.p (grow (redrawn wr q.d) q.os))
          have k0 := cell_regrown (show wr.cell? ⟨pb, 0, none⟩ = some (.int .i64 pc) from HP.out.cell 0)
          have k20 := cell_regrown (show wr.cell? ⟨pb, 20, none⟩ = some (.int .i64 pw.p) from HP.out.cell 20)
          refine wp_region_mix 21 (by kernel_rfl) (by kernel_rfl) (by kernel_rfl) ?_
          (refine mix_step (by kernel_rfl) (by kernel_rfl) (fun K hK => ?_); go_simp; (try (simp only [↓IntWalk.iteOmega]; go_simp)); (first | (refine hK _ ?_; clear hK K) | (apply Exists.intro; refine ⟨fun _ => ?_, hK _ ?_⟩; (first | fail); clear hK K)))
          (refine mix_step (by kernel_rfl) (by kernel_rfl) (fun K hK => ?_); go_simp; (try (simp only [↓IntWalk.iteOmega]; go_simp)); (first | (refine hK _ ?_; clear hK K) | (apply Exists.intro; refine ⟨fun _ => ?_, hK _ ?_⟩; (first | fail); clear hK K)))
          (refine mix_step (by kernel_rfl) (by kernel_rfl) (fun K hK => ?_); go_simp; (try (simp only [↓IntWalk.iteOmega]; go_simp)); (first | (refine hK _ ?_; clear hK K) | (apply Exists.intro; refine ⟨fun _ => ?_, hK _ ?_⟩; (first | fail); clear hK K)))
          refine mix_exact (.agg #[.int .u8 ((pw.r.f 0).toNat : Int), .int .u8 ((pw.r.f 1).toNat : Int), .int .u8 ((pw.r.f 2).toNat : Int), .int .u8 ((pw.r.f 3).toNat : Int), .int .u8 ((pw.r.f 4).toNat : Int), .int .u8 ((pw.r.f 5).toNat : Int), .int .u8 ((pw.r.f 6).toNat : Int), .int .u8 ((pw.r.f 7).toNat : Int), .int .u8 ((pw.b.f 0).toNat : Int), .int .u8 ((pw.b.f 1).toNat : Int), .int .u8 ((pw.b.f 2).toNat : Int), .int .u8 ((pw.b.f 3).toNat : Int), .int .u8 ((pw.b.f 4).toNat : Int), .int .u8 ((pw.b.f 5).toNat : Int), .int .u8 ((pw.b.f 6).toNat : Int), .int .u8 ((pw.b.f 7).toNat : Int), .int .i64 pw.c, .int .i64 pw.p, .int .i64 pw.age, .int .i64 pw.ma, .int .i64 pw.he, .int .i64 pw.de, .bool pw.ch, .bool pw.ak]) rfl (exact_load_mid (sub := [.int .u8 ((pw.r.f 0).toNat : Int), .int .u8 ((pw.r.f 1).toNat : Int), .int .u8 ((pw.r.f 2).toNat : Int), .int .u8 ((pw.r.f 3).toNat : Int), .int .u8 ((pw.r.f 4).toNat : Int), .int .u8 ((pw.r.f 5).toNat : Int), .int .u8 ((pw.r.f 6).toNat : Int), .int .u8 ((pw.r.f 7).toNat : Int), .int .u8 ((pw.b.f 0).toNat : Int), .int .u8 ((pw.b.f 1).toNat : Int), .int .u8 ((pw.b.f 2).toNat : Int), .int .u8 ((pw.b.f 3).toNat : Int), .int .u8 ((pw.b.f 4).toNat : Int), .int .u8 ((pw.b.f 5).toNat : Int), .int .u8 ((pw.b.f 6).toNat : Int), .int .u8 ((pw.b.f 7).toNat : Int), .int .i64 pw.c, .int .i64 pw.p, .int .i64 pw.age, .int .i64 pw.ma, .int .i64 pw.he, .int .i64 pw.de, .bool pw.ch, .bool pw.ak]) rfl rfl (by simp) HP.out rfl Tryz.underlying141 rfl (by kernel_rfl)) ?_
          (refine mix_step (by kernel_rfl) (by kernel_rfl) (fun K hK => ?_); go_simp; (try (simp only [↓IntWalk.iteOmega]; go_simp)); (first | (refine hK _ ?_; clear hK K) | (apply Exists.intro; refine ⟨fun _ => ?_, hK _ ?_⟩; (first | exact C1.out _); clear hK K)))
          (refine mix_step (by kernel_rfl) (by kernel_rfl) (fun K hK => ?_); go_simp; (try (simp only [↓IntWalk.iteOmega]; go_simp)); (first | (refine hK _ ?_; clear hK K) | (apply Exists.intro; refine ⟨fun _ => ?_, hK _ ?_⟩; (first | fail); clear hK K)))
          (refine mix_step (by kernel_rfl) (by kernel_rfl) (fun K hK => ?_); go_simp; (try (simp only [↓IntWalk.iteOmega]; go_simp)); (first | (refine hK _ ?_; clear hK K) | (apply Exists.intro; refine ⟨fun _ => ?_, hK _ ?_⟩; (first | fail); clear hK K)))
          (refine mix_step (by kernel_rfl) (by kernel_rfl) (fun K hK => ?_); go_simp; (try (simp only [↓IntWalk.iteOmega]; go_simp)); (first | (refine hK _ ?_; clear hK K) | (apply Exists.intro; refine ⟨fun _ => ?_, hK _ ?_⟩; (first | fail); clear hK K)))
          (refine mix_step (by kernel_rfl) (by kernel_rfl) (fun K hK => ?_); go_simp; (try (simp only [↓IntWalk.iteOmega]; go_simp)); (first | (refine hK _ ?_; clear hK K) | (apply Exists.intro; refine ⟨fun _ => ?_, hK _ ?_⟩; (first | fail); clear hK K)))
          (refine mix_step (by kernel_rfl) (by kernel_rfl) (fun K hK => ?_); go_simp; (try (simp only [↓IntWalk.iteOmega]; go_simp)); (first | (refine hK _ ?_; clear hK K) | (apply Exists.intro; refine ⟨fun _ => ?_, hK _ ?_⟩; (first | fail); clear hK K)))
          (refine mix_step (by kernel_rfl) (by kernel_rfl) (fun K hK => ?_); go_simp; (try (simp only [↓IntWalk.iteOmega]; go_simp)); (first | (refine hK _ ?_; clear hK K) | (apply Exists.intro; refine ⟨fun _ => ?_, hK _ ?_⟩; (first | fail); clear hK K)))
          (refine mix_step (by kernel_rfl) (by kernel_rfl) (fun K hK => ?_); go_simp; (try (simp only [↓IntWalk.iteOmega]; go_simp)); (first | (refine hK _ ?_; clear hK K) | (apply Exists.intro; refine ⟨fun _ => ?_, hK _ ?_⟩; (first | fail); clear hK K)))
          (refine mix_step (by kernel_rfl) (by kernel_rfl) (fun K hK => ?_); go_simp; (try (simp only [↓IntWalk.iteOmega]; go_simp)); (first | (refine hK _ ?_; clear hK K) | (apply Exists.intro; refine ⟨fun _ => ?_, hK _ ?_⟩; (first | fail); clear hK K)))
          refine mix_exact (.agg #[.int .u8 ((pw.b.f 0).toNat : Int), .int .u8 ((pw.b.f 1).toNat : Int), .int .u8 ((pw.b.f 2).toNat : Int), .int .u8 ((pw.b.f 3).toNat : Int), .int .u8 ((pw.b.f 4).toNat : Int), .int .u8 ((pw.b.f 5).toNat : Int), .int .u8 ((pw.b.f 6).toNat : Int), .int .u8 ((pw.b.f 7).toNat : Int)]) rfl (exact_load_mid (sub := [.int .u8 ((pw.b.f 0).toNat : Int), .int .u8 ((pw.b.f 1).toNat : Int), .int .u8 ((pw.b.f 2).toNat : Int), .int .u8 ((pw.b.f 3).toNat : Int), .int .u8 ((pw.b.f 4).toNat : Int), .int .u8 ((pw.b.f 5).toNat : Int), .int .u8 ((pw.b.f 6).toNat : Int), .int .u8 ((pw.b.f 7).toNat : Int)]) rfl rfl (by simp) HP.out rfl Tryz.underlying28 rfl (by kernel_rfl)) ?_
          (refine mix_step (by kernel_rfl) (by kernel_rfl) (fun K hK => ?_); go_simp; (try (simp only [↓IntWalk.iteOmega]; go_simp)); (first | (refine hK _ ?_; clear hK K) | (apply Exists.intro; refine ⟨fun _ => ?_, hK _ ?_⟩; (first | fail); clear hK K)))
          (refine mix_step (by kernel_rfl) (by kernel_rfl) (fun K hK => ?_); go_simp; (try (simp only [↓IntWalk.iteOmega]; go_simp)); (first | (refine hK _ ?_; clear hK K) | (apply Exists.intro; refine ⟨fun _ => ?_, hK _ ?_⟩; (first | fail); clear hK K)))
          (refine mix_step (by kernel_rfl) (by kernel_rfl) (fun K hK => ?_); go_simp; (try (simp only [↓IntWalk.iteOmega]; go_simp)); (first | (refine hK _ ?_; clear hK K) | (apply Exists.intro; refine ⟨fun _ => ?_, hK _ ?_⟩; (first | fail); clear hK K)))
          (refine mix_step (by kernel_rfl) (by kernel_rfl) (fun K hK => ?_); go_simp; (try (simp only [↓IntWalk.iteOmega]; go_simp)); (first | (refine hK _ ?_; clear hK K) | (apply Exists.intro; refine ⟨fun _ => ?_, hK _ ?_⟩; (first | fail); clear hK K)))
          (refine mix_step (by kernel_rfl) (by kernel_rfl) (fun K hK => ?_); go_simp; (try (simp only [↓IntWalk.iteOmega]; go_simp)); (first | (refine hK _ ?_; clear hK K) | (apply Exists.intro; refine ⟨fun _ => ?_, hK _ ?_⟩; (first | fail); clear hK K)))
          (refine mix_step (by kernel_rfl) (by kernel_rfl) (fun K hK => ?_); go_simp; (try (simp only [↓IntWalk.iteOmega]; go_simp)); (first | (refine hK _ ?_; clear hK K) | (apply Exists.intro; refine ⟨fun _ => ?_, hK _ ?_⟩; (first | exact C2.out _); clear hK K)))
          refine mix_special (NewAt wr.heap.size 136 #[.int .u8 0, .int .u8 0, .int .u8 0, .int .u8 0, .int .u8 0, .int .u8 0, .int .u8 0, .int .u8 0, .int .i64 0, .int .u8 0, .int .u8 0, .int .u8 0, .int .u8 0, .int .u8 0, .int .u8 0, .int .u8 0, .int .u8 0, .int .i64 0]) 4 rfl rfl (stable_new _ _ _) (owes_alloc rfl (by kernel_rfl)) ?_
          refine mix_nil ?_
          rintro ⟨dq, osq⟩
          have hb1 := below_regrown wr dq osq
          rintro u4 ⟨b4, rfl, hB4, hR4⟩
          have HR4 := Lib.hid hR4
          have HW1 := Lib.hid (HW.out.later hb1)
          have hbR1 := hbR.trans (hb1.mono hszR)
          have hsz1 := Nat.le_trans hszR hb1.size
          have hb1 := hb1
          clear hR4 C1 C2 k0 k20 HP hbR
          generalize grow (redrawn wr dq) osq = w5 at *
          refine (show wpList _ _ _ _ _ _ from ?_)
          simp only [List.drop, Act.put, List.setIfInBounds_toArray, List.set]
          go_wp2_with ((with_reducible refine at_store 136 (.tmp 4) (.tmp 61) ?_); refine wpList_store_own rfl 136 (.tmp 4) (.tmp 61) rfl b4 _ rfl rfl _ _ HR4.out (by kernel_rfl) rfl (by simp [Value.oneCell']) wr.heap.size (by omega) ?_)
          intro w6 hR6 ho6 hs6 hb6
          have HR6 := Lib.hid hR6
          have HW2 : Hid (SpAt B S g cap pbs w6 (s.at st)) := by
            have hne : S ≠ b4 := by
              intro e
              have := rowIs_ne (HW.out.row) (rowIs_same HW.out.row rfl)
              have h1 := HW.out.row.lt
              omega
            refine ⟨HW1.out.hB, rowIs_same HW1.out.row (ho6 _ hne), HW1.out.hg, ?_, HW1.out.len, HW1.out.nodup, fun j hj => ⟨(HW1.out.ports j hj).1, rowIs_same (HW1.out.ports j hj).2 (ho6 _ fun e => ?_)⟩⟩
            · obtain ⟨cur, h1, h2⟩ := HW1.out.arr
              obtain ⟨cur0, h10, _⟩ := HW.out.arr
              refine ⟨cur, rowIs_same h1 (ho6 _ fun e => ?_), h2⟩
              have := h10.lt
              omega
            · have := (HW.out.ports j hj).2.lt
              omega
          have hbR2 := hbR1.trans (hb6.mono hszR)
          have hsz2 : B ≤ w6.heap.size := by omega
          have HO6 := Lib.hid (HOR.out.below ((hb1.trans hb6)))
          clear hR6 ho6 HW1 HR4 hbR1
          have R6 : Hid (RowIs w6 S 138 #[.int .u8 ((s.id.f 0).toNat : Int), .int .u8 ((s.id.f 1).toNat : Int), .int .u8 ((s.id.f 2).toNat : Int), .int .u8 ((s.id.f 3).toNat : Int), .int .u8 ((s.id.f 4).toNat : Int), .int .u8 ((s.id.f 5).toNat : Int), .int .u8 ((s.id.f 6).toNat : Int), .int .u8 ((s.id.f 7).toNat : Int), .int .i64 s.ma, .int .i64 s.he, .int .i64 s.de, .slice (some ⟨g, 0, none⟩) s.ports.length cap, .int .u8 ((st.1.r.f 0).toNat : Int), .int .u8 ((st.1.r.f 1).toNat : Int), .int .u8 ((st.1.r.f 2).toNat : Int), .int .u8 ((st.1.r.f 3).toNat : Int), .int .u8 ((st.1.r.f 4).toNat : Int), .int .u8 ((st.1.r.f 5).toNat : Int), .int .u8 ((st.1.r.f 6).toNat : Int), .int .u8 ((st.1.r.f 7).toNat : Int), .int .i64 st.1.c, .int .u8 ((st.1.b.f 0).toNat : Int), .int .u8 ((st.1.b.f 1).toNat : Int), .int .u8 ((st.1.b.f 2).toNat : Int), .int .u8 ((st.1.b.f 3).toNat : Int), .int .u8 ((st.1.b.f 4).toNat : Int), .int .u8 ((st.1.b.f 5).toNat : Int), .int .u8 ((st.1.b.f 6).toNat : Int), .int .u8 ((st.1.b.f 7).toNat : Int), .int .i64 st.1.p, .int .i64 st.2, .int .i64 s.now, .int .i64 s.chg]) := HW2.out.row
          have C3 := Lib.hid (fun (q : Regrown) => betterS_any (⟨pw.r, Vec.held pw.c + Vec.held pc, pw.b, pw.p⟩ : SV) st.1 (grow (redrawn w6 q.d) q.os))
          have HST : Hid (rootStep s i st = if (SV.better ⟨pw.r, Vec.held pw.c + Vec.held pc, pw.b, pw.p⟩ st.1) = true then (⟨pw.r, Vec.held pw.c + Vec.held pc, pw.b, pw.p⟩, (i : Int)) else st) := HST.out
          generalize SV.better ⟨pw.r, Vec.held pw.c + Vec.held pc, pw.b, pw.p⟩ st.1 = bt at *
          go_upto_region 6 with fail
          refine wp_region_mix 6 (by kernel_rfl) (by kernel_rfl) (by kernel_rfl) ?_
          refine mix_exact (.agg #[.int .u8 ((pw.r.f 0).toNat : Int), .int .u8 ((pw.r.f 1).toNat : Int), .int .u8 ((pw.r.f 2).toNat : Int), .int .u8 ((pw.r.f 3).toNat : Int), .int .u8 ((pw.r.f 4).toNat : Int), .int .u8 ((pw.r.f 5).toNat : Int), .int .u8 ((pw.r.f 6).toNat : Int), .int .u8 ((pw.r.f 7).toNat : Int), .int .i64 (Vec.held pw.c + Vec.held pc), .int .u8 ((pw.b.f 0).toNat : Int), .int .u8 ((pw.b.f 1).toNat : Int), .int .u8 ((pw.b.f 2).toNat : Int), .int .u8 ((pw.b.f 3).toNat : Int), .int .u8 ((pw.b.f 4).toNat : Int), .int .u8 ((pw.b.f 5).toNat : Int), .int .u8 ((pw.b.f 6).toNat : Int), .int .u8 ((pw.b.f 7).toNat : Int), .int .i64 pw.p]) rfl (exact_load_row rfl rfl (by simp) HR6.out Tryz.underlying136 rfl (by kernel_rfl)) ?_
          (refine mix_step (by kernel_rfl) (by kernel_rfl) (fun K hK => ?_); go_simp; (try (simp only [↓IntWalk.iteOmega]; go_simp)); (first | (refine hK _ ?_; clear hK K) | (apply Exists.intro; refine ⟨fun _ => ?_, hK _ ?_⟩; (first | fail); clear hK K)))
          (refine mix_step (by kernel_rfl) (by kernel_rfl) (fun K hK => ?_); go_simp; (try (simp only [↓IntWalk.iteOmega]; go_simp)); (first | (refine hK _ ?_; clear hK K) | (apply Exists.intro; refine ⟨fun _ => ?_, hK _ ?_⟩; (first | fail); clear hK K)))
          (refine mix_step (by kernel_rfl) (by kernel_rfl) (fun K hK => ?_); go_simp; (try (simp only [↓IntWalk.iteOmega]; go_simp)); (first | (refine hK _ ?_; clear hK K) | (apply Exists.intro; refine ⟨fun _ => ?_, hK _ ?_⟩; (first | fail); clear hK K)))
          refine mix_exact (.agg #[.int .u8 ((st.1.r.f 0).toNat : Int), .int .u8 ((st.1.r.f 1).toNat : Int), .int .u8 ((st.1.r.f 2).toNat : Int), .int .u8 ((st.1.r.f 3).toNat : Int), .int .u8 ((st.1.r.f 4).toNat : Int), .int .u8 ((st.1.r.f 5).toNat : Int), .int .u8 ((st.1.r.f 6).toNat : Int), .int .u8 ((st.1.r.f 7).toNat : Int), .int .i64 st.1.c, .int .u8 ((st.1.b.f 0).toNat : Int), .int .u8 ((st.1.b.f 1).toNat : Int), .int .u8 ((st.1.b.f 2).toNat : Int), .int .u8 ((st.1.b.f 3).toNat : Int), .int .u8 ((st.1.b.f 4).toNat : Int), .int .u8 ((st.1.b.f 5).toNat : Int), .int .u8 ((st.1.b.f 6).toNat : Int), .int .u8 ((st.1.b.f 7).toNat : Int), .int .i64 st.1.p]) rfl (exact_load_mid (sub := [.int .u8 ((st.1.r.f 0).toNat : Int), .int .u8 ((st.1.r.f 1).toNat : Int), .int .u8 ((st.1.r.f 2).toNat : Int), .int .u8 ((st.1.r.f 3).toNat : Int), .int .u8 ((st.1.r.f 4).toNat : Int), .int .u8 ((st.1.r.f 5).toNat : Int), .int .u8 ((st.1.r.f 6).toNat : Int), .int .u8 ((st.1.r.f 7).toNat : Int), .int .i64 st.1.c, .int .u8 ((st.1.b.f 0).toNat : Int), .int .u8 ((st.1.b.f 1).toNat : Int), .int .u8 ((st.1.b.f 2).toNat : Int), .int .u8 ((st.1.b.f 3).toNat : Int), .int .u8 ((st.1.b.f 4).toNat : Int), .int .u8 ((st.1.b.f 5).toNat : Int), .int .u8 ((st.1.b.f 6).toNat : Int), .int .u8 ((st.1.b.f 7).toNat : Int), .int .i64 st.1.p]) rfl rfl (by simp) R6.out rfl Tryz.underlying136 rfl (by kernel_rfl)) ?_
          (refine mix_step (by kernel_rfl) (by kernel_rfl) (fun K hK => ?_); go_simp; (try (simp only [↓IntWalk.iteOmega]; go_simp)); (first | (refine hK _ ?_; clear hK K) | (apply Exists.intro; refine ⟨fun _ => ?_, hK _ ?_⟩; (first | exact C3.out _); clear hK K)))
          refine mix_nil ?_
          rintro ⟨dq2, osq2⟩
          have hb7 := below_regrown w6 dq2 osq2
          have HW3 := Lib.hid (HW2.out.later hb7)
          have HR7 := Lib.hid (HR6.out.kept hb7)
          have hbR3 := hbR2.trans (hb7.mono hsz2)
          have hsz3 := Nat.le_trans hsz2 hb7.size
          have HBS3 := HW2.out.hB
          have HO7 := Lib.hid (HO6.out.below hb7)
          clear C3 R6 HW2 HR6 hbR2 hb7
          generalize grow (redrawn w6 dq2) osq2 = w7 at *
          refine (show wpList _ _ _ _ _ _ from ?_)
          simp only [List.drop, Act.put, List.setIfInBounds_toArray, List.set]
          cases bt
          · have hx : rootF s (i + 1) = st := HN.out.trans HST.out
            clear HN HST HR7
            go_wp2_with fail
            refine ⟨⟨i + 1, by omega, by go_num, by rw [hx]; exact HW3, hbR3, hsz3, HO7⟩, by simp [intOf]; omega⟩
          · have hx : rootF s (i + 1) = (⟨pw.r, Vec.held pw.c + Vec.held pc, pw.b, pw.p⟩, (i : Int)) := HN.out.trans HST.out
            have HX := Lib.hid hx
            clear HN HST hx
            go_wp2_with (first
              | ((with_reducible refine at_load 136 (.tmp 4) ?_); refine wpList_load_own rfl 136 (.tmp 4) rfl (b4) rfl _ _ _ HR7.out Tryz.underlying136 rfl (by kernel_rfl) ?_)
              | ((with_reducible refine at_store 136 (.tmp 73) (.tmp 70) ?_); refine wpList_store_part rfl 136 (.tmp 73) (.tmp 70) rfl (S) 12 _ rfl rfl 138 _ HW3.out.row (show 12 + 18 ≤ 33 by decide) (by kernel_rfl) (by simp [Value.oneCell']) (((s.at (⟨pw.r, Vec.held pw.c + Vec.held pc, pw.b, pw.p⟩, st.2)).cells g cap)) (by kernel_rfl) B HBS3 ?_))
            intro w8 hR8 ho8 hs8 hb8
            have HW4 := Lib.hid (HW3.out.spanSet (s' := s.at (⟨pw.r, Vec.held pw.c + Vec.held pc, pw.b, pw.p⟩, st.2)) rfl hR8 ho8)
            have hbR4 := hbR3.trans hb8
            have hsz4 : B ≤ w8.heap.size := by omega
            have HO8 := Lib.hid (HO7.out.store (S := S) (by simp) ho8 hs8)
            clear hR8 ho8 HW3 hbR3 HR7
            go_wp2_with ((with_reducible refine at_store 3 (.tmp 75) (.tmp 71) ?_); refine wpList_store_cell rfl 3 (.tmp 75) (.tmp 71) rfl (S) 30 _ rfl rfl 138 _ HW4.out.row (show 30 < 33 by decide) (by kernel_rfl) rfl B HBS3 ?_)
            intro w9 hR9 ho9 hs9 hb9
            have HW5 := Lib.hid (HW4.out.spanSet (s' := s.at (⟨pw.r, Vec.held pw.c + Vec.held pc, pw.b, pw.p⟩, (i : Int))) rfl hR9 ho9)
            have hbR5 := hbR4.trans hb9
            have hsz5 : B ≤ w9.heap.size := by omega
            have HO9 := Lib.hid (HO8.out.store (S := S) (by simp) ho9 (hs9.trans hs8.symm))
            clear hR9 ho9 HW4 hbR4
            go_wp2_with fail
            refine ⟨⟨i + 1, by omega, by go_num, by rw [HX.out]; exact HW5, hbR5, hsz5, HO9⟩, by simp [intOf]; omega⟩
    · obtain rfl : i = s.ports.length := by omega
      go_wp2_with fail
      go_end0
      exact ⟨rfl, HW.out, hbR, HOR.out⟩
end Go.Proofs.YthfckdnennfnoaaGreatDoor
