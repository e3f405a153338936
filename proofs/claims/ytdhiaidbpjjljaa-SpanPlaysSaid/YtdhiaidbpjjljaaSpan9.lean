/- span: Take. By an AI agent. -/
import Derived.Test.YtdhiaidbpjjljaaSpan8
import Derived.Test.YtdhiaidbpjjljaaBpduPrint
namespace Go.Proofs.Ytdhiaidbpjjljaa
open Go.RowKit Go.Sort Grow

/-- is a word not looked at? -/
def SS.notFor (s : SS) (i : Int) (x : SW) : Bool := !s.has i || !(s.port i.toNat).up || decide (1073741824 < x.c) || (decide (x.b = s.id) && x.p == i + 1)
def SW.right (x : SW) : Bool := Bpdu.right x.c x.p x.age x.ma x.he x.de
def SP.hear (p : SP) (x : SW) : SP := { p with heard := true, w := x }
def SS.takeF (s : SS) (k : Nat) (x : SW) : SS := (s.put k ((s.port k).hear x)).found.1
def SS.tellsK (s f : SS) (k : Nat) : List SO := if ((k : Int) == f.root || !decide (s.best = f.best)) = true then f.tells (fun _ => true) else if ((f.port k).role == 2) = true then f.tells (fun j => decide ((j : Int) = (k : Int))) else []
def SS.take (s : SS) (i : Int) (x : SW) : SS × List SO :=
  if s.notFor i x = true then (s, []) else if x.right = false then (s, []) else if decide (s.ma ≤ x.age) = true then (s, []) else
  if (s.port i.toNat).hears x = true then (s.takeF i.toNat x, s.tellsK (s.takeF i.toNat x) i.toNat) else (s, s.tells (fun j => decide ((j : Int) = i)))
theorem SW.right_age {x : SW} (h : x.right = true) : 0 ≤ x.age ∧ x.age < x.ma := by
  unfold SW.right Bpdu.right at h
  simp only [Bpdu.inB, List.all_cons, List.all_nil, Bool.and_true, Bool.and_eq_true, decide_eq_true_eq] at h
  omega
theorem SS.Ok.takeF {s : SS} {n : Int} (h : s.Ok n) (k : Nat) (x : SW) (hk : k < s.ports.length) (hx : 0 ≤ x.age ∧ x.age ≤ 1000) : (s.put k ((s.port k).hear x)).Ok n ∧ (s.takeF k x).Ok (n + 100) := by
  have h1 := h.put k ((s.port k).hear x) hk (h.since k) hx
  exact ⟨h1, h1.found⟩
theorem SS.Ok.take {s : SS} {n : Int} (h : s.Ok n) (i : Int) (x : SW) : (s.take i x).1.Ok (n + 100) := by
  have h0 := h.mono (show n ≤ n + 100 by omega)
  unfold SS.take
  split
  · exact h0
  · rename_i hn
    split
    · exact h0
    · rename_i hr
      split
      · exact h0
      · rename_i ha
        split
        · have hr := SW.right_age (by simpa using hr)
          have hma := h.ma
          have hx : 0 ≤ x.age ∧ x.age ≤ 1000 := by
            simp only [decide_eq_true_eq] at ha
            omega
          have hh : s.has i = true := by
            unfold SS.notFor at hn
            cases hh : s.has i
            · rw [hh] at hn
              simp at hn
            · rfl
          obtain ⟨k, rfl, hk⟩ := s.has_true i hh
          exact (h.takeF _ x hk hx).2
        · exact h0
theorem SpAt.lt {B S g cap : Nat} {pbs : List Nat} {w : World} {s : SS} (h : SpAt B S g cap pbs w s) : S < w.heap.size ∧ ∀ b ∈ pbs, b < w.heap.size :=
  ⟨h.row.lt, fun b hb => by
    obtain ⟨i, hi, rfl⟩ := List.mem_iff_getElem.1 hb
    exact (h.ports i hi).2.lt⟩
theorem SpAt.portSetL {B S g cap : Nat} {pbs : List Nat} {w w' : World} {s : SS} (h : SpAt B S g cap pbs w s) {i : Nat} (hi : i < pbs.length) {p : SP} (hr : RowIs w' pbs[i] 85 p.cells) (ho : ∀ j, j < w.heap.size → j ≠ pbs[i] → w'.heap[j]? = w.heap[j]?) : SpAt B S g cap pbs w' (s.put i p) := by
  obtain ⟨cur, h1, h2⟩ := h.arr
  have hil : i < s.ports.length := by rw [← h.len]; exact hi
  refine ⟨h.hB, ?_, h.hg, ⟨cur, rowIs_same h1 (ho _ h1.lt (rowIs_ne h1 (h.ports i hi).2 (by decide))), h2⟩, by rw [SS.put_len]; exact h.len, h.nodup, fun j hj => ⟨(h.ports j hj).1, ?_⟩⟩
  · rw [SS.put_cells]
    exact rowIs_same h.row (ho _ h.row.lt (rowIs_ne h.row (h.ports i hi).2 (by decide)))
  · rw [SS.port_put _ _ _ _ hil]
    by_cases e : j = i
    · subst e
      rw [if_pos rfl]
      exact hr
    · rw [if_neg e]
      refine rowIs_same (h.ports j hj).2 (ho _ (h.ports j hj).2.lt fun hh => e ?_)
      exact nodup_inj h.nodup hj hi hh
theorem SS.has_of_for (s : SS) (i : Int) (x : SW) (h : s.notFor i x = false) : s.has i = true := by
  unfold SS.notFor at h
  cases hh : s.has i
  · rw [hh] at h
    cases h
  · rfl

set_option maxRecDepth 100000 in
set_option maxHeartbeats 8000000 in
theorem take_any (B S g cap : Nat) (pbs : List Nat) (w : World) (s : SS) (h : SpAt B S g cap pbs w s) (n : Int) (hok : s.Ok n) (hn : n ≤ 900000000) (i : Int) (hi : (Lit.int .i64 i).wf = true) (x : SW) :
    Calls Try.prog 13 #[.pointer (some ⟨S, 0, none⟩), .int .i64 i, .agg #[.int .u8 ((x.r.f 0).toNat : Int), .int .u8 ((x.r.f 1).toNat : Int), .int .u8 ((x.r.f 2).toNat : Int), .int .u8 ((x.r.f 3).toNat : Int), .int .u8 ((x.r.f 4).toNat : Int), .int .u8 ((x.r.f 5).toNat : Int), .int .u8 ((x.r.f 6).toNat : Int), .int .u8 ((x.r.f 7).toNat : Int), .int .u8 ((x.b.f 0).toNat : Int), .int .u8 ((x.b.f 1).toNat : Int), .int .u8 ((x.b.f 2).toNat : Int), .int .u8 ((x.b.f 3).toNat : Int), .int .u8 ((x.b.f 4).toNat : Int), .int .u8 ((x.b.f 5).toNat : Int), .int .u8 ((x.b.f 6).toNat : Int), .int .u8 ((x.b.f 7).toNat : Int), .int .i64 x.c, .int .i64 x.p, .int .i64 x.age, .int .i64 x.ma, .int .i64 x.he, .int .i64 x.de, .bool x.ch, .bool x.ak]] w fun e w' => ∃ v, e = .returned v ∧ OutAt w' w.heap.size v (s.take i x).2 ∧ SpAt B S g cap pbs w' (s.take i x).1 ∧ Below B w w' ∧ Only (S :: pbs) w w' := by
  have hp1 := hok.len
  have hlen : s.ports.length = pbs.length := h.len.symm
  have hp : pbs.length ≤ 1000 := by omega
  have HA := Lib.hid h
  have HOK := Lib.hid hok
  have HWI := Lib.hid hi
  have HLT := Lib.hid h.lt
  have HLT2h : ∀ b, w.heap.size ≤ b → b ∉ S :: pbs := fun b hb hm => by
    have hl := h.lt
    rcases List.mem_cons.1 hm with e | e
    · omega
    · have := hl.2 b e
      omega
  have HLT2 := Lib.hid HLT2h
  clear HLT2h
  have hB0 : B ≤ w.heap.size := Nat.le_trans h.hB (Nat.le_of_lt h.row.lt)
  have HE : Hid (s.take i x = if s.notFor i x = true then (s, []) else if x.right = false then (s, []) else if decide (s.ma ≤ x.age) = true then (s, []) else
    if (s.port i.toNat).hears x = true then (s.takeF i.toNat x, s.tellsK (s.takeF i.toNat x) i.toNat) else (s, s.tells (fun j => decide ((j : Int) = i)))) := rfl
  have HNF : Hid (s.notFor i x = (!s.has i || !(s.port i.toNat).up || decide (1073741824 < x.c) || (decide (x.b = s.id) && x.p == i + 1))) := rfl
  clear h hok hi
  go_enter Try.func13, Try.ntmps13
  go_upto_region 1 with fail
  generalize hW : (w.alloc _).alloc _ = W
  have hbW : Below w.heap.size w W := by rw [← hW]; exact ((Below.refl _ _).alloc (Nat.le_refl _) _).alloc (by simp) _
  have RI : Hid (RowIs W w.heap.size 3 #[.int .i64 i]) := by subst hW; exact (rowIs_new w _ _).alloc _
  have RX : Hid (RowIs W (w.heap.size + 1) 45 #[.int .u8 ((x.r.f 0).toNat : Int), .int .u8 ((x.r.f 1).toNat : Int), .int .u8 ((x.r.f 2).toNat : Int), .int .u8 ((x.r.f 3).toNat : Int), .int .u8 ((x.r.f 4).toNat : Int), .int .u8 ((x.r.f 5).toNat : Int), .int .u8 ((x.r.f 6).toNat : Int), .int .u8 ((x.r.f 7).toNat : Int), .int .u8 ((x.b.f 0).toNat : Int), .int .u8 ((x.b.f 1).toNat : Int), .int .u8 ((x.b.f 2).toNat : Int), .int .u8 ((x.b.f 3).toNat : Int), .int .u8 ((x.b.f 4).toNat : Int), .int .u8 ((x.b.f 5).toNat : Int), .int .u8 ((x.b.f 6).toNat : Int), .int .u8 ((x.b.f 7).toNat : Int), .int .i64 x.c, .int .i64 x.p, .int .i64 x.age, .int .i64 x.ma, .int .i64 x.he, .int .i64 x.de, .bool x.ch, .bool x.ak]) := by subst hW; exact rowIs_new1 w _ _ _
  clear hW
  have HA1 := Lib.hid (HA.out.later hbW)
  have HOW : Hid (Only (S :: pbs) w W) := (Only.refl _ w).below hbW
  have hbB : Below B w W := hbW.mono hB0
  have hszW : w.heap.size + 1 < W.heap.size := RX.out.lt
  have RS : Hid (RowIs W S 82 #[.int .u8 ((s.id.f 0).toNat : Int), .int .u8 ((s.id.f 1).toNat : Int), .int .u8 ((s.id.f 2).toNat : Int), .int .u8 ((s.id.f 3).toNat : Int), .int .u8 ((s.id.f 4).toNat : Int), .int .u8 ((s.id.f 5).toNat : Int), .int .u8 ((s.id.f 6).toNat : Int), .int .u8 ((s.id.f 7).toNat : Int), .int .i64 s.ma, .int .i64 s.he, .int .i64 s.de, .slice (some ⟨g, 0, none⟩) s.ports.length cap, .int .u8 ((s.best.r.f 0).toNat : Int), .int .u8 ((s.best.r.f 1).toNat : Int), .int .u8 ((s.best.r.f 2).toNat : Int), .int .u8 ((s.best.r.f 3).toNat : Int), .int .u8 ((s.best.r.f 4).toNat : Int), .int .u8 ((s.best.r.f 5).toNat : Int), .int .u8 ((s.best.r.f 6).toNat : Int), .int .u8 ((s.best.r.f 7).toNat : Int), .int .i64 s.best.c, .int .u8 ((s.best.b.f 0).toNat : Int), .int .u8 ((s.best.b.f 1).toNat : Int), .int .u8 ((s.best.b.f 2).toNat : Int), .int .u8 ((s.best.b.f 3).toNat : Int), .int .u8 ((s.best.b.f 4).toNat : Int), .int .u8 ((s.best.b.f 5).toNat : Int), .int .u8 ((s.best.b.f 6).toNat : Int), .int .u8 ((s.best.b.f 7).toNat : Int), .int .i64 s.best.p, .int .i64 s.root, .int .i64 s.now, .int .i64 s.chg]) := HA1.out.row
  have C1 := Lib.hid (fun (q : Regrown) => below_same (has_any B S g cap pbs (grow (redrawn W q.d) q.os) s (HA1.out.later (below_regrown W q.d q.os)) hp i HWI.out))
  have k0 := cell_regrown (show W.cell? ⟨w.heap.size, 0, none⟩ = some (.int .i64 i) from RI.out.cell 0)
  clear HA
  go_cut [49] (fun v wx => v = .bool (s.notFor i x) ∧ Below W.heap.size W wx)
  case first =>
    have q1 := cell_regrown (show W.cell? ⟨S, 11, none⟩ = some (.slice (some ⟨g, 0, none⟩) s.ports.length cap) from RS.out.cell 11)
    have l18 := cell_regrown (show W.cell? ⟨w.heap.size + 1, 16, none⟩ = some (.int .i64 x.c) from RX.out.cell 16)
    have l19 := cell_regrown (show W.cell? ⟨w.heap.size + 1, 17, none⟩ = some (.int .i64 x.p) from RX.out.cell 17)
    have m1 : ∀ w, (Op.equalIn 10000 23 (.agg #[.int .u8 ((x.b.f 0).toNat : Int), .int .u8 ((x.b.f 1).toNat : Int), .int .u8 ((x.b.f 2).toNat : Int), .int .u8 ((x.b.f 3).toNat : Int), .int .u8 ((x.b.f 4).toNat : Int), .int .u8 ((x.b.f 5).toNat : Int), .int .u8 ((x.b.f 6).toNat : Int), .int .u8 ((x.b.f 7).toNat : Int)]) (.agg #[.int .u8 ((s.id.f 0).toNat : Int), .int .u8 ((s.id.f 1).toNat : Int), .int .u8 ((s.id.f 2).toNat : Int), .int .u8 ((s.id.f 3).toNat : Int), .int .u8 ((s.id.f 4).toNat : Int), .int .u8 ((s.id.f 5).toNat : Int), .int .u8 ((s.id.f 6).toNat : Int), .int .u8 ((s.id.f 7).toNat : Int)])).run Try.prog w = .ok (decide (x.b = s.id)) w := fun w => by
      rw [← eqB_id]
      exact run_equalIn_bid 9998 _ _ w
    cases hh : s.has i
    · rw [hh] at C1 HNF
      have HNF : Hid (s.notFor i x = true) := HNF.out
      clear hh
      refine wp_region_mix 38 (by kernel_rfl) (by kernel_rfl) (by kernel_rfl) ?_
      (refine mix_step (by kernel_rfl) (by kernel_rfl) (fun K hK => ?_); go_simp; (try (simp only [↓IntWalk.iteOmega]; go_simp)); (first | (refine hK _ ?_; clear hK K) | (apply Exists.intro; refine ⟨fun _ => ?_, hK _ ?_⟩; (first | fail); clear hK K)))
      (refine mix_step (by kernel_rfl) (by kernel_rfl) (fun K hK => ?_); go_simp; (try (simp only [↓IntWalk.iteOmega]; go_simp)); (first | (refine hK _ ?_; clear hK K) | (apply Exists.intro; refine ⟨fun _ => ?_, hK _ ?_⟩; (first | fail); clear hK K)))
      (refine mix_step (by kernel_rfl) (by kernel_rfl) (fun K hK => ?_); go_simp; (try (simp only [↓IntWalk.iteOmega]; go_simp)); (first | (refine hK _ ?_; clear hK K) | (apply Exists.intro; refine ⟨fun _ => ?_, hK _ ?_⟩; (first | exact C1.out _); clear hK K)))
      (refine mix_step (by kernel_rfl) (by kernel_rfl) (fun K hK => ?_); go_simp; (try (simp only [↓IntWalk.iteOmega]; go_simp)); (first | (refine hK _ ?_; clear hK K) | (apply Exists.intro; refine ⟨fun _ => ?_, hK _ ?_⟩; (first | fail); clear hK K)))
      (refine mix_step (by kernel_rfl) (by kernel_rfl) (fun K hK => ?_); go_simp; (try (simp only [↓IntWalk.iteOmega]; go_simp)); (first | (refine hK _ ?_; clear hK K) | (apply Exists.intro; refine ⟨fun _ => ?_, hK _ ?_⟩; (first | fail); clear hK K)))
      (refine mix_step (by kernel_rfl) (by kernel_rfl) (fun K hK => ?_); go_simp; (try (simp only [↓IntWalk.iteOmega]; go_simp)); (first | (refine hK _ ?_; clear hK K) | (apply Exists.intro; refine ⟨fun _ => ?_, hK _ ?_⟩; (first | fail); clear hK K)))
      (refine mix_step (by kernel_rfl) (by kernel_rfl) (fun K hK => ?_); go_simp; (try (simp only [↓IntWalk.iteOmega]; go_simp)); (first | (refine hK _ ?_; clear hK K) | (apply Exists.intro; refine ⟨fun _ => ?_, hK _ ?_⟩; (first | fail); clear hK K)))
      (refine mix_step (by kernel_rfl) (by kernel_rfl) (fun K hK => ?_); go_simp; (try (simp only [↓IntWalk.iteOmega]; go_simp)); (first | (refine hK _ ?_; clear hK K) | (apply Exists.intro; refine ⟨fun _ => ?_, hK _ ?_⟩; (first | fail); clear hK K)))
      (refine mix_step (by kernel_rfl) (by kernel_rfl) (fun K hK => ?_); go_simp; (try (simp only [↓IntWalk.iteOmega]; go_simp)); (first | (refine hK _ ?_; clear hK K) | (apply Exists.intro; refine ⟨fun _ => ?_, hK _ ?_⟩; (first | fail); clear hK K)))
      (refine mix_step (by kernel_rfl) (by kernel_rfl) (fun K hK => ?_); go_simp; (try (simp only [↓IntWalk.iteOmega]; go_simp)); (first | (refine hK _ ?_; clear hK K) | (apply Exists.intro; refine ⟨fun _ => ?_, hK _ ?_⟩; (first | fail); clear hK K)))
      (refine mix_step (by kernel_rfl) (by kernel_rfl) (fun K hK => ?_); go_simp; (try (simp only [↓IntWalk.iteOmega]; go_simp)); (first | (refine hK _ ?_; clear hK K) | (apply Exists.intro; refine ⟨fun _ => ?_, hK _ ?_⟩; (first | fail); clear hK K)))
      (refine mix_step (by kernel_rfl) (by kernel_rfl) (fun K hK => ?_); go_simp; (try (simp only [↓IntWalk.iteOmega]; go_simp)); (first | (refine hK _ ?_; clear hK K) | (apply Exists.intro; refine ⟨fun _ => ?_, hK _ ?_⟩; (first | fail); clear hK K)))
      (refine mix_step (by kernel_rfl) (by kernel_rfl) (fun K hK => ?_); go_simp; (try (simp only [↓IntWalk.iteOmega]; go_simp)); (first | (refine hK _ ?_; clear hK K) | (apply Exists.intro; refine ⟨fun _ => ?_, hK _ ?_⟩; (first | fail); clear hK K)))
      (refine mix_step (by kernel_rfl) (by kernel_rfl) (fun K hK => ?_); go_simp; (try (simp only [↓IntWalk.iteOmega]; go_simp)); (first | (refine hK _ ?_; clear hK K) | (apply Exists.intro; refine ⟨fun _ => ?_, hK _ ?_⟩; (first | fail); clear hK K)))
      (refine mix_step (by kernel_rfl) (by kernel_rfl) (fun K hK => ?_); go_simp; (try (simp only [↓IntWalk.iteOmega]; go_simp)); (first | (refine hK _ ?_; clear hK K) | (apply Exists.intro; refine ⟨fun _ => ?_, hK _ ?_⟩; (first | fail); clear hK K)))
      (refine mix_step (by kernel_rfl) (by kernel_rfl) (fun K hK => ?_); go_simp; (try (simp only [↓IntWalk.iteOmega]; go_simp)); (first | (refine hK _ ?_; clear hK K) | (apply Exists.intro; refine ⟨fun _ => ?_, hK _ ?_⟩; (first | fail); clear hK K)))
      (refine mix_step (by kernel_rfl) (by kernel_rfl) (fun K hK => ?_); go_simp; (try (simp only [↓IntWalk.iteOmega]; go_simp)); (first | (refine hK _ ?_; clear hK K) | (apply Exists.intro; refine ⟨fun _ => ?_, hK _ ?_⟩; (first | fail); clear hK K)))
      (refine mix_step (by kernel_rfl) (by kernel_rfl) (fun K hK => ?_); go_simp; (try (simp only [↓IntWalk.iteOmega]; go_simp)); (first | (refine hK _ ?_; clear hK K) | (apply Exists.intro; refine ⟨fun _ => ?_, hK _ ?_⟩; (first | fail); clear hK K)))
      (refine mix_step (by kernel_rfl) (by kernel_rfl) (fun K hK => ?_); go_simp; (try (simp only [↓IntWalk.iteOmega]; go_simp)); (first | (refine hK _ ?_; clear hK K) | (apply Exists.intro; refine ⟨fun _ => ?_, hK _ ?_⟩; (first | fail); clear hK K)))
      (refine mix_step (by kernel_rfl) (by kernel_rfl) (fun K hK => ?_); go_simp; (try (simp only [↓IntWalk.iteOmega]; go_simp)); (first | (refine hK _ ?_; clear hK K) | (apply Exists.intro; refine ⟨fun _ => ?_, hK _ ?_⟩; (first | fail); clear hK K)))
      (refine mix_step (by kernel_rfl) (by kernel_rfl) (fun K hK => ?_); go_simp; (try (simp only [↓IntWalk.iteOmega]; go_simp)); (first | (refine hK _ ?_; clear hK K) | (apply Exists.intro; refine ⟨fun _ => ?_, hK _ ?_⟩; (first | fail); clear hK K)))
      (refine mix_step (by kernel_rfl) (by kernel_rfl) (fun K hK => ?_); go_simp; (try (simp only [↓IntWalk.iteOmega]; go_simp)); (first | (refine hK _ ?_; clear hK K) | (apply Exists.intro; refine ⟨fun _ => ?_, hK _ ?_⟩; (first | fail); clear hK K)))
      (refine mix_step (by kernel_rfl) (by kernel_rfl) (fun K hK => ?_); go_simp; (try (simp only [↓IntWalk.iteOmega]; go_simp)); (first | (refine hK _ ?_; clear hK K) | (apply Exists.intro; refine ⟨fun _ => ?_, hK _ ?_⟩; (first | fail); clear hK K)))
      (refine mix_step (by kernel_rfl) (by kernel_rfl) (fun K hK => ?_); go_simp; (try (simp only [↓IntWalk.iteOmega]; go_simp)); (first | (refine hK _ ?_; clear hK K) | (apply Exists.intro; refine ⟨fun _ => ?_, hK _ ?_⟩; (first | fail); clear hK K)))
      (refine mix_step (by kernel_rfl) (by kernel_rfl) (fun K hK => ?_); go_simp; (try (simp only [↓IntWalk.iteOmega]; go_simp)); (first | (refine hK _ ?_; clear hK K) | (apply Exists.intro; refine ⟨fun _ => ?_, hK _ ?_⟩; (first | fail); clear hK K)))
      (refine mix_step (by kernel_rfl) (by kernel_rfl) (fun K hK => ?_); go_simp; (try (simp only [↓IntWalk.iteOmega]; go_simp)); (first | (refine hK _ ?_; clear hK K) | (apply Exists.intro; refine ⟨fun _ => ?_, hK _ ?_⟩; (first | fail); clear hK K)))
      (refine mix_step (by kernel_rfl) (by kernel_rfl) (fun K hK => ?_); go_simp; (try (simp only [↓IntWalk.iteOmega]; go_simp)); (first | (refine hK _ ?_; clear hK K) | (apply Exists.intro; refine ⟨fun _ => ?_, hK _ ?_⟩; (first | fail); clear hK K)))
      (refine mix_step (by kernel_rfl) (by kernel_rfl) (fun K hK => ?_); go_simp; (try (simp only [↓IntWalk.iteOmega]; go_simp)); (first | (refine hK _ ?_; clear hK K) | (apply Exists.intro; refine ⟨fun _ => ?_, hK _ ?_⟩; (first | fail); clear hK K)))
      (refine mix_step (by kernel_rfl) (by kernel_rfl) (fun K hK => ?_); go_simp; (try (simp only [↓IntWalk.iteOmega]; go_simp)); (first | (refine hK _ ?_; clear hK K) | (apply Exists.intro; refine ⟨fun _ => ?_, hK _ ?_⟩; (first | fail); clear hK K)))
      (refine mix_step (by kernel_rfl) (by kernel_rfl) (fun K hK => ?_); go_simp; (try (simp only [↓IntWalk.iteOmega]; go_simp)); (first | (refine hK _ ?_; clear hK K) | (apply Exists.intro; refine ⟨fun _ => ?_, hK _ ?_⟩; (first | fail); clear hK K)))
      (refine mix_step (by kernel_rfl) (by kernel_rfl) (fun K hK => ?_); go_simp; (try (simp only [↓IntWalk.iteOmega]; go_simp)); (first | (refine hK _ ?_; clear hK K) | (apply Exists.intro; refine ⟨fun _ => ?_, hK _ ?_⟩; (first | fail); clear hK K)))
      (refine mix_step (by kernel_rfl) (by kernel_rfl) (fun K hK => ?_); go_simp; (try (simp only [↓IntWalk.iteOmega]; go_simp)); (first | (refine hK _ ?_; clear hK K) | (apply Exists.intro; refine ⟨fun _ => ?_, hK _ ?_⟩; (first | fail); clear hK K)))
      (refine mix_step (by kernel_rfl) (by kernel_rfl) (fun K hK => ?_); go_simp; (try (simp only [↓IntWalk.iteOmega]; go_simp)); (first | (refine hK _ ?_; clear hK K) | (apply Exists.intro; refine ⟨fun _ => ?_, hK _ ?_⟩; (first | fail); clear hK K)))
      (refine mix_step (by kernel_rfl) (by kernel_rfl) (fun K hK => ?_); go_simp; (try (simp only [↓IntWalk.iteOmega]; go_simp)); (first | (refine hK _ ?_; clear hK K) | (apply Exists.intro; refine ⟨fun _ => ?_, hK _ ?_⟩; (first | fail); clear hK K)))
      (refine mix_step (by kernel_rfl) (by kernel_rfl) (fun K hK => ?_); go_simp; (try (simp only [↓IntWalk.iteOmega]; go_simp)); (first | (refine hK _ ?_; clear hK K) | (apply Exists.intro; refine ⟨fun _ => ?_, hK _ ?_⟩; (first | fail); clear hK K)))
      (refine mix_step (by kernel_rfl) (by kernel_rfl) (fun K hK => ?_); go_simp; (try (simp only [↓IntWalk.iteOmega]; go_simp)); (first | (refine hK _ ?_; clear hK K) | (apply Exists.intro; refine ⟨fun _ => ?_, hK _ ?_⟩; (first | fail); clear hK K)))
      (refine mix_step (by kernel_rfl) (by kernel_rfl) (fun K hK => ?_); go_simp; (try (simp only [↓IntWalk.iteOmega]; go_simp)); (first | (refine hK _ ?_; clear hK K) | (apply Exists.intro; refine ⟨fun _ => ?_, hK _ ?_⟩; (first | fail); clear hK K)))
      (refine mix_step (by kernel_rfl) (by kernel_rfl) (fun K hK => ?_); go_simp; (try (simp only [↓IntWalk.iteOmega]; go_simp)); (first | (refine hK _ ?_; clear hK K) | (apply Exists.intro; refine ⟨fun _ => ?_, hK _ ?_⟩; (first | fail); clear hK K)))
      refine mix_nil ?_
      rintro ⟨dq, osq⟩
      have hb1 := below_regrown W dq osq
      refine (show wpList _ _ _ _ _ _ from ?_)
      simp only [List.drop, Act.put, List.setIfInBounds_toArray, List.set]
      go_wp2_with fail
      go_meet
      exact ⟨by rw [HNF.out], hb1⟩
    · rw [hh] at C1 HNF
      obtain ⟨k, rfl, hk⟩ := s.has_true i hh
      rw [Int.toNat_natCast] at HNF
      have hkp : k < pbs.length := by omega
      have q0 := cell_regrown (HA1.out.ptr hkp)
      have q2 := cell_regrown (show W.cell? ⟨pbs[k], 1, none⟩ = some (.bool (s.port k).up) from (HA1.out.ports k hkp).2.cell 1)
      have hx0 : (0 : Int) ≤ (k : Int) := by omega
      have hx1 : (k : Int) < (s.ports.length : Int) := by omega
      have wa : IntKind.i64.wrap ((k : Int) + 1) = (k : Int) + 1 := IntWalk.i64_in _ (by omega)
      clear hh
      generalize (s.port k).up = up at *
      cases up
      · have HNF : Hid (s.notFor (k : Nat) x = true) := HNF.out
        refine wp_region_mix 38 (by kernel_rfl) (by kernel_rfl) (by kernel_rfl) ?_
        (refine mix_step (by kernel_rfl) (by kernel_rfl) (fun K hK => ?_); go_simp; (try (simp only [↓IntWalk.iteOmega]; go_simp)); (first | (refine hK _ ?_; clear hK K) | (apply Exists.intro; refine ⟨fun _ => ?_, hK _ ?_⟩; (first | fail); clear hK K)))
        (refine mix_step (by kernel_rfl) (by kernel_rfl) (fun K hK => ?_); go_simp; (try (simp only [↓IntWalk.iteOmega]; go_simp)); (first | (refine hK _ ?_; clear hK K) | (apply Exists.intro; refine ⟨fun _ => ?_, hK _ ?_⟩; (first | fail); clear hK K)))
        (refine mix_step (by kernel_rfl) (by kernel_rfl) (fun K hK => ?_); go_simp; (try (simp only [↓IntWalk.iteOmega]; go_simp)); (first | (refine hK _ ?_; clear hK K) | (apply Exists.intro; refine ⟨fun _ => ?_, hK _ ?_⟩; (first | exact C1.out _); clear hK K)))
        (refine mix_step (by kernel_rfl) (by kernel_rfl) (fun K hK => ?_); go_simp; (try (simp only [↓IntWalk.iteOmega]; go_simp)); (first | (refine hK _ ?_; clear hK K) | (apply Exists.intro; refine ⟨fun _ => ?_, hK _ ?_⟩; (first | fail); clear hK K)))
        (refine mix_step (by kernel_rfl) (by kernel_rfl) (fun K hK => ?_); go_simp; (try (simp only [↓IntWalk.iteOmega]; go_simp)); (first | (refine hK _ ?_; clear hK K) | (apply Exists.intro; refine ⟨fun _ => ?_, hK _ ?_⟩; (first | fail); clear hK K)))
        (refine mix_step (by kernel_rfl) (by kernel_rfl) (fun K hK => ?_); go_simp; (try (simp only [↓IntWalk.iteOmega]; go_simp)); (first | (refine hK _ ?_; clear hK K) | (apply Exists.intro; refine ⟨fun _ => ?_, hK _ ?_⟩; (first | fail); clear hK K)))
        (refine mix_step (by kernel_rfl) (by kernel_rfl) (fun K hK => ?_); go_simp; (try (simp only [↓IntWalk.iteOmega]; go_simp)); (first | (refine hK _ ?_; clear hK K) | (apply Exists.intro; refine ⟨fun _ => ?_, hK _ ?_⟩; (first | fail); clear hK K)))
        (refine mix_step (by kernel_rfl) (by kernel_rfl) (fun K hK => ?_); go_simp; (try (simp only [↓IntWalk.iteOmega]; go_simp)); (first | (refine hK _ ?_; clear hK K) | (apply Exists.intro; refine ⟨fun _ => ?_, hK _ ?_⟩; (first | fail); clear hK K)))
        (refine mix_step (by kernel_rfl) (by kernel_rfl) (fun K hK => ?_); go_simp; (try (simp only [↓IntWalk.iteOmega]; go_simp)); (first | (refine hK _ ?_; clear hK K) | (apply Exists.intro; refine ⟨fun _ => ?_, hK _ ?_⟩; (first | fail); clear hK K)))
        (refine mix_step (by kernel_rfl) (by kernel_rfl) (fun K hK => ?_); go_simp; (try (simp only [↓IntWalk.iteOmega]; go_simp)); (first | (refine hK _ ?_; clear hK K) | (apply Exists.intro; refine ⟨fun _ => ?_, hK _ ?_⟩; (first | fail); clear hK K)))
        (refine mix_step (by kernel_rfl) (by kernel_rfl) (fun K hK => ?_); go_simp; (try (simp only [↓IntWalk.iteOmega]; go_simp)); (first | (refine hK _ ?_; clear hK K) | (apply Exists.intro; refine ⟨fun _ => ?_, hK _ ?_⟩; (first | fail); clear hK K)))
        (refine mix_step (by kernel_rfl) (by kernel_rfl) (fun K hK => ?_); go_simp; (try (simp only [↓IntWalk.iteOmega]; go_simp)); (first | (refine hK _ ?_; clear hK K) | (apply Exists.intro; refine ⟨fun _ => ?_, hK _ ?_⟩; (first | fail); clear hK K)))
        (refine mix_step (by kernel_rfl) (by kernel_rfl) (fun K hK => ?_); go_simp; (try (simp only [↓IntWalk.iteOmega]; go_simp)); (first | (refine hK _ ?_; clear hK K) | (apply Exists.intro; refine ⟨fun _ => ?_, hK _ ?_⟩; (first | fail); clear hK K)))
        (refine mix_step (by kernel_rfl) (by kernel_rfl) (fun K hK => ?_); go_simp; (try (simp only [↓IntWalk.iteOmega]; go_simp)); (first | (refine hK _ ?_; clear hK K) | (apply Exists.intro; refine ⟨fun _ => ?_, hK _ ?_⟩; (first | fail); clear hK K)))
        (refine mix_step (by kernel_rfl) (by kernel_rfl) (fun K hK => ?_); go_simp; (try (simp only [↓IntWalk.iteOmega]; go_simp)); (first | (refine hK _ ?_; clear hK K) | (apply Exists.intro; refine ⟨fun _ => ?_, hK _ ?_⟩; (first | fail); clear hK K)))
        (refine mix_step (by kernel_rfl) (by kernel_rfl) (fun K hK => ?_); go_simp; (try (simp only [↓IntWalk.iteOmega]; go_simp)); (first | (refine hK _ ?_; clear hK K) | (apply Exists.intro; refine ⟨fun _ => ?_, hK _ ?_⟩; (first | fail); clear hK K)))
        (refine mix_step (by kernel_rfl) (by kernel_rfl) (fun K hK => ?_); go_simp; (try (simp only [↓IntWalk.iteOmega]; go_simp)); (first | (refine hK _ ?_; clear hK K) | (apply Exists.intro; refine ⟨fun _ => ?_, hK _ ?_⟩; (first | fail); clear hK K)))
        (refine mix_step (by kernel_rfl) (by kernel_rfl) (fun K hK => ?_); go_simp; (try (simp only [↓IntWalk.iteOmega]; go_simp)); (first | (refine hK _ ?_; clear hK K) | (apply Exists.intro; refine ⟨fun _ => ?_, hK _ ?_⟩; (first | fail); clear hK K)))
        (refine mix_step (by kernel_rfl) (by kernel_rfl) (fun K hK => ?_); go_simp; (try (simp only [↓IntWalk.iteOmega]; go_simp)); (first | (refine hK _ ?_; clear hK K) | (apply Exists.intro; refine ⟨fun _ => ?_, hK _ ?_⟩; (first | fail); clear hK K)))
        (refine mix_step (by kernel_rfl) (by kernel_rfl) (fun K hK => ?_); go_simp; (try (simp only [↓IntWalk.iteOmega]; go_simp)); (first | (refine hK _ ?_; clear hK K) | (apply Exists.intro; refine ⟨fun _ => ?_, hK _ ?_⟩; (first | fail); clear hK K)))
        (refine mix_step (by kernel_rfl) (by kernel_rfl) (fun K hK => ?_); go_simp; (try (simp only [↓IntWalk.iteOmega]; go_simp)); (first | (refine hK _ ?_; clear hK K) | (apply Exists.intro; refine ⟨fun _ => ?_, hK _ ?_⟩; (first | fail); clear hK K)))
        (refine mix_step (by kernel_rfl) (by kernel_rfl) (fun K hK => ?_); go_simp; (try (simp only [↓IntWalk.iteOmega]; go_simp)); (first | (refine hK _ ?_; clear hK K) | (apply Exists.intro; refine ⟨fun _ => ?_, hK _ ?_⟩; (first | fail); clear hK K)))
        (refine mix_step (by kernel_rfl) (by kernel_rfl) (fun K hK => ?_); go_simp; (try (simp only [↓IntWalk.iteOmega]; go_simp)); (first | (refine hK _ ?_; clear hK K) | (apply Exists.intro; refine ⟨fun _ => ?_, hK _ ?_⟩; (first | fail); clear hK K)))
        (refine mix_step (by kernel_rfl) (by kernel_rfl) (fun K hK => ?_); go_simp; (try (simp only [↓IntWalk.iteOmega]; go_simp)); (first | (refine hK _ ?_; clear hK K) | (apply Exists.intro; refine ⟨fun _ => ?_, hK _ ?_⟩; (first | fail); clear hK K)))
        (refine mix_step (by kernel_rfl) (by kernel_rfl) (fun K hK => ?_); go_simp; (try (simp only [↓IntWalk.iteOmega]; go_simp)); (first | (refine hK _ ?_; clear hK K) | (apply Exists.intro; refine ⟨fun _ => ?_, hK _ ?_⟩; (first | fail); clear hK K)))
        (refine mix_step (by kernel_rfl) (by kernel_rfl) (fun K hK => ?_); go_simp; (try (simp only [↓IntWalk.iteOmega]; go_simp)); (first | (refine hK _ ?_; clear hK K) | (apply Exists.intro; refine ⟨fun _ => ?_, hK _ ?_⟩; (first | fail); clear hK K)))
        (refine mix_step (by kernel_rfl) (by kernel_rfl) (fun K hK => ?_); go_simp; (try (simp only [↓IntWalk.iteOmega]; go_simp)); (first | (refine hK _ ?_; clear hK K) | (apply Exists.intro; refine ⟨fun _ => ?_, hK _ ?_⟩; (first | fail); clear hK K)))
        (refine mix_step (by kernel_rfl) (by kernel_rfl) (fun K hK => ?_); go_simp; (try (simp only [↓IntWalk.iteOmega]; go_simp)); (first | (refine hK _ ?_; clear hK K) | (apply Exists.intro; refine ⟨fun _ => ?_, hK _ ?_⟩; (first | fail); clear hK K)))
        (refine mix_step (by kernel_rfl) (by kernel_rfl) (fun K hK => ?_); go_simp; (try (simp only [↓IntWalk.iteOmega]; go_simp)); (first | (refine hK _ ?_; clear hK K) | (apply Exists.intro; refine ⟨fun _ => ?_, hK _ ?_⟩; (first | fail); clear hK K)))
        (refine mix_step (by kernel_rfl) (by kernel_rfl) (fun K hK => ?_); go_simp; (try (simp only [↓IntWalk.iteOmega]; go_simp)); (first | (refine hK _ ?_; clear hK K) | (apply Exists.intro; refine ⟨fun _ => ?_, hK _ ?_⟩; (first | fail); clear hK K)))
        (refine mix_step (by kernel_rfl) (by kernel_rfl) (fun K hK => ?_); go_simp; (try (simp only [↓IntWalk.iteOmega]; go_simp)); (first | (refine hK _ ?_; clear hK K) | (apply Exists.intro; refine ⟨fun _ => ?_, hK _ ?_⟩; (first | fail); clear hK K)))
        (refine mix_step (by kernel_rfl) (by kernel_rfl) (fun K hK => ?_); go_simp; (try (simp only [↓IntWalk.iteOmega]; go_simp)); (first | (refine hK _ ?_; clear hK K) | (apply Exists.intro; refine ⟨fun _ => ?_, hK _ ?_⟩; (first | fail); clear hK K)))
        (refine mix_step (by kernel_rfl) (by kernel_rfl) (fun K hK => ?_); go_simp; (try (simp only [↓IntWalk.iteOmega]; go_simp)); (first | (refine hK _ ?_; clear hK K) | (apply Exists.intro; refine ⟨fun _ => ?_, hK _ ?_⟩; (first | fail); clear hK K)))
        (refine mix_step (by kernel_rfl) (by kernel_rfl) (fun K hK => ?_); go_simp; (try (simp only [↓IntWalk.iteOmega]; go_simp)); (first | (refine hK _ ?_; clear hK K) | (apply Exists.intro; refine ⟨fun _ => ?_, hK _ ?_⟩; (first | fail); clear hK K)))
        (refine mix_step (by kernel_rfl) (by kernel_rfl) (fun K hK => ?_); go_simp; (try (simp only [↓IntWalk.iteOmega]; go_simp)); (first | (refine hK _ ?_; clear hK K) | (apply Exists.intro; refine ⟨fun _ => ?_, hK _ ?_⟩; (first | fail); clear hK K)))
        (refine mix_step (by kernel_rfl) (by kernel_rfl) (fun K hK => ?_); go_simp; (try (simp only [↓IntWalk.iteOmega]; go_simp)); (first | (refine hK _ ?_; clear hK K) | (apply Exists.intro; refine ⟨fun _ => ?_, hK _ ?_⟩; (first | fail); clear hK K)))
        (refine mix_step (by kernel_rfl) (by kernel_rfl) (fun K hK => ?_); go_simp; (try (simp only [↓IntWalk.iteOmega]; go_simp)); (first | (refine hK _ ?_; clear hK K) | (apply Exists.intro; refine ⟨fun _ => ?_, hK _ ?_⟩; (first | fail); clear hK K)))
        (refine mix_step (by kernel_rfl) (by kernel_rfl) (fun K hK => ?_); go_simp; (try (simp only [↓IntWalk.iteOmega]; go_simp)); (first | (refine hK _ ?_; clear hK K) | (apply Exists.intro; refine ⟨fun _ => ?_, hK _ ?_⟩; (first | fail); clear hK K)))
        refine mix_nil ?_
        rintro ⟨dq, osq⟩
        have hb1 := below_regrown W dq osq
        refine (show wpList _ _ _ _ _ _ from ?_)
        simp only [List.drop, Act.put, List.setIfInBounds_toArray, List.set]
        go_wp2_with fail
        go_meet
        exact ⟨by rw [HNF.out], hb1⟩
      · cases hfar : decide (1073741824 < x.c)
        · rw [hfar] at HNF
          generalize decide (x.b = s.id) = ei at *
          cases ei
          · have HNF : Hid (s.notFor (k : Nat) x = false) := HNF.out
            refine wp_region_mix 38 (by kernel_rfl) (by kernel_rfl) (by kernel_rfl) ?_
            (refine mix_step (by kernel_rfl) (by kernel_rfl) (fun K hK => ?_); go_simp; (try (simp only [↓IntWalk.iteOmega]; go_simp)); (first | (refine hK _ ?_; clear hK K) | (apply Exists.intro; refine ⟨fun _ => ?_, hK _ ?_⟩; (first | fail); clear hK K)))
            (refine mix_step (by kernel_rfl) (by kernel_rfl) (fun K hK => ?_); go_simp; (try (simp only [↓IntWalk.iteOmega]; go_simp)); (first | (refine hK _ ?_; clear hK K) | (apply Exists.intro; refine ⟨fun _ => ?_, hK _ ?_⟩; (first | fail); clear hK K)))
            (refine mix_step (by kernel_rfl) (by kernel_rfl) (fun K hK => ?_); go_simp; (try (simp only [↓IntWalk.iteOmega]; go_simp)); (first | (refine hK _ ?_; clear hK K) | (apply Exists.intro; refine ⟨fun _ => ?_, hK _ ?_⟩; (first | exact C1.out _); clear hK K)))
            (refine mix_step (by kernel_rfl) (by kernel_rfl) (fun K hK => ?_); go_simp; (try (simp only [↓IntWalk.iteOmega]; go_simp)); (first | (refine hK _ ?_; clear hK K) | (apply Exists.intro; refine ⟨fun _ => ?_, hK _ ?_⟩; (first | fail); clear hK K)))
            (refine mix_step (by kernel_rfl) (by kernel_rfl) (fun K hK => ?_); go_simp; (try (simp only [↓IntWalk.iteOmega]; go_simp)); (first | (refine hK _ ?_; clear hK K) | (apply Exists.intro; refine ⟨fun _ => ?_, hK _ ?_⟩; (first | fail); clear hK K)))
            (refine mix_step (by kernel_rfl) (by kernel_rfl) (fun K hK => ?_); go_simp; (try (simp only [↓IntWalk.iteOmega]; go_simp)); (first | (refine hK _ ?_; clear hK K) | (apply Exists.intro; refine ⟨fun _ => ?_, hK _ ?_⟩; (first | fail); clear hK K)))
            (refine mix_step (by kernel_rfl) (by kernel_rfl) (fun K hK => ?_); go_simp; (try (simp only [↓IntWalk.iteOmega]; go_simp)); (first | (refine hK _ ?_; clear hK K) | (apply Exists.intro; refine ⟨fun _ => ?_, hK _ ?_⟩; (first | fail); clear hK K)))
            (refine mix_step (by kernel_rfl) (by kernel_rfl) (fun K hK => ?_); go_simp; (try (simp only [↓IntWalk.iteOmega]; go_simp)); (first | (refine hK _ ?_; clear hK K) | (apply Exists.intro; refine ⟨fun _ => ?_, hK _ ?_⟩; (first | fail); clear hK K)))
            (refine mix_step (by kernel_rfl) (by kernel_rfl) (fun K hK => ?_); go_simp; (try (simp only [↓IntWalk.iteOmega]; go_simp)); (first | (refine hK _ ?_; clear hK K) | (apply Exists.intro; refine ⟨fun _ => ?_, hK _ ?_⟩; (first | fail); clear hK K)))
            (refine mix_step (by kernel_rfl) (by kernel_rfl) (fun K hK => ?_); go_simp; (try (simp only [↓IntWalk.iteOmega]; go_simp)); (first | (refine hK _ ?_; clear hK K) | (apply Exists.intro; refine ⟨fun _ => ?_, hK _ ?_⟩; (first | fail); clear hK K)))
            (refine mix_step (by kernel_rfl) (by kernel_rfl) (fun K hK => ?_); go_simp; (try (simp only [↓IntWalk.iteOmega]; go_simp)); (first | (refine hK _ ?_; clear hK K) | (apply Exists.intro; refine ⟨fun _ => ?_, hK _ ?_⟩; (first | fail); clear hK K)))
            (refine mix_step (by kernel_rfl) (by kernel_rfl) (fun K hK => ?_); go_simp; (try (simp only [↓IntWalk.iteOmega]; go_simp)); (first | (refine hK _ ?_; clear hK K) | (apply Exists.intro; refine ⟨fun _ => ?_, hK _ ?_⟩; (first | fail); clear hK K)))
            (refine mix_step (by kernel_rfl) (by kernel_rfl) (fun K hK => ?_); go_simp; (try (simp only [↓IntWalk.iteOmega]; go_simp)); (first | (refine hK _ ?_; clear hK K) | (apply Exists.intro; refine ⟨fun _ => ?_, hK _ ?_⟩; (first | fail); clear hK K)))
            (refine mix_step (by kernel_rfl) (by kernel_rfl) (fun K hK => ?_); go_simp; (try (simp only [↓IntWalk.iteOmega]; go_simp)); (first | (refine hK _ ?_; clear hK K) | (apply Exists.intro; refine ⟨fun _ => ?_, hK _ ?_⟩; (first | fail); clear hK K)))
            (refine mix_step (by kernel_rfl) (by kernel_rfl) (fun K hK => ?_); go_simp; (try (simp only [↓IntWalk.iteOmega]; go_simp)); (first | (refine hK _ ?_; clear hK K) | (apply Exists.intro; refine ⟨fun _ => ?_, hK _ ?_⟩; (first | fail); clear hK K)))
            (refine mix_step (by kernel_rfl) (by kernel_rfl) (fun K hK => ?_); go_simp; (try (simp only [↓IntWalk.iteOmega]; go_simp)); (first | (refine hK _ ?_; clear hK K) | (apply Exists.intro; refine ⟨fun _ => ?_, hK _ ?_⟩; (first | fail); clear hK K)))
            (refine mix_step (by kernel_rfl) (by kernel_rfl) (fun K hK => ?_); go_simp; (try (simp only [↓IntWalk.iteOmega]; go_simp)); (first | (refine hK _ ?_; clear hK K) | (apply Exists.intro; refine ⟨fun _ => ?_, hK _ ?_⟩; (first | fail); clear hK K)))
            (refine mix_step (by kernel_rfl) (by kernel_rfl) (fun K hK => ?_); go_simp; (try (simp only [↓IntWalk.iteOmega]; go_simp)); (first | (refine hK _ ?_; clear hK K) | (apply Exists.intro; refine ⟨fun _ => ?_, hK _ ?_⟩; (first | fail); clear hK K)))
            (refine mix_step (by kernel_rfl) (by kernel_rfl) (fun K hK => ?_); go_simp; (try (simp only [↓IntWalk.iteOmega]; go_simp)); (first | (refine hK _ ?_; clear hK K) | (apply Exists.intro; refine ⟨fun _ => ?_, hK _ ?_⟩; (first | fail); clear hK K)))
            (refine mix_step (by kernel_rfl) (by kernel_rfl) (fun K hK => ?_); go_simp; (try (simp only [↓IntWalk.iteOmega]; go_simp)); (first | (refine hK _ ?_; clear hK K) | (apply Exists.intro; refine ⟨fun _ => ?_, hK _ ?_⟩; (first | fail); clear hK K)))
            (refine mix_step (by kernel_rfl) (by kernel_rfl) (fun K hK => ?_); go_simp; (try (simp only [↓IntWalk.iteOmega]; go_simp)); (first | (refine hK _ ?_; clear hK K) | (apply Exists.intro; refine ⟨fun _ => ?_, hK _ ?_⟩; (first | fail); clear hK K)))
            (refine mix_step (by kernel_rfl) (by kernel_rfl) (fun K hK => ?_); go_simp; (try (simp only [↓IntWalk.iteOmega]; go_simp)); (first | (refine hK _ ?_; clear hK K) | (apply Exists.intro; refine ⟨fun _ => ?_, hK _ ?_⟩; (first | fail); clear hK K)))
            (refine mix_step (by kernel_rfl) (by kernel_rfl) (fun K hK => ?_); go_simp; (try (simp only [↓IntWalk.iteOmega]; go_simp)); (first | (refine hK _ ?_; clear hK K) | (apply Exists.intro; refine ⟨fun _ => ?_, hK _ ?_⟩; (first | fail); clear hK K)))
            (refine mix_step (by kernel_rfl) (by kernel_rfl) (fun K hK => ?_); go_simp; (try (simp only [↓IntWalk.iteOmega]; go_simp)); (first | (refine hK _ ?_; clear hK K) | (apply Exists.intro; refine ⟨fun _ => ?_, hK _ ?_⟩; (first | fail); clear hK K)))
            refine mix_exact (.agg #[.int .u8 ((x.b.f 0).toNat : Int), .int .u8 ((x.b.f 1).toNat : Int), .int .u8 ((x.b.f 2).toNat : Int), .int .u8 ((x.b.f 3).toNat : Int), .int .u8 ((x.b.f 4).toNat : Int), .int .u8 ((x.b.f 5).toNat : Int), .int .u8 ((x.b.f 6).toNat : Int), .int .u8 ((x.b.f 7).toNat : Int)]) rfl (exact_load_mid (sub := [.int .u8 ((x.b.f 0).toNat : Int), .int .u8 ((x.b.f 1).toNat : Int), .int .u8 ((x.b.f 2).toNat : Int), .int .u8 ((x.b.f 3).toNat : Int), .int .u8 ((x.b.f 4).toNat : Int), .int .u8 ((x.b.f 5).toNat : Int), .int .u8 ((x.b.f 6).toNat : Int), .int .u8 ((x.b.f 7).toNat : Int)]) rfl rfl (by simp) RX.out rfl Try.underlying23 rfl (by kernel_rfl)) ?_
            (refine mix_step (by kernel_rfl) (by kernel_rfl) (fun K hK => ?_); go_simp; (try (simp only [↓IntWalk.iteOmega]; go_simp)); (first | (refine hK _ ?_; clear hK K) | (apply Exists.intro; refine ⟨fun _ => ?_, hK _ ?_⟩; (first | fail); clear hK K)))
            (refine mix_step (by kernel_rfl) (by kernel_rfl) (fun K hK => ?_); go_simp; (try (simp only [↓IntWalk.iteOmega]; go_simp)); (first | (refine hK _ ?_; clear hK K) | (apply Exists.intro; refine ⟨fun _ => ?_, hK _ ?_⟩; (first | fail); clear hK K)))
            (refine mix_step (by kernel_rfl) (by kernel_rfl) (fun K hK => ?_); go_simp; (try (simp only [↓IntWalk.iteOmega]; go_simp)); (first | (refine hK _ ?_; clear hK K) | (apply Exists.intro; refine ⟨fun _ => ?_, hK _ ?_⟩; (first | fail); clear hK K)))
            refine mix_exact (.agg #[.int .u8 ((s.id.f 0).toNat : Int), .int .u8 ((s.id.f 1).toNat : Int), .int .u8 ((s.id.f 2).toNat : Int), .int .u8 ((s.id.f 3).toNat : Int), .int .u8 ((s.id.f 4).toNat : Int), .int .u8 ((s.id.f 5).toNat : Int), .int .u8 ((s.id.f 6).toNat : Int), .int .u8 ((s.id.f 7).toNat : Int)]) rfl (exact_load_mid (sub := [.int .u8 ((s.id.f 0).toNat : Int), .int .u8 ((s.id.f 1).toNat : Int), .int .u8 ((s.id.f 2).toNat : Int), .int .u8 ((s.id.f 3).toNat : Int), .int .u8 ((s.id.f 4).toNat : Int), .int .u8 ((s.id.f 5).toNat : Int), .int .u8 ((s.id.f 6).toNat : Int), .int .u8 ((s.id.f 7).toNat : Int)]) rfl rfl (by simp) RS.out rfl Try.underlying23 rfl (by kernel_rfl)) ?_
            (refine mix_step (by kernel_rfl) (by kernel_rfl) (fun K hK => ?_); go_simp; (try (simp only [↓IntWalk.iteOmega]; go_simp)); (first | (refine hK _ ?_; clear hK K) | (apply Exists.intro; refine ⟨fun _ => ?_, hK _ ?_⟩; (first | fail); clear hK K)))
            (refine mix_step (by kernel_rfl) (by kernel_rfl) (fun K hK => ?_); go_simp; (try (simp only [↓IntWalk.iteOmega]; go_simp)); (first | (refine hK _ ?_; clear hK K) | (apply Exists.intro; refine ⟨fun _ => ?_, hK _ ?_⟩; (first | fail); clear hK K)))
            (refine mix_step (by kernel_rfl) (by kernel_rfl) (fun K hK => ?_); go_simp; (try (simp only [↓IntWalk.iteOmega]; go_simp)); (first | (refine hK _ ?_; clear hK K) | (apply Exists.intro; refine ⟨fun _ => ?_, hK _ ?_⟩; (first | fail); clear hK K)))
            (refine mix_step (by kernel_rfl) (by kernel_rfl) (fun K hK => ?_); go_simp; (try (simp only [↓IntWalk.iteOmega]; go_simp)); (first | (refine hK _ ?_; clear hK K) | (apply Exists.intro; refine ⟨fun _ => ?_, hK _ ?_⟩; (first | fail); clear hK K)))
            (refine mix_step (by kernel_rfl) (by kernel_rfl) (fun K hK => ?_); go_simp; (try (simp only [↓IntWalk.iteOmega]; go_simp)); (first | (refine hK _ ?_; clear hK K) | (apply Exists.intro; refine ⟨fun _ => ?_, hK _ ?_⟩; (first | fail); clear hK K)))
            (refine mix_step (by kernel_rfl) (by kernel_rfl) (fun K hK => ?_); go_simp; (try (simp only [↓IntWalk.iteOmega]; go_simp)); (first | (refine hK _ ?_; clear hK K) | (apply Exists.intro; refine ⟨fun _ => ?_, hK _ ?_⟩; (first | fail); clear hK K)))
            (refine mix_step (by kernel_rfl) (by kernel_rfl) (fun K hK => ?_); go_simp; (try (simp only [↓IntWalk.iteOmega]; go_simp)); (first | (refine hK _ ?_; clear hK K) | (apply Exists.intro; refine ⟨fun _ => ?_, hK _ ?_⟩; (first | fail); clear hK K)))
            (refine mix_step (by kernel_rfl) (by kernel_rfl) (fun K hK => ?_); go_simp; (try (simp only [↓IntWalk.iteOmega]; go_simp)); (first | (refine hK _ ?_; clear hK K) | (apply Exists.intro; refine ⟨fun _ => ?_, hK _ ?_⟩; (first | fail); clear hK K)))
            (refine mix_step (by kernel_rfl) (by kernel_rfl) (fun K hK => ?_); go_simp; (try (simp only [↓IntWalk.iteOmega]; go_simp)); (first | (refine hK _ ?_; clear hK K) | (apply Exists.intro; refine ⟨fun _ => ?_, hK _ ?_⟩; (first | fail); clear hK K)))
            refine mix_nil ?_
            rintro ⟨dq, osq⟩
            have hb1 := below_regrown W dq osq
            refine (show wpList _ _ _ _ _ _ from ?_)
            simp only [List.drop, Act.put, List.setIfInBounds_toArray, List.set]
            go_wp2_with fail
            go_meet
            exact ⟨by rw [HNF.out], hb1⟩
          · have HNF : Hid (s.notFor (k : Nat) x = (x.p == (k : Int) + 1)) := HNF.out
            refine wp_region_mix 38 (by kernel_rfl) (by kernel_rfl) (by kernel_rfl) ?_
            (refine mix_step (by kernel_rfl) (by kernel_rfl) (fun K hK => ?_); go_simp; (try (simp only [↓IntWalk.iteOmega]; go_simp)); (first | (refine hK _ ?_; clear hK K) | (apply Exists.intro; refine ⟨fun _ => ?_, hK _ ?_⟩; (first | fail); clear hK K)))
            (refine mix_step (by kernel_rfl) (by kernel_rfl) (fun K hK => ?_); go_simp; (try (simp only [↓IntWalk.iteOmega]; go_simp)); (first | (refine hK _ ?_; clear hK K) | (apply Exists.intro; refine ⟨fun _ => ?_, hK _ ?_⟩; (first | fail); clear hK K)))
            (refine mix_step (by kernel_rfl) (by kernel_rfl) (fun K hK => ?_); go_simp; (try (simp only [↓IntWalk.iteOmega]; go_simp)); (first | (refine hK _ ?_; clear hK K) | (apply Exists.intro; refine ⟨fun _ => ?_, hK _ ?_⟩; (first | exact C1.out _); clear hK K)))
            (refine mix_step (by kernel_rfl) (by kernel_rfl) (fun K hK => ?_); go_simp; (try (simp only [↓IntWalk.iteOmega]; go_simp)); (first | (refine hK _ ?_; clear hK K) | (apply Exists.intro; refine ⟨fun _ => ?_, hK _ ?_⟩; (first | fail); clear hK K)))
            (refine mix_step (by kernel_rfl) (by kernel_rfl) (fun K hK => ?_); go_simp; (try (simp only [↓IntWalk.iteOmega]; go_simp)); (first | (refine hK _ ?_; clear hK K) | (apply Exists.intro; refine ⟨fun _ => ?_, hK _ ?_⟩; (first | fail); clear hK K)))
            (refine mix_step (by kernel_rfl) (by kernel_rfl) (fun K hK => ?_); go_simp; (try (simp only [↓IntWalk.iteOmega]; go_simp)); (first | (refine hK _ ?_; clear hK K) | (apply Exists.intro; refine ⟨fun _ => ?_, hK _ ?_⟩; (first | fail); clear hK K)))
            (refine mix_step (by kernel_rfl) (by kernel_rfl) (fun K hK => ?_); go_simp; (try (simp only [↓IntWalk.iteOmega]; go_simp)); (first | (refine hK _ ?_; clear hK K) | (apply Exists.intro; refine ⟨fun _ => ?_, hK _ ?_⟩; (first | fail); clear hK K)))
            (refine mix_step (by kernel_rfl) (by kernel_rfl) (fun K hK => ?_); go_simp; (try (simp only [↓IntWalk.iteOmega]; go_simp)); (first | (refine hK _ ?_; clear hK K) | (apply Exists.intro; refine ⟨fun _ => ?_, hK _ ?_⟩; (first | fail); clear hK K)))
            (refine mix_step (by kernel_rfl) (by kernel_rfl) (fun K hK => ?_); go_simp; (try (simp only [↓IntWalk.iteOmega]; go_simp)); (first | (refine hK _ ?_; clear hK K) | (apply Exists.intro; refine ⟨fun _ => ?_, hK _ ?_⟩; (first | fail); clear hK K)))
            (refine mix_step (by kernel_rfl) (by kernel_rfl) (fun K hK => ?_); go_simp; (try (simp only [↓IntWalk.iteOmega]; go_simp)); (first | (refine hK _ ?_; clear hK K) | (apply Exists.intro; refine ⟨fun _ => ?_, hK _ ?_⟩; (first | fail); clear hK K)))
            (refine mix_step (by kernel_rfl) (by kernel_rfl) (fun K hK => ?_); go_simp; (try (simp only [↓IntWalk.iteOmega]; go_simp)); (first | (refine hK _ ?_; clear hK K) | (apply Exists.intro; refine ⟨fun _ => ?_, hK _ ?_⟩; (first | fail); clear hK K)))
            (refine mix_step (by kernel_rfl) (by kernel_rfl) (fun K hK => ?_); go_simp; (try (simp only [↓IntWalk.iteOmega]; go_simp)); (first | (refine hK _ ?_; clear hK K) | (apply Exists.intro; refine ⟨fun _ => ?_, hK _ ?_⟩; (first | fail); clear hK K)))
            (refine mix_step (by kernel_rfl) (by kernel_rfl) (fun K hK => ?_); go_simp; (try (simp only [↓IntWalk.iteOmega]; go_simp)); (first | (refine hK _ ?_; clear hK K) | (apply Exists.intro; refine ⟨fun _ => ?_, hK _ ?_⟩; (first | fail); clear hK K)))
            (refine mix_step (by kernel_rfl) (by kernel_rfl) (fun K hK => ?_); go_simp; (try (simp only [↓IntWalk.iteOmega]; go_simp)); (first | (refine hK _ ?_; clear hK K) | (apply Exists.intro; refine ⟨fun _ => ?_, hK _ ?_⟩; (first | fail); clear hK K)))
            (refine mix_step (by kernel_rfl) (by kernel_rfl) (fun K hK => ?_); go_simp; (try (simp only [↓IntWalk.iteOmega]; go_simp)); (first | (refine hK _ ?_; clear hK K) | (apply Exists.intro; refine ⟨fun _ => ?_, hK _ ?_⟩; (first | fail); clear hK K)))
            (refine mix_step (by kernel_rfl) (by kernel_rfl) (fun K hK => ?_); go_simp; (try (simp only [↓IntWalk.iteOmega]; go_simp)); (first | (refine hK _ ?_; clear hK K) | (apply Exists.intro; refine ⟨fun _ => ?_, hK _ ?_⟩; (first | fail); clear hK K)))
            (refine mix_step (by kernel_rfl) (by kernel_rfl) (fun K hK => ?_); go_simp; (try (simp only [↓IntWalk.iteOmega]; go_simp)); (first | (refine hK _ ?_; clear hK K) | (apply Exists.intro; refine ⟨fun _ => ?_, hK _ ?_⟩; (first | fail); clear hK K)))
            (refine mix_step (by kernel_rfl) (by kernel_rfl) (fun K hK => ?_); go_simp; (try (simp only [↓IntWalk.iteOmega]; go_simp)); (first | (refine hK _ ?_; clear hK K) | (apply Exists.intro; refine ⟨fun _ => ?_, hK _ ?_⟩; (first | fail); clear hK K)))
            (refine mix_step (by kernel_rfl) (by kernel_rfl) (fun K hK => ?_); go_simp; (try (simp only [↓IntWalk.iteOmega]; go_simp)); (first | (refine hK _ ?_; clear hK K) | (apply Exists.intro; refine ⟨fun _ => ?_, hK _ ?_⟩; (first | fail); clear hK K)))
            (refine mix_step (by kernel_rfl) (by kernel_rfl) (fun K hK => ?_); go_simp; (try (simp only [↓IntWalk.iteOmega]; go_simp)); (first | (refine hK _ ?_; clear hK K) | (apply Exists.intro; refine ⟨fun _ => ?_, hK _ ?_⟩; (first | fail); clear hK K)))
            (refine mix_step (by kernel_rfl) (by kernel_rfl) (fun K hK => ?_); go_simp; (try (simp only [↓IntWalk.iteOmega]; go_simp)); (first | (refine hK _ ?_; clear hK K) | (apply Exists.intro; refine ⟨fun _ => ?_, hK _ ?_⟩; (first | fail); clear hK K)))
            (refine mix_step (by kernel_rfl) (by kernel_rfl) (fun K hK => ?_); go_simp; (try (simp only [↓IntWalk.iteOmega]; go_simp)); (first | (refine hK _ ?_; clear hK K) | (apply Exists.intro; refine ⟨fun _ => ?_, hK _ ?_⟩; (first | fail); clear hK K)))
            (refine mix_step (by kernel_rfl) (by kernel_rfl) (fun K hK => ?_); go_simp; (try (simp only [↓IntWalk.iteOmega]; go_simp)); (first | (refine hK _ ?_; clear hK K) | (apply Exists.intro; refine ⟨fun _ => ?_, hK _ ?_⟩; (first | fail); clear hK K)))
            (refine mix_step (by kernel_rfl) (by kernel_rfl) (fun K hK => ?_); go_simp; (try (simp only [↓IntWalk.iteOmega]; go_simp)); (first | (refine hK _ ?_; clear hK K) | (apply Exists.intro; refine ⟨fun _ => ?_, hK _ ?_⟩; (first | fail); clear hK K)))
            refine mix_exact (.agg #[.int .u8 ((x.b.f 0).toNat : Int), .int .u8 ((x.b.f 1).toNat : Int), .int .u8 ((x.b.f 2).toNat : Int), .int .u8 ((x.b.f 3).toNat : Int), .int .u8 ((x.b.f 4).toNat : Int), .int .u8 ((x.b.f 5).toNat : Int), .int .u8 ((x.b.f 6).toNat : Int), .int .u8 ((x.b.f 7).toNat : Int)]) rfl (exact_load_mid (sub := [.int .u8 ((x.b.f 0).toNat : Int), .int .u8 ((x.b.f 1).toNat : Int), .int .u8 ((x.b.f 2).toNat : Int), .int .u8 ((x.b.f 3).toNat : Int), .int .u8 ((x.b.f 4).toNat : Int), .int .u8 ((x.b.f 5).toNat : Int), .int .u8 ((x.b.f 6).toNat : Int), .int .u8 ((x.b.f 7).toNat : Int)]) rfl rfl (by simp) RX.out rfl Try.underlying23 rfl (by kernel_rfl)) ?_
            (refine mix_step (by kernel_rfl) (by kernel_rfl) (fun K hK => ?_); go_simp; (try (simp only [↓IntWalk.iteOmega]; go_simp)); (first | (refine hK _ ?_; clear hK K) | (apply Exists.intro; refine ⟨fun _ => ?_, hK _ ?_⟩; (first | fail); clear hK K)))
            (refine mix_step (by kernel_rfl) (by kernel_rfl) (fun K hK => ?_); go_simp; (try (simp only [↓IntWalk.iteOmega]; go_simp)); (first | (refine hK _ ?_; clear hK K) | (apply Exists.intro; refine ⟨fun _ => ?_, hK _ ?_⟩; (first | fail); clear hK K)))
            (refine mix_step (by kernel_rfl) (by kernel_rfl) (fun K hK => ?_); go_simp; (try (simp only [↓IntWalk.iteOmega]; go_simp)); (first | (refine hK _ ?_; clear hK K) | (apply Exists.intro; refine ⟨fun _ => ?_, hK _ ?_⟩; (first | fail); clear hK K)))
            refine mix_exact (.agg #[.int .u8 ((s.id.f 0).toNat : Int), .int .u8 ((s.id.f 1).toNat : Int), .int .u8 ((s.id.f 2).toNat : Int), .int .u8 ((s.id.f 3).toNat : Int), .int .u8 ((s.id.f 4).toNat : Int), .int .u8 ((s.id.f 5).toNat : Int), .int .u8 ((s.id.f 6).toNat : Int), .int .u8 ((s.id.f 7).toNat : Int)]) rfl (exact_load_mid (sub := [.int .u8 ((s.id.f 0).toNat : Int), .int .u8 ((s.id.f 1).toNat : Int), .int .u8 ((s.id.f 2).toNat : Int), .int .u8 ((s.id.f 3).toNat : Int), .int .u8 ((s.id.f 4).toNat : Int), .int .u8 ((s.id.f 5).toNat : Int), .int .u8 ((s.id.f 6).toNat : Int), .int .u8 ((s.id.f 7).toNat : Int)]) rfl rfl (by simp) RS.out rfl Try.underlying23 rfl (by kernel_rfl)) ?_
            (refine mix_step (by kernel_rfl) (by kernel_rfl) (fun K hK => ?_); go_simp; (try (simp only [↓IntWalk.iteOmega]; go_simp)); (first | (refine hK _ ?_; clear hK K) | (apply Exists.intro; refine ⟨fun _ => ?_, hK _ ?_⟩; (first | fail); clear hK K)))
            (refine mix_step (by kernel_rfl) (by kernel_rfl) (fun K hK => ?_); go_simp; (try (simp only [↓IntWalk.iteOmega]; go_simp)); (first | (refine hK _ ?_; clear hK K) | (apply Exists.intro; refine ⟨fun _ => ?_, hK _ ?_⟩; (first | fail); clear hK K)))
            (refine mix_step (by kernel_rfl) (by kernel_rfl) (fun K hK => ?_); go_simp; (try (simp only [↓IntWalk.iteOmega]; go_simp)); (first | (refine hK _ ?_; clear hK K) | (apply Exists.intro; refine ⟨fun _ => ?_, hK _ ?_⟩; (first | fail); clear hK K)))
            (refine mix_step (by kernel_rfl) (by kernel_rfl) (fun K hK => ?_); go_simp; (try (simp only [↓IntWalk.iteOmega]; go_simp)); (first | (refine hK _ ?_; clear hK K) | (apply Exists.intro; refine ⟨fun _ => ?_, hK _ ?_⟩; (first | fail); clear hK K)))
            (refine mix_step (by kernel_rfl) (by kernel_rfl) (fun K hK => ?_); go_simp; (try (simp only [↓IntWalk.iteOmega]; go_simp)); (first | (refine hK _ ?_; clear hK K) | (apply Exists.intro; refine ⟨fun _ => ?_, hK _ ?_⟩; (first | fail); clear hK K)))
            (refine mix_step (by kernel_rfl) (by kernel_rfl) (fun K hK => ?_); go_simp; (try (simp only [↓IntWalk.iteOmega]; go_simp)); (first | (refine hK _ ?_; clear hK K) | (apply Exists.intro; refine ⟨fun _ => ?_, hK _ ?_⟩; (first | fail); clear hK K)))
            (refine mix_step (by kernel_rfl) (by kernel_rfl) (fun K hK => ?_); go_simp; (try (simp only [↓IntWalk.iteOmega]; go_simp)); (first | (refine hK _ ?_; clear hK K) | (apply Exists.intro; refine ⟨fun _ => ?_, hK _ ?_⟩; (first | fail); clear hK K)))
            (refine mix_step (by kernel_rfl) (by kernel_rfl) (fun K hK => ?_); go_simp; (try (simp only [↓IntWalk.iteOmega]; go_simp)); (first | (refine hK _ ?_; clear hK K) | (apply Exists.intro; refine ⟨fun _ => ?_, hK _ ?_⟩; (first | fail); clear hK K)))
            (refine mix_step (by kernel_rfl) (by kernel_rfl) (fun K hK => ?_); go_simp; (try (simp only [↓IntWalk.iteOmega]; go_simp)); (first | (refine hK _ ?_; clear hK K) | (apply Exists.intro; refine ⟨fun _ => ?_, hK _ ?_⟩; (first | fail); clear hK K)))
            refine mix_nil ?_
            rintro ⟨dq, osq⟩
            have hb1 := below_regrown W dq osq
            refine (show wpList _ _ _ _ _ _ from ?_)
            simp only [List.drop, Act.put, List.setIfInBounds_toArray, List.set]
            go_wp2_with fail
            go_meet
            exact ⟨by rw [HNF.out], hb1⟩
        · rw [hfar] at HNF
          have HNF : Hid (s.notFor (k : Nat) x = true) := HNF.out
          refine wp_region_mix 38 (by kernel_rfl) (by kernel_rfl) (by kernel_rfl) ?_
          (refine mix_step (by kernel_rfl) (by kernel_rfl) (fun K hK => ?_); go_simp; (try (simp only [↓IntWalk.iteOmega]; go_simp)); (first | (refine hK _ ?_; clear hK K) | (apply Exists.intro; refine ⟨fun _ => ?_, hK _ ?_⟩; (first | fail); clear hK K)))
          (refine mix_step (by kernel_rfl) (by kernel_rfl) (fun K hK => ?_); go_simp; (try (simp only [↓IntWalk.iteOmega]; go_simp)); (first | (refine hK _ ?_; clear hK K) | (apply Exists.intro; refine ⟨fun _ => ?_, hK _ ?_⟩; (first | fail); clear hK K)))
          (refine mix_step (by kernel_rfl) (by kernel_rfl) (fun K hK => ?_); go_simp; (try (simp only [↓IntWalk.iteOmega]; go_simp)); (first | (refine hK _ ?_; clear hK K) | (apply Exists.intro; refine ⟨fun _ => ?_, hK _ ?_⟩; (first | exact C1.out _); clear hK K)))
          (refine mix_step (by kernel_rfl) (by kernel_rfl) (fun K hK => ?_); go_simp; (try (simp only [↓IntWalk.iteOmega]; go_simp)); (first | (refine hK _ ?_; clear hK K) | (apply Exists.intro; refine ⟨fun _ => ?_, hK _ ?_⟩; (first | fail); clear hK K)))
          (refine mix_step (by kernel_rfl) (by kernel_rfl) (fun K hK => ?_); go_simp; (try (simp only [↓IntWalk.iteOmega]; go_simp)); (first | (refine hK _ ?_; clear hK K) | (apply Exists.intro; refine ⟨fun _ => ?_, hK _ ?_⟩; (first | fail); clear hK K)))
          (refine mix_step (by kernel_rfl) (by kernel_rfl) (fun K hK => ?_); go_simp; (try (simp only [↓IntWalk.iteOmega]; go_simp)); (first | (refine hK _ ?_; clear hK K) | (apply Exists.intro; refine ⟨fun _ => ?_, hK _ ?_⟩; (first | fail); clear hK K)))
          (refine mix_step (by kernel_rfl) (by kernel_rfl) (fun K hK => ?_); go_simp; (try (simp only [↓IntWalk.iteOmega]; go_simp)); (first | (refine hK _ ?_; clear hK K) | (apply Exists.intro; refine ⟨fun _ => ?_, hK _ ?_⟩; (first | fail); clear hK K)))
          (refine mix_step (by kernel_rfl) (by kernel_rfl) (fun K hK => ?_); go_simp; (try (simp only [↓IntWalk.iteOmega]; go_simp)); (first | (refine hK _ ?_; clear hK K) | (apply Exists.intro; refine ⟨fun _ => ?_, hK _ ?_⟩; (first | fail); clear hK K)))
          (refine mix_step (by kernel_rfl) (by kernel_rfl) (fun K hK => ?_); go_simp; (try (simp only [↓IntWalk.iteOmega]; go_simp)); (first | (refine hK _ ?_; clear hK K) | (apply Exists.intro; refine ⟨fun _ => ?_, hK _ ?_⟩; (first | fail); clear hK K)))
          (refine mix_step (by kernel_rfl) (by kernel_rfl) (fun K hK => ?_); go_simp; (try (simp only [↓IntWalk.iteOmega]; go_simp)); (first | (refine hK _ ?_; clear hK K) | (apply Exists.intro; refine ⟨fun _ => ?_, hK _ ?_⟩; (first | fail); clear hK K)))
          (refine mix_step (by kernel_rfl) (by kernel_rfl) (fun K hK => ?_); go_simp; (try (simp only [↓IntWalk.iteOmega]; go_simp)); (first | (refine hK _ ?_; clear hK K) | (apply Exists.intro; refine ⟨fun _ => ?_, hK _ ?_⟩; (first | fail); clear hK K)))
          (refine mix_step (by kernel_rfl) (by kernel_rfl) (fun K hK => ?_); go_simp; (try (simp only [↓IntWalk.iteOmega]; go_simp)); (first | (refine hK _ ?_; clear hK K) | (apply Exists.intro; refine ⟨fun _ => ?_, hK _ ?_⟩; (first | fail); clear hK K)))
          (refine mix_step (by kernel_rfl) (by kernel_rfl) (fun K hK => ?_); go_simp; (try (simp only [↓IntWalk.iteOmega]; go_simp)); (first | (refine hK _ ?_; clear hK K) | (apply Exists.intro; refine ⟨fun _ => ?_, hK _ ?_⟩; (first | fail); clear hK K)))
          (refine mix_step (by kernel_rfl) (by kernel_rfl) (fun K hK => ?_); go_simp; (try (simp only [↓IntWalk.iteOmega]; go_simp)); (first | (refine hK _ ?_; clear hK K) | (apply Exists.intro; refine ⟨fun _ => ?_, hK _ ?_⟩; (first | fail); clear hK K)))
          (refine mix_step (by kernel_rfl) (by kernel_rfl) (fun K hK => ?_); go_simp; (try (simp only [↓IntWalk.iteOmega]; go_simp)); (first | (refine hK _ ?_; clear hK K) | (apply Exists.intro; refine ⟨fun _ => ?_, hK _ ?_⟩; (first | fail); clear hK K)))
          (refine mix_step (by kernel_rfl) (by kernel_rfl) (fun K hK => ?_); go_simp; (try (simp only [↓IntWalk.iteOmega]; go_simp)); (first | (refine hK _ ?_; clear hK K) | (apply Exists.intro; refine ⟨fun _ => ?_, hK _ ?_⟩; (first | fail); clear hK K)))
          (refine mix_step (by kernel_rfl) (by kernel_rfl) (fun K hK => ?_); go_simp; (try (simp only [↓IntWalk.iteOmega]; go_simp)); (first | (refine hK _ ?_; clear hK K) | (apply Exists.intro; refine ⟨fun _ => ?_, hK _ ?_⟩; (first | fail); clear hK K)))
          (refine mix_step (by kernel_rfl) (by kernel_rfl) (fun K hK => ?_); go_simp; (try (simp only [↓IntWalk.iteOmega]; go_simp)); (first | (refine hK _ ?_; clear hK K) | (apply Exists.intro; refine ⟨fun _ => ?_, hK _ ?_⟩; (first | fail); clear hK K)))
          (refine mix_step (by kernel_rfl) (by kernel_rfl) (fun K hK => ?_); go_simp; (try (simp only [↓IntWalk.iteOmega]; go_simp)); (first | (refine hK _ ?_; clear hK K) | (apply Exists.intro; refine ⟨fun _ => ?_, hK _ ?_⟩; (first | fail); clear hK K)))
          (refine mix_step (by kernel_rfl) (by kernel_rfl) (fun K hK => ?_); go_simp; (try (simp only [↓IntWalk.iteOmega]; go_simp)); (first | (refine hK _ ?_; clear hK K) | (apply Exists.intro; refine ⟨fun _ => ?_, hK _ ?_⟩; (first | fail); clear hK K)))
          (refine mix_step (by kernel_rfl) (by kernel_rfl) (fun K hK => ?_); go_simp; (try (simp only [↓IntWalk.iteOmega]; go_simp)); (first | (refine hK _ ?_; clear hK K) | (apply Exists.intro; refine ⟨fun _ => ?_, hK _ ?_⟩; (first | fail); clear hK K)))
          (refine mix_step (by kernel_rfl) (by kernel_rfl) (fun K hK => ?_); go_simp; (try (simp only [↓IntWalk.iteOmega]; go_simp)); (first | (refine hK _ ?_; clear hK K) | (apply Exists.intro; refine ⟨fun _ => ?_, hK _ ?_⟩; (first | fail); clear hK K)))
          (refine mix_step (by kernel_rfl) (by kernel_rfl) (fun K hK => ?_); go_simp; (try (simp only [↓IntWalk.iteOmega]; go_simp)); (first | (refine hK _ ?_; clear hK K) | (apply Exists.intro; refine ⟨fun _ => ?_, hK _ ?_⟩; (first | fail); clear hK K)))
          (refine mix_step (by kernel_rfl) (by kernel_rfl) (fun K hK => ?_); go_simp; (try (simp only [↓IntWalk.iteOmega]; go_simp)); (first | (refine hK _ ?_; clear hK K) | (apply Exists.intro; refine ⟨fun _ => ?_, hK _ ?_⟩; (first | fail); clear hK K)))
          (refine mix_step (by kernel_rfl) (by kernel_rfl) (fun K hK => ?_); go_simp; (try (simp only [↓IntWalk.iteOmega]; go_simp)); (first | (refine hK _ ?_; clear hK K) | (apply Exists.intro; refine ⟨fun _ => ?_, hK _ ?_⟩; (first | fail); clear hK K)))
          (refine mix_step (by kernel_rfl) (by kernel_rfl) (fun K hK => ?_); go_simp; (try (simp only [↓IntWalk.iteOmega]; go_simp)); (first | (refine hK _ ?_; clear hK K) | (apply Exists.intro; refine ⟨fun _ => ?_, hK _ ?_⟩; (first | fail); clear hK K)))
          (refine mix_step (by kernel_rfl) (by kernel_rfl) (fun K hK => ?_); go_simp; (try (simp only [↓IntWalk.iteOmega]; go_simp)); (first | (refine hK _ ?_; clear hK K) | (apply Exists.intro; refine ⟨fun _ => ?_, hK _ ?_⟩; (first | fail); clear hK K)))
          (refine mix_step (by kernel_rfl) (by kernel_rfl) (fun K hK => ?_); go_simp; (try (simp only [↓IntWalk.iteOmega]; go_simp)); (first | (refine hK _ ?_; clear hK K) | (apply Exists.intro; refine ⟨fun _ => ?_, hK _ ?_⟩; (first | fail); clear hK K)))
          (refine mix_step (by kernel_rfl) (by kernel_rfl) (fun K hK => ?_); go_simp; (try (simp only [↓IntWalk.iteOmega]; go_simp)); (first | (refine hK _ ?_; clear hK K) | (apply Exists.intro; refine ⟨fun _ => ?_, hK _ ?_⟩; (first | fail); clear hK K)))
          (refine mix_step (by kernel_rfl) (by kernel_rfl) (fun K hK => ?_); go_simp; (try (simp only [↓IntWalk.iteOmega]; go_simp)); (first | (refine hK _ ?_; clear hK K) | (apply Exists.intro; refine ⟨fun _ => ?_, hK _ ?_⟩; (first | fail); clear hK K)))
          (refine mix_step (by kernel_rfl) (by kernel_rfl) (fun K hK => ?_); go_simp; (try (simp only [↓IntWalk.iteOmega]; go_simp)); (first | (refine hK _ ?_; clear hK K) | (apply Exists.intro; refine ⟨fun _ => ?_, hK _ ?_⟩; (first | fail); clear hK K)))
          (refine mix_step (by kernel_rfl) (by kernel_rfl) (fun K hK => ?_); go_simp; (try (simp only [↓IntWalk.iteOmega]; go_simp)); (first | (refine hK _ ?_; clear hK K) | (apply Exists.intro; refine ⟨fun _ => ?_, hK _ ?_⟩; (first | fail); clear hK K)))
          (refine mix_step (by kernel_rfl) (by kernel_rfl) (fun K hK => ?_); go_simp; (try (simp only [↓IntWalk.iteOmega]; go_simp)); (first | (refine hK _ ?_; clear hK K) | (apply Exists.intro; refine ⟨fun _ => ?_, hK _ ?_⟩; (first | fail); clear hK K)))
          (refine mix_step (by kernel_rfl) (by kernel_rfl) (fun K hK => ?_); go_simp; (try (simp only [↓IntWalk.iteOmega]; go_simp)); (first | (refine hK _ ?_; clear hK K) | (apply Exists.intro; refine ⟨fun _ => ?_, hK _ ?_⟩; (first | fail); clear hK K)))
          (refine mix_step (by kernel_rfl) (by kernel_rfl) (fun K hK => ?_); go_simp; (try (simp only [↓IntWalk.iteOmega]; go_simp)); (first | (refine hK _ ?_; clear hK K) | (apply Exists.intro; refine ⟨fun _ => ?_, hK _ ?_⟩; (first | fail); clear hK K)))
          (refine mix_step (by kernel_rfl) (by kernel_rfl) (fun K hK => ?_); go_simp; (try (simp only [↓IntWalk.iteOmega]; go_simp)); (first | (refine hK _ ?_; clear hK K) | (apply Exists.intro; refine ⟨fun _ => ?_, hK _ ?_⟩; (first | fail); clear hK K)))
          (refine mix_step (by kernel_rfl) (by kernel_rfl) (fun K hK => ?_); go_simp; (try (simp only [↓IntWalk.iteOmega]; go_simp)); (first | (refine hK _ ?_; clear hK K) | (apply Exists.intro; refine ⟨fun _ => ?_, hK _ ?_⟩; (first | fail); clear hK K)))
          (refine mix_step (by kernel_rfl) (by kernel_rfl) (fun K hK => ?_); go_simp; (try (simp only [↓IntWalk.iteOmega]; go_simp)); (first | (refine hK _ ?_; clear hK K) | (apply Exists.intro; refine ⟨fun _ => ?_, hK _ ?_⟩; (first | fail); clear hK K)))
          refine mix_nil ?_
          rintro ⟨dq, osq⟩
          have hb1 := below_regrown W dq osq
          refine (show wpList _ _ _ _ _ _ from ?_)
          simp only [List.drop, Act.put, List.setIfInBounds_toArray, List.set]
          go_wp2_with fail
          go_meet
          exact ⟨by rw [HNF.out], hb1⟩
  case rest =>
    obtain ⟨rfl, hbc⟩ := hcut
    clear C1 k0 RS
    have HA2 := Lib.hid (HA1.out.later hbc)
    have RI2 := Lib.hid (RI.out.kept hbc)
    have RX2 := Lib.hid (RX.out.kept hbc)
    have HO2 := Lib.hid (HOW.out.below hbc)
    have hbB2 := hbB.trans (hbc.mono (Nat.le_trans hB0 hbW.size))
    have hsz2 : w.heap.size + 1 < wc.heap.size := Nat.lt_of_lt_of_le hszW hbc.size
    clear HA1 RI RX HOW hbB hszW hbc hbW
    generalize wc = w2 at *
    cases hnf : s.notFor i x
    · have HNF2 := Lib.hid (s.has_of_for i x hnf)
      obtain ⟨k, rfl, hk⟩ := s.has_true i HNF2.out
      have hkp : k < pbs.length := by omega
      have hip := hkp
      rw [hnf] at HE
      have HE : Hid (s.take (k : Nat) x = if x.right = false then (s, []) else if decide (s.ma ≤ x.age) = true then (s, []) else
        if (s.port k).hears x = true then (s.takeF k x, s.tellsK (s.takeF k x) k) else (s, s.tells (fun j => decide ((j : Int) = (k : Nat))))) := HE.out
      clear HNF HNF2 hnf
      have k0 := cell_regrown (show w2.cell? ⟨w.heap.size, 0, none⟩ = some (.int .i64 (k : Int)) from RI2.out.cell 0)
      have q1 := cell_regrown (show w2.cell? ⟨S, 11, none⟩ = some (.slice (some ⟨g, 0, none⟩) s.ports.length cap) from HA2.out.row.cell 11)
      cases hr : x.right
      · have HPR := Lib.hid (print_bad x.r.f x.b.f x.c x.p x.age x.ma x.he x.de x.ch x.ak w2 hr)
        rw [hr] at HE
        have HE : Hid (s.take (k : Nat) x = (s, [])) := HE.out
        clear hr
        go_wp2_with ((with_reducible refine at_load 45 (.tmp 5) ?_); refine wpList_load_own rfl 45 (.tmp 5) rfl (w.heap.size + 1) rfl _ _ _ RX2.out Try.underlying45 rfl (by kernel_rfl) ?_)
        refine HPR.out.mono ?_
        rintro e w3 ⟨rfl, hb3⟩
        have HA3 := Lib.hid (HA2.out.later hb3)
        have HO3 := Lib.hid (HO2.out.below hb3)
        have hbB3 := hbB2.trans (hb3.mono (Nat.le_trans hB0 (by omega)))
        clear HA2 HO2 hbB2 hb3 HPR RX2 RI2 k0 q1
        go_wp2_with fail
        go_ret
        rw [HE.out]
        exact ⟨_, rfl, (by exact out_nil _ _), HA3.out, hbB3, HO3.out⟩
      · have HPR := Lib.hid (print_good x.r.f x.b.f x.c x.p x.age x.ma x.he x.de x.ch x.ak w2 hr)
        rw [hr] at HE
        have HE : Hid (s.take (k : Nat) x = if decide (s.ma ≤ x.age) = true then (s, []) else
          if (s.port k).hears x = true then (s.takeF k x, s.tellsK (s.takeF k x) k) else (s, s.tells (fun j => decide ((j : Int) = (k : Nat))))) := HE.out
        have hra := SW.right_age hr
        clear hr
        generalize Bpdu.text x.r.f x.b.f x.c x.p x.age x.ma x.he x.de x.ch x.ak = tx at *
        go_wp2_with ((with_reducible refine at_load 45 (.tmp 5) ?_); refine wpList_load_own rfl 45 (.tmp 5) rfl (w.heap.size + 1) rfl _ _ _ RX2.out Try.underlying45 rfl (by kernel_rfl) ?_)
        refine HPR.out.mono ?_
        rintro e w3 ⟨rfl, hb3⟩
        have HA3 := Lib.hid (HA2.out.later hb3)
        have RI3 := Lib.hid (RI2.out.kept hb3)
        have RX3 := Lib.hid (RX2.out.kept hb3)
        have HO3 := Lib.hid (HO2.out.below hb3)
        have hbB3 := hbB2.trans (hb3.mono (Nat.le_trans hB0 (by omega)))
        have hsz3 : w.heap.size + 1 < w3.heap.size := RX3.out.lt
        clear HA2 HO2 hbB2 hb3 HPR RX2 RI2 k0 q1 hsz2
        have k0 := cell_regrown (show w3.cell? ⟨w.heap.size, 0, none⟩ = some (.int .i64 (k : Int)) from RI3.out.cell 0)
        have q1 := cell_regrown (show w3.cell? ⟨S, 11, none⟩ = some (.slice (some ⟨g, 0, none⟩) s.ports.length cap) from HA3.out.row.cell 11)
        have q0 := cell_regrown (HA3.out.ptr hkp)
        have hx0 : (0 : Int) ≤ (k : Int) := by omega
        have hx1 : (k : Int) < (s.ports.length : Int) := by omega
        go_upto_region 6 with fail
        refine wp_region_mix 8 (by kernel_rfl) (by kernel_rfl) (by kernel_rfl) ?_
        (refine mix_step (by kernel_rfl) (by kernel_rfl) (fun K hK => ?_); go_simp; (try (simp only [↓IntWalk.iteOmega]; go_simp)); (first | (refine hK _ ?_; clear hK K) | (apply Exists.intro; refine ⟨fun _ => ?_, hK _ ?_⟩; (first | fail); clear hK K)))
        (refine mix_step (by kernel_rfl) (by kernel_rfl) (fun K hK => ?_); go_simp; (try (simp only [↓IntWalk.iteOmega]; go_simp)); (first | (refine hK _ ?_; clear hK K) | (apply Exists.intro; refine ⟨fun _ => ?_, hK _ ?_⟩; (first | fail); clear hK K)))
        (refine mix_step (by kernel_rfl) (by kernel_rfl) (fun K hK => ?_); go_simp; (try (simp only [↓IntWalk.iteOmega]; go_simp)); (first | (refine hK _ ?_; clear hK K) | (apply Exists.intro; refine ⟨fun _ => ?_, hK _ ?_⟩; (first | fail); clear hK K)))
        (refine mix_step (by kernel_rfl) (by kernel_rfl) (fun K hK => ?_); go_simp; (try (simp only [↓IntWalk.iteOmega]; go_simp)); (first | (refine hK _ ?_; clear hK K) | (apply Exists.intro; refine ⟨fun _ => ?_, hK _ ?_⟩; (first | fail); clear hK K)))
        (refine mix_step (by kernel_rfl) (by kernel_rfl) (fun K hK => ?_); go_simp; (try (simp only [↓IntWalk.iteOmega]; go_simp)); (first | (refine hK _ ?_; clear hK K) | (apply Exists.intro; refine ⟨fun _ => ?_, hK _ ?_⟩; (first | fail); clear hK K)))
        (refine mix_step (by kernel_rfl) (by kernel_rfl) (fun K hK => ?_); go_simp; (try (simp only [↓IntWalk.iteOmega]; go_simp)); (first | (refine hK _ ?_; clear hK K) | (apply Exists.intro; refine ⟨fun _ => ?_, hK _ ?_⟩; (first | fail); clear hK K)))
        (refine mix_step (by kernel_rfl) (by kernel_rfl) (fun K hK => ?_); go_simp; (try (simp only [↓IntWalk.iteOmega]; go_simp)); (first | (refine hK _ ?_; clear hK K) | (apply Exists.intro; refine ⟨fun _ => ?_, hK _ ?_⟩; (first | fail); clear hK K)))
        (refine mix_step (by kernel_rfl) (by kernel_rfl) (fun K hK => ?_); go_simp; (try (simp only [↓IntWalk.iteOmega]; go_simp)); (first | (refine hK _ ?_; clear hK K) | (apply Exists.intro; refine ⟨fun _ => ?_, hK _ ?_⟩; (first | fail); clear hK K)))
        refine mix_nil ?_
        rintro ⟨dq, osq⟩
        have hb4 := below_regrown w3 dq osq
        have HA4 := Lib.hid (HA3.out.later hb4)
        have RI4 := Lib.hid (RI3.out.kept hb4)
        have RX4 := Lib.hid (RX3.out.kept hb4)
        have HO4 := Lib.hid (HO3.out.below hb4)
        have hbB4 := hbB3.trans (hb4.mono (Nat.le_trans hB0 (by omega)))
        clear k0 q1 q0 HA3 RI3 RX3 HO3 hbB3 hb4
        generalize grow (redrawn w3 dq) osq = w4 at *
        refine (show wpList _ _ _ _ _ _ from ?_)
        simp only [List.drop, Act.put, List.setIfInBounds_toArray, List.set]
        have l20 := cell_regrown (show w4.cell? ⟨w.heap.size + 1, 18, none⟩ = some (.int .i64 x.age) from RX4.out.cell 18)
        have c8 := cell_regrown (show w4.cell? ⟨S, 8, none⟩ = some (.int .i64 s.ma) from HA4.out.row.cell 8)
        go_upto_region 8 with fail
        refine wp_region_mix 8 (by kernel_rfl) (by kernel_rfl) (by kernel_rfl) ?_
        (refine mix_step (by kernel_rfl) (by kernel_rfl) (fun K hK => ?_); go_simp; (try (simp only [↓IntWalk.iteOmega]; go_simp)); (first | (refine hK _ ?_; clear hK K) | (apply Exists.intro; refine ⟨fun _ => ?_, hK _ ?_⟩; (first | fail); clear hK K)))
        (refine mix_step (by kernel_rfl) (by kernel_rfl) (fun K hK => ?_); go_simp; (try (simp only [↓IntWalk.iteOmega]; go_simp)); (first | (refine hK _ ?_; clear hK K) | (apply Exists.intro; refine ⟨fun _ => ?_, hK _ ?_⟩; (first | fail); clear hK K)))
        (refine mix_step (by kernel_rfl) (by kernel_rfl) (fun K hK => ?_); go_simp; (try (simp only [↓IntWalk.iteOmega]; go_simp)); (first | (refine hK _ ?_; clear hK K) | (apply Exists.intro; refine ⟨fun _ => ?_, hK _ ?_⟩; (first | fail); clear hK K)))
        (refine mix_step (by kernel_rfl) (by kernel_rfl) (fun K hK => ?_); go_simp; (try (simp only [↓IntWalk.iteOmega]; go_simp)); (first | (refine hK _ ?_; clear hK K) | (apply Exists.intro; refine ⟨fun _ => ?_, hK _ ?_⟩; (first | fail); clear hK K)))
        (refine mix_step (by kernel_rfl) (by kernel_rfl) (fun K hK => ?_); go_simp; (try (simp only [↓IntWalk.iteOmega]; go_simp)); (first | (refine hK _ ?_; clear hK K) | (apply Exists.intro; refine ⟨fun _ => ?_, hK _ ?_⟩; (first | fail); clear hK K)))
        (refine mix_step (by kernel_rfl) (by kernel_rfl) (fun K hK => ?_); go_simp; (try (simp only [↓IntWalk.iteOmega]; go_simp)); (first | (refine hK _ ?_; clear hK K) | (apply Exists.intro; refine ⟨fun _ => ?_, hK _ ?_⟩; (first | fail); clear hK K)))
        (refine mix_step (by kernel_rfl) (by kernel_rfl) (fun K hK => ?_); go_simp; (try (simp only [↓IntWalk.iteOmega]; go_simp)); (first | (refine hK _ ?_; clear hK K) | (apply Exists.intro; refine ⟨fun _ => ?_, hK _ ?_⟩; (first | fail); clear hK K)))
        (refine mix_step (by kernel_rfl) (by kernel_rfl) (fun K hK => ?_); go_simp; (try (simp only [↓IntWalk.iteOmega]; go_simp)); (first | (refine hK _ ?_; clear hK K) | (apply Exists.intro; refine ⟨fun _ => ?_, hK _ ?_⟩; (first | fail); clear hK K)))
        refine mix_nil ?_
        rintro ⟨dq, osq⟩
        have hb5 := below_regrown w4 dq osq
        have HA5 := Lib.hid (HA4.out.later hb5)
        have RI5 := Lib.hid (RI4.out.kept hb5)
        have RX5 := Lib.hid (RX4.out.kept hb5)
        have HO5 := Lib.hid (HO4.out.below hb5)
        have hbB5 := hbB4.trans (hb5.mono (Nat.le_trans hB0 (Nat.le_of_lt (Nat.lt_of_le_of_lt (Nat.le_succ _) RX4.out.lt))))
        clear l20 c8 HA4 RI4 RX4 HO4 hbB4 hb5 hsz3
        generalize grow (redrawn w4 dq) osq = w5 at *
        have hsz5 : w.heap.size + 1 < w5.heap.size := RX5.out.lt
        refine (show wpList _ _ _ _ _ _ from ?_)
        simp only [List.drop, Act.put, List.setIfInBounds_toArray, List.set]
        cases hma : decide (s.ma ≤ x.age)
        · rw [hma] at HE
          have HE : Hid (s.take (k : Nat) x = if (s.port k).hears x = true then (s.takeF k x, s.tellsK (s.takeF k x) k) else (s, s.tells (fun j => decide ((j : Int) = (k : Nat))))) := HE.out
          have hxa : 0 ≤ x.age ∧ x.age ≤ 1000 := by
            have := of_decide_eq_false hma
            have := HOK.out.ma
            omega
          have HHR := Lib.hid (hears_any pbs[k] (s.port k) x w5 (HA5.out.ports k hkp).2)
          go_wp2_with ((with_reducible refine at_load 45 (.tmp 5) ?_); refine wpList_load_own rfl 45 (.tmp 5) rfl (w.heap.size + 1) rfl _ _ _ RX5.out Try.underlying45 rfl (by kernel_rfl) ?_)
          refine HHR.out.mono ?_
          rintro e w6 ⟨rfl, hb6⟩
          have HA6 := Lib.hid (HA5.out.later hb6)
          have RI6 := Lib.hid (RI5.out.kept hb6)
          have RX6 := Lib.hid (RX5.out.kept hb6)
          have HO6 := Lib.hid (HO5.out.below hb6)
          have hbB6 := hbB5.trans (hb6.mono (Nat.le_trans hB0 (by omega)))
          have hsz6 : w.heap.size + 1 < w6.heap.size := RX6.out.lt
          clear HHR HA5 RI5 RX5 HO5 hbB5 hb6 hsz5 hma
          cases hhe : (s.port k).hears x
          · rw [hhe] at HE
            have HE : Hid (s.take (k : Nat) x = (s, s.tells (fun j => decide ((j : Int) = (k : Int))))) := HE.out
            have HON := Lib.hid (on_only B S g cap pbs w6 s HA6.out hp HOK.out.root HOK.out.ages w.heap.size (k : Int) RI6.out)
            clear hhe
            go_wp2_with fail
            refine HON.out.mono ?_
            rintro e w7 ⟨v, rfl, hO7, hb7⟩
            have HO7 := Lib.hid hO7
            have HA7 := Lib.hid (HA6.out.later hb7)
            have HOO7 := Lib.hid (HO6.out.below hb7)
            have hbB7 := hbB6.trans (hb7.mono (Nat.le_trans hB0 (by omega)))
            have hszw : w.heap.size ≤ w6.heap.size := by omega
            clear HON HA6 HO6 hbB6 hO7 hb7
            go_wp2_with fail
            go_ret
            rw [HE.out]
            exact ⟨_, rfl, HO7.out.lower hszw, HA7.out, hbB7, HOO7.out⟩
          · rw [hhe] at HE
            have HE : Hid (s.take (k : Nat) x = (s.takeF k x, s.tellsK (s.takeF k x) k)) := HE.out
            have hbest : s.best = s.best := rfl
            clear hhe hbest
            have HOKT := Lib.hid (HOK.out.takeF k x hk hxa)
            have HTF : Hid (s.takeF k x = (s.put k ((s.port k).hear x)).found.1) := rfl
            have RN : RowIs (w6.alloc (.cells #[.int .u8 0, .int .u8 0, .int .u8 0, .int .u8 0, .int .u8 0, .int .u8 0, .int .u8 0, .int .u8 0, .int .i64 0, .int .u8 0, .int .u8 0, .int .u8 0, .int .u8 0, .int .u8 0, .int .u8 0, .int .u8 0, .int .u8 0, .int .i64 0] 38)) w6.heap.size 38 #[.int .u8 0, .int .u8 0, .int .u8 0, .int .u8 0, .int .u8 0, .int .u8 0, .int .u8 0, .int .u8 0, .int .i64 0, .int .u8 0, .int .u8 0, .int .u8 0, .int .u8 0, .int .u8 0, .int .u8 0, .int .u8 0, .int .u8 0, .int .i64 0] := rowIs_new w6 _ _
            have hbN : Below w6.heap.size w6 (w6.alloc (.cells #[.int .u8 0, .int .u8 0, .int .u8 0, .int .u8 0, .int .u8 0, .int .u8 0, .int .u8 0, .int .u8 0, .int .i64 0, .int .u8 0, .int .u8 0, .int .u8 0, .int .u8 0, .int .u8 0, .int .u8 0, .int .u8 0, .int .u8 0, .int .i64 0] 38)) := (Below.refl _ _).alloc (Nat.le_refl _) _
            go_wp2_with (first
              | ((with_reducible refine at_load 38 (.tmp 82) ?_); refine wpList_load_part rfl 38 (.tmp 82) rfl (S) 12 rfl 82 _ HA6.out.row [.int .u8 ((s.best.r.f 0).toNat : Int), .int .u8 ((s.best.r.f 1).toNat : Int), .int .u8 ((s.best.r.f 2).toNat : Int), .int .u8 ((s.best.r.f 3).toNat : Int), .int .u8 ((s.best.r.f 4).toNat : Int), .int .u8 ((s.best.r.f 5).toNat : Int), .int .u8 ((s.best.r.f 6).toNat : Int), .int .u8 ((s.best.r.f 7).toNat : Int), .int .i64 s.best.c, .int .u8 ((s.best.b.f 0).toNat : Int), .int .u8 ((s.best.b.f 1).toNat : Int), .int .u8 ((s.best.b.f 2).toNat : Int), .int .u8 ((s.best.b.f 3).toNat : Int), .int .u8 ((s.best.b.f 4).toNat : Int), .int .u8 ((s.best.b.f 5).toNat : Int), .int .u8 ((s.best.b.f 6).toNat : Int), .int .u8 ((s.best.b.f 7).toNat : Int), .int .i64 s.best.p] rfl _ Try.underlying38 rfl (by kernel_rfl) ?_)
              | ((with_reducible refine at_store 38 (.tmp 11) (.tmp 83) ?_); refine wpList_store_own rfl 38 (.tmp 11) (.tmp 83) rfl (w6.heap.size) _ rfl rfl _ _ RN (by kernel_rfl) rfl (by simp [Value.oneCell']) w6.heap.size (Nat.le_refl _) ?_))
            intro w7 hR7 ho7 hs7 hb7
            have RV7 := Lib.hid hR7
            have hb7 := hbN.trans hb7
            have HA7 := Lib.hid (HA6.out.later hb7)
            have RI7 := Lib.hid (RI6.out.kept hb7)
            have RX7 := Lib.hid (RX6.out.kept hb7)
            have HO7 := Lib.hid (HO6.out.below hb7)
            have hbB7 := hbB6.trans (hb7.mono (Nat.le_trans hB0 (by omega)))
            have hsz7 : w.heap.size + 1 < w7.heap.size := RX7.out.lt
            have hvb : w.heap.size + 1 < w6.heap.size := hsz6
            clear RN hbN hR7 ho7 hs7 hb7 HA6 RI6 RX6 HO6 hbB6 hsz6
            generalize w6.heap.size = vb at *
            go_upto_region 13 with fail
            have RP : Hid (RowIs w7 pbs[k] 85 (s.port k).cells) := (HA7.out.ports k hkp).2
            have hpl : pbs[k] < w.heap.size := HLT.out.2 _ (List.getElem_mem hkp)
            have HPK : Hid (pbs[k] ∈ pbs) := List.getElem_mem hkp
            generalize hpk : pbs[k] = pb at *
            have HPB := Lib.hid hpk
            have hxpb : w.heap.size + 1 ≠ pb := by omega
            clear hpk
            have RP := Lib.hid (show RowIs w7 pb 85 #[.int .i64 (s.port k).cost, .bool (s.port k).up, .bool (s.port k).heard, .int .u8 (((s.port k).w.r.f 0).toNat : Int), .int .u8 (((s.port k).w.r.f 1).toNat : Int), .int .u8 (((s.port k).w.r.f 2).toNat : Int), .int .u8 (((s.port k).w.r.f 3).toNat : Int), .int .u8 (((s.port k).w.r.f 4).toNat : Int), .int .u8 (((s.port k).w.r.f 5).toNat : Int), .int .u8 (((s.port k).w.r.f 6).toNat : Int), .int .u8 (((s.port k).w.r.f 7).toNat : Int), .int .u8 (((s.port k).w.b.f 0).toNat : Int), .int .u8 (((s.port k).w.b.f 1).toNat : Int), .int .u8 (((s.port k).w.b.f 2).toNat : Int), .int .u8 (((s.port k).w.b.f 3).toNat : Int), .int .u8 (((s.port k).w.b.f 4).toNat : Int), .int .u8 (((s.port k).w.b.f 5).toNat : Int), .int .u8 (((s.port k).w.b.f 6).toNat : Int), .int .u8 (((s.port k).w.b.f 7).toNat : Int), .int .i64 (s.port k).w.c, .int .i64 (s.port k).w.p, .int .i64 (s.port k).w.age, .int .i64 (s.port k).w.ma, .int .i64 (s.port k).w.he, .int .i64 (s.port k).w.de, .bool (s.port k).w.ch, .bool (s.port k).w.ak, .int .i64 (s.port k).role, .int .i64 (s.port k).state, .int .i64 (s.port k).since] from RP.out)
            refine wp_region_mixL (wle_ok pb [(2, .bool true), (3, (.int .u8 ((x.r.f 0).toNat : Int))), (4, (.int .u8 ((x.r.f 1).toNat : Int))), (5, (.int .u8 ((x.r.f 2).toNat : Int))), (6, (.int .u8 ((x.r.f 3).toNat : Int))), (7, (.int .u8 ((x.r.f 4).toNat : Int))), (8, (.int .u8 ((x.r.f 5).toNat : Int))), (9, (.int .u8 ((x.r.f 6).toNat : Int))), (10, (.int .u8 ((x.r.f 7).toNat : Int))), (11, (.int .u8 ((x.b.f 0).toNat : Int))), (12, (.int .u8 ((x.b.f 1).toNat : Int))), (13, (.int .u8 ((x.b.f 2).toNat : Int))), (14, (.int .u8 ((x.b.f 3).toNat : Int))), (15, (.int .u8 ((x.b.f 4).toNat : Int))), (16, (.int .u8 ((x.b.f 5).toNat : Int))), (17, (.int .u8 ((x.b.f 6).toNat : Int))), (18, (.int .u8 ((x.b.f 7).toNat : Int))), (19, (.int .i64 x.c)), (20, (.int .i64 x.p)), (21, (.int .i64 x.age)), (22, (.int .i64 x.ma)), (23, (.int .i64 x.he)), (24, (.int .i64 x.de)), (25, (.bool x.ch)), (26, (.bool x.ak))]) 9 (by kernel_rfl) (by kernel_rfl) (by kernel_rfl) ?_
            (refine mix_stepP (by kernel_rfl) (by kernel_rfl) (fun K hK => ?_); go_simp; (first | (refine hK _ ?_; clear hK K) | (apply Exists.intro; refine ⟨fun _ => ?_, hK _ ?_⟩; (first | fail); clear hK K)))
            (refine mix_stepP (by kernel_rfl) (by kernel_rfl) (fun K hK => ?_); go_simp; (first | (refine hK _ ?_; clear hK K) | (apply Exists.intro; refine ⟨fun _ => ?_, hK _ ?_⟩; (first | fail); clear hK K)))
            refine mix_exact (.agg #[.int .u8 ((x.r.f 0).toNat : Int), .int .u8 ((x.r.f 1).toNat : Int), .int .u8 ((x.r.f 2).toNat : Int), .int .u8 ((x.r.f 3).toNat : Int), .int .u8 ((x.r.f 4).toNat : Int), .int .u8 ((x.r.f 5).toNat : Int), .int .u8 ((x.r.f 6).toNat : Int), .int .u8 ((x.r.f 7).toNat : Int), .int .u8 ((x.b.f 0).toNat : Int), .int .u8 ((x.b.f 1).toNat : Int), .int .u8 ((x.b.f 2).toNat : Int), .int .u8 ((x.b.f 3).toNat : Int), .int .u8 ((x.b.f 4).toNat : Int), .int .u8 ((x.b.f 5).toNat : Int), .int .u8 ((x.b.f 6).toNat : Int), .int .u8 ((x.b.f 7).toNat : Int), .int .i64 x.c, .int .i64 x.p, .int .i64 x.age, .int .i64 x.ma, .int .i64 x.he, .int .i64 x.de, .bool x.ch, .bool x.ak]) rfl (exact_loadL (sub := [.int .u8 ((x.r.f 0).toNat : Int), .int .u8 ((x.r.f 1).toNat : Int), .int .u8 ((x.r.f 2).toNat : Int), .int .u8 ((x.r.f 3).toNat : Int), .int .u8 ((x.r.f 4).toNat : Int), .int .u8 ((x.r.f 5).toNat : Int), .int .u8 ((x.r.f 6).toNat : Int), .int .u8 ((x.r.f 7).toNat : Int), .int .u8 ((x.b.f 0).toNat : Int), .int .u8 ((x.b.f 1).toNat : Int), .int .u8 ((x.b.f 2).toNat : Int), .int .u8 ((x.b.f 3).toNat : Int), .int .u8 ((x.b.f 4).toNat : Int), .int .u8 ((x.b.f 5).toNat : Int), .int .u8 ((x.b.f 6).toNat : Int), .int .u8 ((x.b.f 7).toNat : Int), .int .i64 x.c, .int .i64 x.p, .int .i64 x.age, .int .i64 x.ma, .int .i64 x.he, .int .i64 x.de, .bool x.ch, .bool x.ak]) rfl rfl (by simp) RX7.out rfl (.inl hxpb) Try.underlying45 rfl (by kernel_rfl)) ?_
            (refine mix_stepP (by kernel_rfl) (by kernel_rfl) (fun K hK => ?_); go_simp; (first | (refine hK _ ?_; clear hK K) | (apply Exists.intro; refine ⟨fun _ => ?_, hK _ ?_⟩; (first | fail); clear hK K)))
            (refine mix_stepP (by kernel_rfl) (by kernel_rfl) (fun K hK => ?_); go_simp; (first | (refine hK _ ?_; clear hK K) | (apply Exists.intro; refine ⟨fun _ => ?_, hK _ ?_⟩; (first | fail); clear hK K)))
            refine mix_store (StoredAt pb 85 2 (.bool true)) rfl rfl (stable_stored _ (by simp)) (owes_store rfl rfl rfl (by simp) (by simp) RP.out (by simp) (by kernel_rfl) rfl (by simp)) ?_
            (refine mix_stepP (by kernel_rfl) (by kernel_rfl) (fun K hK => ?_); go_simp; (first | (refine hK _ ?_; clear hK K) | (apply Exists.intro; refine ⟨fun _ => ?_, hK _ ?_⟩; (first | fail); clear hK K)))
            (refine mix_stepP (by kernel_rfl) (by kernel_rfl) (fun K hK => ?_); go_simp; (first | (refine hK _ ?_; clear hK K) | (apply Exists.intro; refine ⟨fun _ => ?_, hK _ ?_⟩; (first | fail); clear hK K)))
            refine mix_store (PartAt pb 85 3 #[.int .u8 ((x.r.f 0).toNat : Int), .int .u8 ((x.r.f 1).toNat : Int), .int .u8 ((x.r.f 2).toNat : Int), .int .u8 ((x.r.f 3).toNat : Int), .int .u8 ((x.r.f 4).toNat : Int), .int .u8 ((x.r.f 5).toNat : Int), .int .u8 ((x.r.f 6).toNat : Int), .int .u8 ((x.r.f 7).toNat : Int), .int .u8 ((x.b.f 0).toNat : Int), .int .u8 ((x.b.f 1).toNat : Int), .int .u8 ((x.b.f 2).toNat : Int), .int .u8 ((x.b.f 3).toNat : Int), .int .u8 ((x.b.f 4).toNat : Int), .int .u8 ((x.b.f 5).toNat : Int), .int .u8 ((x.b.f 6).toNat : Int), .int .u8 ((x.b.f 7).toNat : Int), .int .i64 x.c, .int .i64 x.p, .int .i64 x.age, .int .i64 x.ma, .int .i64 x.he, .int .i64 x.de, .bool x.ch, .bool x.ak]) rfl rfl (stable_partAt _ (by
                intro j v u hj hu
                have hjl := (Array.getElem?_eq_some_iff.1 hj).1
                simp only [List.mem_cons, List.not_mem_nil, or_false, Prod.mk.injEq] at hu
                rcases hu with ⟨e, rfl⟩ | ⟨e, rfl⟩ | ⟨e, rfl⟩ | ⟨e, rfl⟩ | ⟨e, rfl⟩ | ⟨e, rfl⟩ | ⟨e, rfl⟩ | ⟨e, rfl⟩ | ⟨e, rfl⟩ | ⟨e, rfl⟩ | ⟨e, rfl⟩ | ⟨e, rfl⟩ | ⟨e, rfl⟩ | ⟨e, rfl⟩ | ⟨e, rfl⟩ | ⟨e, rfl⟩ | ⟨e, rfl⟩ | ⟨e, rfl⟩ | ⟨e, rfl⟩ | ⟨e, rfl⟩ | ⟨e, rfl⟩ | ⟨e, rfl⟩ | ⟨e, rfl⟩ | ⟨e, rfl⟩ | ⟨e, rfl⟩
                · omega
                · obtain rfl : j = 0 := by omega
                  cases hj
                  rfl
                · obtain rfl : j = 1 := by omega
                  cases hj
                  rfl
                · obtain rfl : j = 2 := by omega
                  cases hj
                  rfl
                · obtain rfl : j = 3 := by omega
                  cases hj
                  rfl
                · obtain rfl : j = 4 := by omega
                  cases hj
                  rfl
                · obtain rfl : j = 5 := by omega
                  cases hj
                  rfl
                · obtain rfl : j = 6 := by omega
                  cases hj
                  rfl
                · obtain rfl : j = 7 := by omega
                  cases hj
                  rfl
                · obtain rfl : j = 8 := by omega
                  cases hj
                  rfl
                · obtain rfl : j = 9 := by omega
                  cases hj
                  rfl
                · obtain rfl : j = 10 := by omega
                  cases hj
                  rfl
                · obtain rfl : j = 11 := by omega
                  cases hj
                  rfl
                · obtain rfl : j = 12 := by omega
                  cases hj
                  rfl
                · obtain rfl : j = 13 := by omega
                  cases hj
                  rfl
                · obtain rfl : j = 14 := by omega
                  cases hj
                  rfl
                · obtain rfl : j = 15 := by omega
                  cases hj
                  rfl
                · obtain rfl : j = 16 := by omega
                  cases hj
                  rfl
                · obtain rfl : j = 17 := by omega
                  cases hj
                  rfl
                · obtain rfl : j = 18 := by omega
                  cases hj
                  rfl
                · obtain rfl : j = 19 := by omega
                  cases hj
                  rfl
                · obtain rfl : j = 20 := by omega
                  cases hj
                  rfl
                · obtain rfl : j = 21 := by omega
                  cases hj
                  rfl
                · obtain rfl : j = 22 := by omega
                  cases hj
                  rfl
                · obtain rfl : j = 23 := by omega
                  cases hj
                  rfl)) (owes_store_part rfl rfl rfl (by simp) (by simp) RP.out (by simp) (by kernel_rfl) (by simp [Value.oneCell']) (by
                intro j v hj
                have hjl : j < 24 := (Array.getElem?_eq_some_iff.1 hj).1
                rcases (show j = 0 ∨ j = 1 ∨ j = 2 ∨ j = 3 ∨ j = 4 ∨ j = 5 ∨ j = 6 ∨ j = 7 ∨ j = 8 ∨ j = 9 ∨ j = 10 ∨ j = 11 ∨ j = 12 ∨ j = 13 ∨ j = 14 ∨ j = 15 ∨ j = 16 ∨ j = 17 ∨ j = 18 ∨ j = 19 ∨ j = 20 ∨ j = 21 ∨ j = 22 ∨ j = 23 from by omega) with rfl | rfl | rfl | rfl | rfl | rfl | rfl | rfl | rfl | rfl | rfl | rfl | rfl | rfl | rfl | rfl | rfl | rfl | rfl | rfl | rfl | rfl | rfl | rfl <;> (cases hj; simp))) ?_
            refine mix_nilL fun w8 hle hF => ?_
            have r8 := row_stored RP.out hle (by simp) (by simp) (fun p hp => by
                simp only [List.nil_append, List.cons_append, List.mem_cons, List.not_mem_nil, or_false, forall_eq_or_imp, forall_eq] at hF
                obtain ⟨f2, f3⟩ := hF
                simp only [List.mem_cons, List.not_mem_nil, or_false] at hp
                rcases hp with rfl | rfl | rfl | rfl | rfl | rfl | rfl | rfl | rfl | rfl | rfl | rfl | rfl | rfl | rfl | rfl | rfl | rfl | rfl | rfl | rfl | rfl | rfl | rfl | rfl
                · exact f2
                · exact part_stored (j := 0) f3 rfl
                · exact part_stored (j := 1) f3 rfl
                · exact part_stored (j := 2) f3 rfl
                · exact part_stored (j := 3) f3 rfl
                · exact part_stored (j := 4) f3 rfl
                · exact part_stored (j := 5) f3 rfl
                · exact part_stored (j := 6) f3 rfl
                · exact part_stored (j := 7) f3 rfl
                · exact part_stored (j := 8) f3 rfl
                · exact part_stored (j := 9) f3 rfl
                · exact part_stored (j := 10) f3 rfl
                · exact part_stored (j := 11) f3 rfl
                · exact part_stored (j := 12) f3 rfl
                · exact part_stored (j := 13) f3 rfl
                · exact part_stored (j := 14) f3 rfl
                · exact part_stored (j := 15) f3 rfl
                · exact part_stored (j := 16) f3 rfl
                · exact part_stored (j := 17) f3 rfl
                · exact part_stored (j := 18) f3 rfl
                · exact part_stored (j := 19) f3 rfl
                · exact part_stored (j := 20) f3 rfl
                · exact part_stored (j := 21) f3 rfl
                · exact part_stored (j := 22) f3 rfl
                · exact part_stored (j := 23) f3 rfl)
            simp only [List.foldl, List.setIfInBounds_toArray, List.set] at r8
            have ho8 : ∀ j, j < w7.heap.size → j ≠ pb → w8.heap[j]? = w7.heap[j]? := fun j hj hne => hle.1.block j hj (fun e => hne (Option.some.inj e))
            have hs8 := hle.1.size
            have hb8 := below_of_wle (B := B) hle (Nat.le_trans hB0 (by omega)) (by rw [← HPB.out]; exact (HA7.out.ports k hkp).1)
            have HA8 : Hid (SpAt B S g cap pbs w8 (s.put k ((s.port k).hear x))) := by
              refine HA7.out.portSetL hkp (p := (s.port k).hear x) ?_ ?_
              · rw [HPB.out]
                exact r8
              · rw [HPB.out]
                exact ho8
            have RV8 : Hid (RowIs w8 vb 38 #[.int .u8 ((s.best.r.f 0).toNat : Int), .int .u8 ((s.best.r.f 1).toNat : Int), .int .u8 ((s.best.r.f 2).toNat : Int), .int .u8 ((s.best.r.f 3).toNat : Int), .int .u8 ((s.best.r.f 4).toNat : Int), .int .u8 ((s.best.r.f 5).toNat : Int), .int .u8 ((s.best.r.f 6).toNat : Int), .int .u8 ((s.best.r.f 7).toNat : Int), .int .i64 s.best.c, .int .u8 ((s.best.b.f 0).toNat : Int), .int .u8 ((s.best.b.f 1).toNat : Int), .int .u8 ((s.best.b.f 2).toNat : Int), .int .u8 ((s.best.b.f 3).toNat : Int), .int .u8 ((s.best.b.f 4).toNat : Int), .int .u8 ((s.best.b.f 5).toNat : Int), .int .u8 ((s.best.b.f 6).toNat : Int), .int .u8 ((s.best.b.f 7).toNat : Int), .int .i64 s.best.p]) := below_regrown_wle hle RV7.out (by omega)
            have RI8 : Hid (RowIs w8 w.heap.size 3 #[.int .i64 (k : Int)]) := below_regrown_wle hle RI7.out (by omega)
            have HO8 : Hid (Only (S :: pbs) w w8) := ⟨Nat.le_trans HO7.out.1 hs8, fun j hj hn => (ho8 j (Nat.lt_of_lt_of_le hj HO7.out.1) (fun e => hn (by rw [e]; exact List.mem_cons_of_mem _ HPK.out))).trans (HO7.out.2 j hj hn)⟩
            have hbB8 := hbB7.trans hb8
            clear r8 hle hF ho8 HA7 RV7 RI7 RX7 HO7 hbB7 RP hb8 HPK hxpb
            refine (show wpList _ _ _ _ _ _ from ?_)
            simp only [List.drop, Act.put, List.setIfInBounds_toArray, List.set]
            have HFO := Lib.hid (found_any B S g cap pbs w8 _ HA8.out hp (by have := HOKT.out.1.chg; omega))
            go_wp2_with fail
            refine HFO.out.mono ?_
            rintro e w9 ⟨rfl, hA9, hb9, ho9⟩
            have HA9 : Hid (SpAt B S g cap pbs w9 (s.takeF k x)) := hA9
            have HOKF : Hid ((s.takeF k x).Ok (n + 100)) := HOKT.out.2
            have RV9 := Lib.hid (show RowIs w9 vb 38 #[.int .u8 ((s.best.r.f 0).toNat : Int), .int .u8 ((s.best.r.f 1).toNat : Int), .int .u8 ((s.best.r.f 2).toNat : Int), .int .u8 ((s.best.r.f 3).toNat : Int), .int .u8 ((s.best.r.f 4).toNat : Int), .int .u8 ((s.best.r.f 5).toNat : Int), .int .u8 ((s.best.r.f 6).toNat : Int), .int .u8 ((s.best.r.f 7).toNat : Int), .int .i64 s.best.c, .int .u8 ((s.best.b.f 0).toNat : Int), .int .u8 ((s.best.b.f 1).toNat : Int), .int .u8 ((s.best.b.f 2).toNat : Int), .int .u8 ((s.best.b.f 3).toNat : Int), .int .u8 ((s.best.b.f 4).toNat : Int), .int .u8 ((s.best.b.f 5).toNat : Int), .int .u8 ((s.best.b.f 6).toNat : Int), .int .u8 ((s.best.b.f 7).toNat : Int), .int .i64 s.best.p] from rowIs_same RV8.out (ho9.2 _ RV8.out.lt (HLT2.out vb (by omega))))
            have RI9 := Lib.hid (show RowIs w9 w.heap.size 3 #[.int .i64 (k : Int)] from rowIs_same RI8.out (ho9.2 _ RI8.out.lt (HLT2.out _ (Nat.le_refl _))))
            have HO9 := Lib.hid (HO8.out.trans ho9)
            have hbB9 := hbB8.trans hb9
            have hlenF : (s.takeF k x).ports.length = s.ports.length := by
              have := HA9.out.len
              omega
            clear hA9 hb9 ho9 HFO HA8 RV8 RI8 HO8 hbB8 HOKT HTF
            have HTK : Hid (s.tellsK (s.takeF k x) k = if ((k : Int) == (s.takeF k x).root || !decide (s.best = (s.takeF k x).best)) = true then (s.takeF k x).tells (fun _ => true) else if (((s.takeF k x).port k).role == 2) = true then (s.takeF k x).tells (fun j => decide ((j : Int) = (k : Int))) else []) := rfl
            generalize s.tellsK (s.takeF k x) k = tk at *
            generalize s.takeF k x = f at *
            have hflen : f.ports.length ≤ 100 := HOKF.out.len
            clear hlenF
            have RF9 : Hid (RowIs w9 S 82 #[.int .u8 ((f.id.f 0).toNat : Int), .int .u8 ((f.id.f 1).toNat : Int), .int .u8 ((f.id.f 2).toNat : Int), .int .u8 ((f.id.f 3).toNat : Int), .int .u8 ((f.id.f 4).toNat : Int), .int .u8 ((f.id.f 5).toNat : Int), .int .u8 ((f.id.f 6).toNat : Int), .int .u8 ((f.id.f 7).toNat : Int), .int .i64 f.ma, .int .i64 f.he, .int .i64 f.de, .slice (some ⟨g, 0, none⟩) f.ports.length cap, .int .u8 ((f.best.r.f 0).toNat : Int), .int .u8 ((f.best.r.f 1).toNat : Int), .int .u8 ((f.best.r.f 2).toNat : Int), .int .u8 ((f.best.r.f 3).toNat : Int), .int .u8 ((f.best.r.f 4).toNat : Int), .int .u8 ((f.best.r.f 5).toNat : Int), .int .u8 ((f.best.r.f 6).toNat : Int), .int .u8 ((f.best.r.f 7).toNat : Int), .int .i64 f.best.c, .int .u8 ((f.best.b.f 0).toNat : Int), .int .u8 ((f.best.b.f 1).toNat : Int), .int .u8 ((f.best.b.f 2).toNat : Int), .int .u8 ((f.best.b.f 3).toNat : Int), .int .u8 ((f.best.b.f 4).toNat : Int), .int .u8 ((f.best.b.f 5).toNat : Int), .int .u8 ((f.best.b.f 6).toNat : Int), .int .u8 ((f.best.b.f 7).toNat : Int), .int .i64 f.best.p, .int .i64 f.root, .int .i64 f.now, .int .i64 f.chg]) := HA9.out.row
            have k0 := cell_regrown (show w9.cell? ⟨w.heap.size, 0, none⟩ = some (.int .i64 (k : Int)) from RI9.out.cell 0)
            have k30 := cell_regrown (show w9.cell? ⟨S, 30, none⟩ = some (.int .i64 f.root) from RF9.out.cell 30)
            go_upto_region 15 with fail
            go_cut [93] (fun v wx => v = .bool ((k : Int) == f.root || !decide (s.best = f.best)) ∧ Below w9.heap.size w9 wx)
            case first =>
              have m1 : ∀ w, (Op.equalIn 10000 38 (.agg #[.int .u8 ((s.best.r.f 0).toNat : Int), .int .u8 ((s.best.r.f 1).toNat : Int), .int .u8 ((s.best.r.f 2).toNat : Int), .int .u8 ((s.best.r.f 3).toNat : Int), .int .u8 ((s.best.r.f 4).toNat : Int), .int .u8 ((s.best.r.f 5).toNat : Int), .int .u8 ((s.best.r.f 6).toNat : Int), .int .u8 ((s.best.r.f 7).toNat : Int), .int .i64 s.best.c, .int .u8 ((s.best.b.f 0).toNat : Int), .int .u8 ((s.best.b.f 1).toNat : Int), .int .u8 ((s.best.b.f 2).toNat : Int), .int .u8 ((s.best.b.f 3).toNat : Int), .int .u8 ((s.best.b.f 4).toNat : Int), .int .u8 ((s.best.b.f 5).toNat : Int), .int .u8 ((s.best.b.f 6).toNat : Int), .int .u8 ((s.best.b.f 7).toNat : Int), .int .i64 s.best.p]) (.agg #[.int .u8 ((f.best.r.f 0).toNat : Int), .int .u8 ((f.best.r.f 1).toNat : Int), .int .u8 ((f.best.r.f 2).toNat : Int), .int .u8 ((f.best.r.f 3).toNat : Int), .int .u8 ((f.best.r.f 4).toNat : Int), .int .u8 ((f.best.r.f 5).toNat : Int), .int .u8 ((f.best.r.f 6).toNat : Int), .int .u8 ((f.best.r.f 7).toNat : Int), .int .i64 f.best.c, .int .u8 ((f.best.b.f 0).toNat : Int), .int .u8 ((f.best.b.f 1).toNat : Int), .int .u8 ((f.best.b.f 2).toNat : Int), .int .u8 ((f.best.b.f 3).toNat : Int), .int .u8 ((f.best.b.f 4).toNat : Int), .int .u8 ((f.best.b.f 5).toNat : Int), .int .u8 ((f.best.b.f 6).toNat : Int), .int .u8 ((f.best.b.f 7).toNat : Int), .int .i64 f.best.p])).run Try.prog w = .ok (decide (s.best = f.best)) w := run_equalIn_sv 9997 s.best f.best
              generalize decide (s.best = f.best) = db at *
              cases hkr : ((k : Int) == f.root)
              · cases db
                · refine wp_region_mix 15 (by kernel_rfl) (by kernel_rfl) (by kernel_rfl) ?_
                  (refine mix_step (by kernel_rfl) (by kernel_rfl) (fun K hK => ?_); go_simp; (try (simp only [↓IntWalk.iteOmega]; go_simp)); (first | (refine hK _ ?_; clear hK K) | (apply Exists.intro; refine ⟨fun _ => ?_, hK _ ?_⟩; (first | fail); clear hK K)))
                  (refine mix_step (by kernel_rfl) (by kernel_rfl) (fun K hK => ?_); go_simp; (try (simp only [↓IntWalk.iteOmega]; go_simp)); (first | (refine hK _ ?_; clear hK K) | (apply Exists.intro; refine ⟨fun _ => ?_, hK _ ?_⟩; (first | fail); clear hK K)))
                  (refine mix_step (by kernel_rfl) (by kernel_rfl) (fun K hK => ?_); go_simp; (try (simp only [↓IntWalk.iteOmega]; go_simp)); (first | (refine hK _ ?_; clear hK K) | (apply Exists.intro; refine ⟨fun _ => ?_, hK _ ?_⟩; (first | fail); clear hK K)))
                  (refine mix_step (by kernel_rfl) (by kernel_rfl) (fun K hK => ?_); go_simp; (try (simp only [↓IntWalk.iteOmega]; go_simp)); (first | (refine hK _ ?_; clear hK K) | (apply Exists.intro; refine ⟨fun _ => ?_, hK _ ?_⟩; (first | fail); clear hK K)))
                  (refine mix_step (by kernel_rfl) (by kernel_rfl) (fun K hK => ?_); go_simp; (try (simp only [↓IntWalk.iteOmega]; go_simp)); (first | (refine hK _ ?_; clear hK K) | (apply Exists.intro; refine ⟨fun _ => ?_, hK _ ?_⟩; (first | fail); clear hK K)))
                  (refine mix_step (by kernel_rfl) (by kernel_rfl) (fun K hK => ?_); go_simp; (try (simp only [↓IntWalk.iteOmega]; go_simp)); (first | (refine hK _ ?_; clear hK K) | (apply Exists.intro; refine ⟨fun _ => ?_, hK _ ?_⟩; (first | fail); clear hK K)))
                  (refine mix_step (by kernel_rfl) (by kernel_rfl) (fun K hK => ?_); go_simp; (try (simp only [↓IntWalk.iteOmega]; go_simp)); (first | (refine hK _ ?_; clear hK K) | (apply Exists.intro; refine ⟨fun _ => ?_, hK _ ?_⟩; (first | fail); clear hK K)))
                  refine mix_exact (.agg #[.int .u8 ((s.best.r.f 0).toNat : Int), .int .u8 ((s.best.r.f 1).toNat : Int), .int .u8 ((s.best.r.f 2).toNat : Int), .int .u8 ((s.best.r.f 3).toNat : Int), .int .u8 ((s.best.r.f 4).toNat : Int), .int .u8 ((s.best.r.f 5).toNat : Int), .int .u8 ((s.best.r.f 6).toNat : Int), .int .u8 ((s.best.r.f 7).toNat : Int), .int .i64 s.best.c, .int .u8 ((s.best.b.f 0).toNat : Int), .int .u8 ((s.best.b.f 1).toNat : Int), .int .u8 ((s.best.b.f 2).toNat : Int), .int .u8 ((s.best.b.f 3).toNat : Int), .int .u8 ((s.best.b.f 4).toNat : Int), .int .u8 ((s.best.b.f 5).toNat : Int), .int .u8 ((s.best.b.f 6).toNat : Int), .int .u8 ((s.best.b.f 7).toNat : Int), .int .i64 s.best.p]) rfl (exact_load_row rfl rfl (by simp) RV9.out Try.underlying38 rfl (by kernel_rfl)) ?_
                  (refine mix_step (by kernel_rfl) (by kernel_rfl) (fun K hK => ?_); go_simp; (try (simp only [↓IntWalk.iteOmega]; go_simp)); (first | (refine hK _ ?_; clear hK K) | (apply Exists.intro; refine ⟨fun _ => ?_, hK _ ?_⟩; (first | fail); clear hK K)))
                  (refine mix_step (by kernel_rfl) (by kernel_rfl) (fun K hK => ?_); go_simp; (try (simp only [↓IntWalk.iteOmega]; go_simp)); (first | (refine hK _ ?_; clear hK K) | (apply Exists.intro; refine ⟨fun _ => ?_, hK _ ?_⟩; (first | fail); clear hK K)))
                  (refine mix_step (by kernel_rfl) (by kernel_rfl) (fun K hK => ?_); go_simp; (try (simp only [↓IntWalk.iteOmega]; go_simp)); (first | (refine hK _ ?_; clear hK K) | (apply Exists.intro; refine ⟨fun _ => ?_, hK _ ?_⟩; (first | fail); clear hK K)))
                  refine mix_exact (.agg #[.int .u8 ((f.best.r.f 0).toNat : Int), .int .u8 ((f.best.r.f 1).toNat : Int), .int .u8 ((f.best.r.f 2).toNat : Int), .int .u8 ((f.best.r.f 3).toNat : Int), .int .u8 ((f.best.r.f 4).toNat : Int), .int .u8 ((f.best.r.f 5).toNat : Int), .int .u8 ((f.best.r.f 6).toNat : Int), .int .u8 ((f.best.r.f 7).toNat : Int), .int .i64 f.best.c, .int .u8 ((f.best.b.f 0).toNat : Int), .int .u8 ((f.best.b.f 1).toNat : Int), .int .u8 ((f.best.b.f 2).toNat : Int), .int .u8 ((f.best.b.f 3).toNat : Int), .int .u8 ((f.best.b.f 4).toNat : Int), .int .u8 ((f.best.b.f 5).toNat : Int), .int .u8 ((f.best.b.f 6).toNat : Int), .int .u8 ((f.best.b.f 7).toNat : Int), .int .i64 f.best.p]) rfl (exact_load_mid (sub := [.int .u8 ((f.best.r.f 0).toNat : Int), .int .u8 ((f.best.r.f 1).toNat : Int), .int .u8 ((f.best.r.f 2).toNat : Int), .int .u8 ((f.best.r.f 3).toNat : Int), .int .u8 ((f.best.r.f 4).toNat : Int), .int .u8 ((f.best.r.f 5).toNat : Int), .int .u8 ((f.best.r.f 6).toNat : Int), .int .u8 ((f.best.r.f 7).toNat : Int), .int .i64 f.best.c, .int .u8 ((f.best.b.f 0).toNat : Int), .int .u8 ((f.best.b.f 1).toNat : Int), .int .u8 ((f.best.b.f 2).toNat : Int), .int .u8 ((f.best.b.f 3).toNat : Int), .int .u8 ((f.best.b.f 4).toNat : Int), .int .u8 ((f.best.b.f 5).toNat : Int), .int .u8 ((f.best.b.f 6).toNat : Int), .int .u8 ((f.best.b.f 7).toNat : Int), .int .i64 f.best.p]) rfl rfl (by simp) RF9.out rfl Try.underlying38 rfl (by kernel_rfl)) ?_
                  (refine mix_step (by kernel_rfl) (by kernel_rfl) (fun K hK => ?_); go_simp; (try (simp only [↓IntWalk.iteOmega]; go_simp)); (first | (refine hK _ ?_; clear hK K) | (apply Exists.intro; refine ⟨fun _ => ?_, hK _ ?_⟩; (first | fail); clear hK K)))
                  (refine mix_step (by kernel_rfl) (by kernel_rfl) (fun K hK => ?_); go_simp; (try (simp only [↓IntWalk.iteOmega]; go_simp)); (first | (refine hK _ ?_; clear hK K) | (apply Exists.intro; refine ⟨fun _ => ?_, hK _ ?_⟩; (first | fail); clear hK K)))
                  (refine mix_step (by kernel_rfl) (by kernel_rfl) (fun K hK => ?_); go_simp; (try (simp only [↓IntWalk.iteOmega]; go_simp)); (first | (refine hK _ ?_; clear hK K) | (apply Exists.intro; refine ⟨fun _ => ?_, hK _ ?_⟩; (first | fail); clear hK K)))
                  refine mix_nil ?_
                  rintro ⟨dq, osq⟩
                  have hb10 := below_regrown w9 dq osq
                  refine (show wpList _ _ _ _ _ _ from ?_)
                  simp only [List.drop, Act.put, List.setIfInBounds_toArray, List.set]
                  go_wp2_with fail
                  go_meet
                  exact ⟨by rw [hkr]; rfl, hb10⟩
                · refine wp_region_mix 15 (by kernel_rfl) (by kernel_rfl) (by kernel_rfl) ?_
                  (refine mix_step (by kernel_rfl) (by kernel_rfl) (fun K hK => ?_); go_simp; (try (simp only [↓IntWalk.iteOmega]; go_simp)); (first | (refine hK _ ?_; clear hK K) | (apply Exists.intro; refine ⟨fun _ => ?_, hK _ ?_⟩; (first | fail); clear hK K)))
                  (refine mix_step (by kernel_rfl) (by kernel_rfl) (fun K hK => ?_); go_simp; (try (simp only [↓IntWalk.iteOmega]; go_simp)); (first | (refine hK _ ?_; clear hK K) | (apply Exists.intro; refine ⟨fun _ => ?_, hK _ ?_⟩; (first | fail); clear hK K)))
                  (refine mix_step (by kernel_rfl) (by kernel_rfl) (fun K hK => ?_); go_simp; (try (simp only [↓IntWalk.iteOmega]; go_simp)); (first | (refine hK _ ?_; clear hK K) | (apply Exists.intro; refine ⟨fun _ => ?_, hK _ ?_⟩; (first | fail); clear hK K)))
                  (refine mix_step (by kernel_rfl) (by kernel_rfl) (fun K hK => ?_); go_simp; (try (simp only [↓IntWalk.iteOmega]; go_simp)); (first | (refine hK _ ?_; clear hK K) | (apply Exists.intro; refine ⟨fun _ => ?_, hK _ ?_⟩; (first | fail); clear hK K)))
                  (refine mix_step (by kernel_rfl) (by kernel_rfl) (fun K hK => ?_); go_simp; (try (simp only [↓IntWalk.iteOmega]; go_simp)); (first | (refine hK _ ?_; clear hK K) | (apply Exists.intro; refine ⟨fun _ => ?_, hK _ ?_⟩; (first | fail); clear hK K)))
                  (refine mix_step (by kernel_rfl) (by kernel_rfl) (fun K hK => ?_); go_simp; (try (simp only [↓IntWalk.iteOmega]; go_simp)); (first | (refine hK _ ?_; clear hK K) | (apply Exists.intro; refine ⟨fun _ => ?_, hK _ ?_⟩; (first | fail); clear hK K)))
                  (refine mix_step (by kernel_rfl) (by kernel_rfl) (fun K hK => ?_); go_simp; (try (simp only [↓IntWalk.iteOmega]; go_simp)); (first | (refine hK _ ?_; clear hK K) | (apply Exists.intro; refine ⟨fun _ => ?_, hK _ ?_⟩; (first | fail); clear hK K)))
                  refine mix_exact (.agg #[.int .u8 ((s.best.r.f 0).toNat : Int), .int .u8 ((s.best.r.f 1).toNat : Int), .int .u8 ((s.best.r.f 2).toNat : Int), .int .u8 ((s.best.r.f 3).toNat : Int), .int .u8 ((s.best.r.f 4).toNat : Int), .int .u8 ((s.best.r.f 5).toNat : Int), .int .u8 ((s.best.r.f 6).toNat : Int), .int .u8 ((s.best.r.f 7).toNat : Int), .int .i64 s.best.c, .int .u8 ((s.best.b.f 0).toNat : Int), .int .u8 ((s.best.b.f 1).toNat : Int), .int .u8 ((s.best.b.f 2).toNat : Int), .int .u8 ((s.best.b.f 3).toNat : Int), .int .u8 ((s.best.b.f 4).toNat : Int), .int .u8 ((s.best.b.f 5).toNat : Int), .int .u8 ((s.best.b.f 6).toNat : Int), .int .u8 ((s.best.b.f 7).toNat : Int), .int .i64 s.best.p]) rfl (exact_load_row rfl rfl (by simp) RV9.out Try.underlying38 rfl (by kernel_rfl)) ?_
                  (refine mix_step (by kernel_rfl) (by kernel_rfl) (fun K hK => ?_); go_simp; (try (simp only [↓IntWalk.iteOmega]; go_simp)); (first | (refine hK _ ?_; clear hK K) | (apply Exists.intro; refine ⟨fun _ => ?_, hK _ ?_⟩; (first | fail); clear hK K)))
                  (refine mix_step (by kernel_rfl) (by kernel_rfl) (fun K hK => ?_); go_simp; (try (simp only [↓IntWalk.iteOmega]; go_simp)); (first | (refine hK _ ?_; clear hK K) | (apply Exists.intro; refine ⟨fun _ => ?_, hK _ ?_⟩; (first | fail); clear hK K)))
                  (refine mix_step (by kernel_rfl) (by kernel_rfl) (fun K hK => ?_); go_simp; (try (simp only [↓IntWalk.iteOmega]; go_simp)); (first | (refine hK _ ?_; clear hK K) | (apply Exists.intro; refine ⟨fun _ => ?_, hK _ ?_⟩; (first | fail); clear hK K)))
                  refine mix_exact (.agg #[.int .u8 ((f.best.r.f 0).toNat : Int), .int .u8 ((f.best.r.f 1).toNat : Int), .int .u8 ((f.best.r.f 2).toNat : Int), .int .u8 ((f.best.r.f 3).toNat : Int), .int .u8 ((f.best.r.f 4).toNat : Int), .int .u8 ((f.best.r.f 5).toNat : Int), .int .u8 ((f.best.r.f 6).toNat : Int), .int .u8 ((f.best.r.f 7).toNat : Int), .int .i64 f.best.c, .int .u8 ((f.best.b.f 0).toNat : Int), .int .u8 ((f.best.b.f 1).toNat : Int), .int .u8 ((f.best.b.f 2).toNat : Int), .int .u8 ((f.best.b.f 3).toNat : Int), .int .u8 ((f.best.b.f 4).toNat : Int), .int .u8 ((f.best.b.f 5).toNat : Int), .int .u8 ((f.best.b.f 6).toNat : Int), .int .u8 ((f.best.b.f 7).toNat : Int), .int .i64 f.best.p]) rfl (exact_load_mid (sub := [.int .u8 ((f.best.r.f 0).toNat : Int), .int .u8 ((f.best.r.f 1).toNat : Int), .int .u8 ((f.best.r.f 2).toNat : Int), .int .u8 ((f.best.r.f 3).toNat : Int), .int .u8 ((f.best.r.f 4).toNat : Int), .int .u8 ((f.best.r.f 5).toNat : Int), .int .u8 ((f.best.r.f 6).toNat : Int), .int .u8 ((f.best.r.f 7).toNat : Int), .int .i64 f.best.c, .int .u8 ((f.best.b.f 0).toNat : Int), .int .u8 ((f.best.b.f 1).toNat : Int), .int .u8 ((f.best.b.f 2).toNat : Int), .int .u8 ((f.best.b.f 3).toNat : Int), .int .u8 ((f.best.b.f 4).toNat : Int), .int .u8 ((f.best.b.f 5).toNat : Int), .int .u8 ((f.best.b.f 6).toNat : Int), .int .u8 ((f.best.b.f 7).toNat : Int), .int .i64 f.best.p]) rfl rfl (by simp) RF9.out rfl Try.underlying38 rfl (by kernel_rfl)) ?_
                  (refine mix_step (by kernel_rfl) (by kernel_rfl) (fun K hK => ?_); go_simp; (try (simp only [↓IntWalk.iteOmega]; go_simp)); (first | (refine hK _ ?_; clear hK K) | (apply Exists.intro; refine ⟨fun _ => ?_, hK _ ?_⟩; (first | fail); clear hK K)))
                  (refine mix_step (by kernel_rfl) (by kernel_rfl) (fun K hK => ?_); go_simp; (try (simp only [↓IntWalk.iteOmega]; go_simp)); (first | (refine hK _ ?_; clear hK K) | (apply Exists.intro; refine ⟨fun _ => ?_, hK _ ?_⟩; (first | fail); clear hK K)))
                  (refine mix_step (by kernel_rfl) (by kernel_rfl) (fun K hK => ?_); go_simp; (try (simp only [↓IntWalk.iteOmega]; go_simp)); (first | (refine hK _ ?_; clear hK K) | (apply Exists.intro; refine ⟨fun _ => ?_, hK _ ?_⟩; (first | fail); clear hK K)))
                  refine mix_nil ?_
                  rintro ⟨dq, osq⟩
                  have hb10 := below_regrown w9 dq osq
                  refine (show wpList _ _ _ _ _ _ from ?_)
                  simp only [List.drop, Act.put, List.setIfInBounds_toArray, List.set]
                  go_wp2_with fail
                  go_meet
                  exact ⟨by rw [hkr]; rfl, hb10⟩
              · refine wp_region_mix 15 (by kernel_rfl) (by kernel_rfl) (by kernel_rfl) ?_
                (refine mix_step (by kernel_rfl) (by kernel_rfl) (fun K hK => ?_); go_simp; (try (simp only [↓IntWalk.iteOmega]; go_simp)); (first | (refine hK _ ?_; clear hK K) | (apply Exists.intro; refine ⟨fun _ => ?_, hK _ ?_⟩; (first | fail); clear hK K)))
                (refine mix_step (by kernel_rfl) (by kernel_rfl) (fun K hK => ?_); go_simp; (try (simp only [↓IntWalk.iteOmega]; go_simp)); (first | (refine hK _ ?_; clear hK K) | (apply Exists.intro; refine ⟨fun _ => ?_, hK _ ?_⟩; (first | fail); clear hK K)))
                (refine mix_step (by kernel_rfl) (by kernel_rfl) (fun K hK => ?_); go_simp; (try (simp only [↓IntWalk.iteOmega]; go_simp)); (first | (refine hK _ ?_; clear hK K) | (apply Exists.intro; refine ⟨fun _ => ?_, hK _ ?_⟩; (first | fail); clear hK K)))
                (refine mix_step (by kernel_rfl) (by kernel_rfl) (fun K hK => ?_); go_simp; (try (simp only [↓IntWalk.iteOmega]; go_simp)); (first | (refine hK _ ?_; clear hK K) | (apply Exists.intro; refine ⟨fun _ => ?_, hK _ ?_⟩; (first | fail); clear hK K)))
                (refine mix_step (by kernel_rfl) (by kernel_rfl) (fun K hK => ?_); go_simp; (try (simp only [↓IntWalk.iteOmega]; go_simp)); (first | (refine hK _ ?_; clear hK K) | (apply Exists.intro; refine ⟨fun _ => ?_, hK _ ?_⟩; (first | fail); clear hK K)))
                (refine mix_step (by kernel_rfl) (by kernel_rfl) (fun K hK => ?_); go_simp; (try (simp only [↓IntWalk.iteOmega]; go_simp)); (first | (refine hK _ ?_; clear hK K) | (apply Exists.intro; refine ⟨fun _ => ?_, hK _ ?_⟩; (first | fail); clear hK K)))
                (refine mix_step (by kernel_rfl) (by kernel_rfl) (fun K hK => ?_); go_simp; (try (simp only [↓IntWalk.iteOmega]; go_simp)); (first | (refine hK _ ?_; clear hK K) | (apply Exists.intro; refine ⟨fun _ => ?_, hK _ ?_⟩; (first | fail); clear hK K)))
                (refine mix_step (by kernel_rfl) (by kernel_rfl) (fun K hK => ?_); go_simp; (try (simp only [↓IntWalk.iteOmega]; go_simp)); (first | (refine hK _ ?_; clear hK K) | (apply Exists.intro; refine ⟨fun _ => ?_, hK _ ?_⟩; (first | fail); clear hK K)))
                (refine mix_step (by kernel_rfl) (by kernel_rfl) (fun K hK => ?_); go_simp; (try (simp only [↓IntWalk.iteOmega]; go_simp)); (first | (refine hK _ ?_; clear hK K) | (apply Exists.intro; refine ⟨fun _ => ?_, hK _ ?_⟩; (first | fail); clear hK K)))
                (refine mix_step (by kernel_rfl) (by kernel_rfl) (fun K hK => ?_); go_simp; (try (simp only [↓IntWalk.iteOmega]; go_simp)); (first | (refine hK _ ?_; clear hK K) | (apply Exists.intro; refine ⟨fun _ => ?_, hK _ ?_⟩; (first | fail); clear hK K)))
                (refine mix_step (by kernel_rfl) (by kernel_rfl) (fun K hK => ?_); go_simp; (try (simp only [↓IntWalk.iteOmega]; go_simp)); (first | (refine hK _ ?_; clear hK K) | (apply Exists.intro; refine ⟨fun _ => ?_, hK _ ?_⟩; (first | fail); clear hK K)))
                (refine mix_step (by kernel_rfl) (by kernel_rfl) (fun K hK => ?_); go_simp; (try (simp only [↓IntWalk.iteOmega]; go_simp)); (first | (refine hK _ ?_; clear hK K) | (apply Exists.intro; refine ⟨fun _ => ?_, hK _ ?_⟩; (first | fail); clear hK K)))
                (refine mix_step (by kernel_rfl) (by kernel_rfl) (fun K hK => ?_); go_simp; (try (simp only [↓IntWalk.iteOmega]; go_simp)); (first | (refine hK _ ?_; clear hK K) | (apply Exists.intro; refine ⟨fun _ => ?_, hK _ ?_⟩; (first | fail); clear hK K)))
                (refine mix_step (by kernel_rfl) (by kernel_rfl) (fun K hK => ?_); go_simp; (try (simp only [↓IntWalk.iteOmega]; go_simp)); (first | (refine hK _ ?_; clear hK K) | (apply Exists.intro; refine ⟨fun _ => ?_, hK _ ?_⟩; (first | fail); clear hK K)))
                (refine mix_step (by kernel_rfl) (by kernel_rfl) (fun K hK => ?_); go_simp; (try (simp only [↓IntWalk.iteOmega]; go_simp)); (first | (refine hK _ ?_; clear hK K) | (apply Exists.intro; refine ⟨fun _ => ?_, hK _ ?_⟩; (first | fail); clear hK K)))
                refine mix_nil ?_
                rintro ⟨dq, osq⟩
                have hb10 := below_regrown w9 dq osq
                refine (show wpList _ _ _ _ _ _ from ?_)
                simp only [List.drop, Act.put, List.setIfInBounds_toArray, List.set]
                go_wp2_with fail
                go_meet
                exact ⟨by rw [hkr]; rfl, hb10⟩
            case rest =>
              obtain ⟨rfl, hbc⟩ := hcut
              have HA11 := Lib.hid (HA9.out.later hbc)
              have RI11 := Lib.hid (RI9.out.kept hbc)
              have HO11 := Lib.hid (HO9.out.below hbc)
              have hbB11 := hbB9.trans (hbc.mono (Nat.le_trans hB0 HO9.out.1))
              have hszw : w.heap.size ≤ wc.heap.size := HO11.out.1
              clear HA9 RI9 HO9 hbB9 RV9 RF9 k0 k30 hbc
              generalize wc = w11 at *
              generalize ((k : Int) == f.root || !decide (s.best = f.best)) = c93 at *
              cases c93
              · have HTK : Hid (tk = if ((f.port k).role == 2) = true then f.tells (fun j => decide ((j : Int) = (k : Int))) else []) := HTK.out
                have c27 : w11.cell? ⟨pb, 27, none⟩ = some (.int .i64 (f.port k).role) := by
                  rw [← HPB.out]
                  exact (HA11.out.ports k hkp).2.cell 27
                cases hrl : ((f.port k).role == 2)
                · rw [hrl] at HTK
                  have HTK : Hid (tk = []) := HTK.out
                  go_wp2_with fail
                  go_ret
                  rw [HE.out]
                  exact ⟨_, rfl, by rw [HTK.out]; exact out_nil _ _, HA11.out, hbB11, HO11.out⟩
                · rw [hrl] at HTK
                  have HTK : Hid (tk = f.tells (fun j => decide ((j : Int) = (k : Int)))) := HTK.out
                  have HON := Lib.hid (on_only B S g cap pbs w11 f HA11.out hp HOKF.out.root HOKF.out.ages w.heap.size (k : Int) RI11.out)
                  go_wp2_with fail
                  refine HON.out.mono ?_
                  rintro e w12 ⟨v, rfl, hO12, hb12⟩
                  have HO12 := Lib.hid hO12
                  have HA12 := Lib.hid (HA11.out.later hb12)
                  have HOO12 := Lib.hid (HO11.out.below hb12)
                  have hbB12 := hbB11.trans (hb12.mono (Nat.le_trans hB0 hszw))
                  clear HON HA11 HO11 hbB11 hO12 hb12
                  go_wp2_with fail
                  go_ret
                  rw [HE.out]
                  exact ⟨_, rfl, by rw [HTK.out]; exact HO12.out.lower hszw, HA12.out, hbB12, HOO12.out⟩
              · have HTK : Hid (tk = f.tells (fun _ => true)) := HTK.out
                have HON := Lib.hid (on_all B S g cap pbs w11 f HA11.out hp HOKF.out.root HOKF.out.ages)
                go_wp2_with fail
                refine HON.out.mono ?_
                rintro e w12 ⟨v, rfl, hO12, hb12⟩
                have HO12 := Lib.hid hO12
                have HA12 := Lib.hid (HA11.out.later hb12)
                have HOO12 := Lib.hid (HO11.out.below hb12)
                have hbB12 := hbB11.trans (hb12.mono (Nat.le_trans hB0 hszw))
                clear HON HA11 HO11 hbB11 hO12 hb12
                go_wp2_with fail
                go_ret
                rw [HE.out]
                exact ⟨_, rfl, by rw [HTK.out]; exact HO12.out.lower hszw, HA12.out, hbB12, HOO12.out⟩
        · rw [hma] at HE
          have HE : Hid (s.take (k : Nat) x = (s, [])) := HE.out
          clear hma
          go_wp2_with fail
          go_ret
          rw [HE.out]
          exact ⟨_, rfl, (by exact out_nil _ _), HA5.out, hbB5, HO5.out⟩
    · have HE : Hid (s.take i x = (s, [])) := by show _ = _; rw [HE.out, hnf]; rfl
      clear hnf
      go_wp2_with fail
      go_ret
      rw [HE.out]
      exact ⟨_, rfl, (by exact out_nil _ _), HA2.out, hbB2, HO2.out⟩
end Go.Proofs.Ytdhiaidbpjjljaa
