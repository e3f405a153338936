/- tun.Joiner.open of a text that is there; Take of a joiner that keeps one text at most. By an AI agent. -/
import Derived.Test.YtdkgjbakbnhmaaaOpenFresh
namespace Go.Proofs.Ytdkgjbakbnhmaaa
open Go.RowKit Go.Sort Grow

theorem nodup_of_map {l : List Tx} {f : Tx → Nat} (h : (l.map f).Nodup) {a b : Tx} (ha : a ∈ l) (hb : b ∈ l) (e : f a = f b) : a = b := by
  induction l with
  | nil => cases ha
  | cons c l ih =>
    rw [List.map_cons, List.nodup_cons] at h
    rcases List.mem_cons.1 ha with rfl | ha'
    · rcases List.mem_cons.1 hb with rfl | hb'
      · rfl
      · exact absurd (List.mem_map.2 ⟨b, hb', e.symm⟩) h.1
    · rcases List.mem_cons.1 hb with rfl | hb'
      · exact absurd (List.mem_map.2 ⟨a, ha', e⟩) h.1
      · exact ih h.2 ha' hb'

set_option maxRecDepth 20000 in
set_option maxHeartbeats 2000000 in
theorem open_there (B J x y : Nat) (bd : ByteArray) (l : List Tx) (t : Tx) (w : World) (h : JoinIs B J w l) (htl : t ∈ l) :
    Calls Try.prog 17 #[.pointer (some ⟨J, 0, none⟩), .agg #[U32 t.n, .int .i64 (x : Nat), .int .i64 (y : Nat), .string bd]] w fun e w' => e = .returned (.pointer (some ⟨t.tb, 0, none⟩)) ∧ Below w.heap.size w w' := by
  obtain ⟨ord, mv, hJ, hBJ, hown, hm, ht, hd1, _⟩ := h
  obtain ⟨M, rfl, hBM, hM, _⟩ : ∃ M, mv = .map (some M) ∧ B ≤ M ∧ MapIs w M (l.map Tx.kv) ∧ ∀ u ∈ l, u.pb ≠ M := by
    rcases hm with ⟨_, h, _⟩ | h
    · subst h; cases htl
    · exact h
  have HKS : Hid (∀ q ∈ l.map Tx.kv, MapKept.IsKey (.int .u32) q.1) := fun q hq => by
    obtain ⟨u, hu, rfl⟩ := List.mem_map.1 hq
    exact isKey32 _
  have HK : Hid (∀ q ∈ l.map Tx.kv, q.1 = U32 t.n → q.2 = .pointer (some ⟨t.tb, 0, none⟩)) := fun q hq e => by
    obtain ⟨u, hu, rfl⟩ := List.mem_map.1 hq
    have e : U32 u.n = U32 t.n := e
    simp only [U32, Value.int.injEq, true_and] at e
    have : u = t := nodup_of_map hd1 hu htl (by omega)
    rw [this]
    rfl
  have HJ := Lib.hid hJ
  have HM := Lib.hid hM
  have hJl := hJ.lt
  have hMl := hM.lt
  clear hJ hM hown hm ht hd1
  go_enter Try.func17, Try.ntmps17
  go_upto_region 1 with fail
  generalize hW : w.alloc _ = W
  have hbA : Below w.heap.size w W := by rw [← hW]; exact (Below.refl _ _).alloc (Nat.le_refl _) _
  have RC : RowIs W w.heap.size 57 #[U32 t.n, .int .i64 (x : Nat), .int .i64 (y : Nat), .string bd] := by rw [← hW]; exact rowIs_new w _ _
  clear hW
  have k1 := cell_regrown (show W.cell? ⟨J, 1, none⟩ = some (.map (some M)) from (HJ.out.kept hbA).cell 1)
  have k2 := cell_regrown (show W.cell? ⟨w.heap.size, 0, none⟩ = some (U32 t.n) from RC.cell 0)
  have HM2 := Lib.hid (HM.out.kept hbA)
  have hlk := fun (p : Regrown) => run_lookup_hit (P := Try.prog) (t := 40) (k := U32 t.n) (v := .pointer (some ⟨t.tb, 0, none⟩)) Try.underlying40 Try.underlying28 (HM2.out.kept (below_regrown W p.d p.os)) (isKey32 t.n) HKS.out ⟨t.kv, List.mem_map.2 ⟨t, htl, rfl⟩, rfl⟩ HK.out true
  simp only [if_true] at hlk
  clear RC
  refine wp_region_mix 11 (by kernel_rfl) (by kernel_rfl) (by kernel_rfl) ?_
  (refine mix_step (by kernel_rfl) (by kernel_rfl) (fun K hK => ?_); go_simp; (try (simp only [↓IntWalk.iteOmega]; go_simp)); (first | (refine hK _ ?_; clear hK K) | (apply Exists.intro; refine ⟨fun _ => ?_, hK _ ?_⟩; (first | fail); clear hK K)))
  (refine mix_step (by kernel_rfl) (by kernel_rfl) (fun K hK => ?_); go_simp; (try (simp only [↓IntWalk.iteOmega]; go_simp)); (first | (refine hK _ ?_; clear hK K) | (apply Exists.intro; refine ⟨fun _ => ?_, hK _ ?_⟩; (first | fail); clear hK K)))
  (refine mix_step (by kernel_rfl) (by kernel_rfl) (fun K hK => ?_); go_simp; (try (simp only [↓IntWalk.iteOmega]; go_simp)); (first | (refine hK _ ?_; clear hK K) | (apply Exists.intro; refine ⟨fun _ => ?_, hK _ ?_⟩; (first | fail); clear hK K)))
  (refine mix_step (by kernel_rfl) (by kernel_rfl) (fun K hK => ?_); go_simp; (try (simp only [↓IntWalk.iteOmega]; go_simp)); (first | (refine hK _ ?_; clear hK K) | (apply Exists.intro; refine ⟨fun _ => ?_, hK _ ?_⟩; (first | fail); clear hK K)))
  (refine mix_step (by kernel_rfl) (by kernel_rfl) (fun K hK => ?_); go_simp; (try (simp only [↓IntWalk.iteOmega]; go_simp)); (first | (refine hK _ ?_; clear hK K) | (apply Exists.intro; refine ⟨fun _ => ?_, hK _ ?_⟩; (first | fail); clear hK K)))
  (refine mix_step (by kernel_rfl) (by kernel_rfl) (fun K hK => ?_); go_simp; (try (simp only [↓IntWalk.iteOmega]; go_simp)); (first | (refine hK _ ?_; clear hK K) | (apply Exists.intro; refine ⟨fun _ => ?_, hK _ ?_⟩; (first | fail); clear hK K)))
  (refine mix_step (by kernel_rfl) (by kernel_rfl) (fun K hK => ?_); go_simp; (try (simp only [↓IntWalk.iteOmega]; go_simp)); (first | (refine hK _ ?_; clear hK K) | (apply Exists.intro; refine ⟨fun _ => ?_, hK _ ?_⟩; (first | fail); clear hK K)))
  (refine mix_step (by kernel_rfl) (by kernel_rfl) (fun K hK => ?_); go_simp; (try (simp only [↓IntWalk.iteOmega]; go_simp)); (first | (refine hK _ ?_; clear hK K) | (apply Exists.intro; refine ⟨fun _ => ?_, hK _ ?_⟩; (first | fail); clear hK K)))
  (refine mix_step (by kernel_rfl) (by kernel_rfl) (fun K hK => ?_); go_simp; (try (simp only [↓IntWalk.iteOmega]; go_simp)); (first | (refine hK _ ?_; clear hK K) | (apply Exists.intro; refine ⟨fun _ => ?_, hK _ ?_⟩; (first | fail); clear hK K)))
  (refine mix_step (by kernel_rfl) (by kernel_rfl) (fun K hK => ?_); go_simp; (try (simp only [↓IntWalk.iteOmega]; go_simp)); (first | (refine hK _ ?_; clear hK K) | (apply Exists.intro; refine ⟨fun _ => ?_, hK _ ?_⟩; (first | fail); clear hK K)))
  (refine mix_step (by kernel_rfl) (by kernel_rfl) (fun K hK => ?_); go_simp; (try (simp only [↓IntWalk.iteOmega]; go_simp)); (first | (refine hK _ ?_; clear hK K) | (apply Exists.intro; refine ⟨fun _ => ?_, hK _ ?_⟩; (first | fail); clear hK K)))
  refine mix_nil ?_
  rintro ⟨dq, osq⟩
  have hbq := below_regrown W dq osq
  generalize grow (redrawn W dq) osq = W1 at *
  refine (show wpList _ _ _ _ _ _ from ?_)
  simp only [List.drop, Act.put, List.setIfInBounds_toArray, List.set]
  have hbW := hbA.trans (hbq.mono hbA.size)
  go_wp2_with fail
  go_ret
  exact ⟨rfl, hbW⟩

theorem JoinIs.put {B J : Nat} {w w' : World} {l1 l2 : List Tx} {t : Tx} (ps : List (Nat × ByteArray)) (h : JoinIs B J w (l1 ++ t :: l2)) (hm : MapIs w' t.pb (ps.map pieceKV)) (ho : ∀ j, j ≠ t.pb → w'.heap[j]? = w.heap[j]?) : JoinIs B J w' (l1 ++ ⟨t.n, t.cnt, ps, t.tb, t.pb⟩ :: l2) := by
  obtain ⟨ord, mv, hJ, hBJ, hown, hmm, ht, h1, h2, h3⟩ := h
  have htl : t ∈ l1 ++ t :: l2 := by simp
  obtain ⟨a, b, c, d⟩ := ht t htl
  have old : ∀ u, u ∈ l1 ∨ u ∈ l2 → u ∈ l1 ++ t :: l2 ∧ u.pb ≠ t.pb := fun u hu => by
    have hm : u ∈ l1 ++ t :: l2 := by rcases hu with h | h <;> simp [h]
    refine ⟨hm, fun e => ?_⟩
    rw [List.map_append, List.map_cons] at h3
    have h4 := List.nodup_append.1 h3
    rcases hu with h | h
    · exact h4.2.2 _ (List.mem_map.2 ⟨u, h, rfl⟩) _ (List.mem_cons_self ..) e
    · exact (List.nodup_cons.1 h4.2.1).1 (List.mem_map.2 ⟨u, h, e⟩)
  have new : ∀ u, u ∈ l1 ++ ⟨t.n, t.cnt, ps, t.tb, t.pb⟩ :: l2 → u = ⟨t.n, t.cnt, ps, t.tb, t.pb⟩ ∨ u ∈ l1 ∨ u ∈ l2 := fun u hu => by
    rcases List.mem_append.1 hu with h | h
    · exact .inr (.inl h)
    · rcases List.mem_cons.1 h with h | h
      · exact .inl h
      · exact .inr (.inr h)
  have e1 : ∀ {α : Type} (f : Tx → α), f ⟨t.n, t.cnt, ps, t.tb, t.pb⟩ = f t → (l1 ++ (⟨t.n, t.cnt, ps, t.tb, t.pb⟩ : Tx) :: l2).map f = (l1 ++ t :: l2).map f := fun f hf => by
    simp only [List.map_append, List.map_cons, hf]
  refine ⟨ord, mv, (ho J (row_map hJ d)).trans hJ, hBJ, ?_, ?_, fun u hu => ?_, by rw [e1 _ rfl]; exact h1, by rw [e1 _ rfl]; exact h2, by rw [e1 _ rfl]; exact h3⟩
  · rw [e1 _ rfl, show (l1 ++ (⟨t.n, t.cnt, ps, t.tb, t.pb⟩ : Tx) :: l2).length = (l1 ++ t :: l2).length by simp]
    exact own_same hown (fun k hk => ho k (fun e => map_own d hown (by rw [hk, e])))
  · rcases hmm with ⟨_, h, _⟩ | ⟨M, m1, m2, m3, m4⟩
    · simp at h
    · refine .inr ⟨M, m1, m2, by rw [e1 _ rfl]; exact m3.same (ho M (m4 t htl).symm), fun u hu => ?_⟩
      rcases new u hu with rfl | h
      · exact m4 t htl
      · exact m4 u (old u h).1
  · rcases new u hu with rfl | h
    · exact ⟨a, b, (ho _ (row_map c d)).trans c, hm⟩
    · obtain ⟨a', b', c', d'⟩ := ht u (old u h).1
      exact ⟨a', b', (ho _ (row_map c' d)).trans c', d'.same (ho _ (old u h).2)⟩

/-- what a joiner keeps, without where it lies -/
abbrev Ab := Nat × Nat × List (Nat × ByteArray)
def Tx.ab (t : Tx) : Ab := (t.n, t.cnt, t.parts)
def JIs (B J : Nat) (w : World) (L : List Ab) : Prop := ∃ l, JoinIs B J w l ∧ l.map Tx.ab = L

theorem JIs.later {B J : Nat} {w w' : World} {L : List Ab} (h : JIs B J w L) (hb : Below w.heap.size w w') : JIs B J w' L := by
  obtain ⟨l, h, e⟩ := h
  exact ⟨l, h.later hb, e⟩
end Go.Proofs.Ytdkgjbakbnhmaaa
