/- tun.Joiner.open of a joiner that has kept something. By an AI agent. -/
import Derived.Test.YtdkgjbakbnhmaaaOpenFresh
import Derived.Test.YtdkgjbakbnhmaaaGrowApp
namespace Go.Proofs.Ytdkgjbakbnhmaaa
open Go.RowKit Go.Sort Grow

theorem own_lt {w : World} {B e size n k : Nat} {v : Value} {xs : List Value} (h : w.ownsRow B e size v n xs) (hk : v.ownBlock = some k) : k < w.heap.size := by
  rcases h.2 with ⟨rfl, _⟩ | ⟨g, cap, cur, rfl, _, hg, _⟩
  · cases hk
  · cases hk
    exact (Array.getElem?_eq_some_iff.1 hg).1
theorem own_ge {w : World} {B e size n k : Nat} {v : Value} {xs : List Value} (h : w.ownsRow B e size v n xs) (hk : v.ownBlock = some k) : B ≤ k := by
  rcases h.2 with ⟨rfl, _⟩ | ⟨g, cap, cur, rfl, hB, hg, _⟩
  · cases hk
  · cases hk
    exact hB
theorem own_base {w : World} {B B' e size n : Nat} {v : Value} {xs : List Value} (h : w.ownsRow B' e size v n xs) (hB : B ≤ B') : w.ownsRow B e size v n xs := by
  refine ⟨h.1, ?_⟩
  rcases h.2 with h | ⟨g, cap, cur, e1, hg, h⟩
  · exact .inl h
  · exact .inr ⟨g, cap, cur, e1, Nat.le_trans hB hg, h⟩

theorem first_cell {w : World} {B : Nat} {ord : Value} {t0 : Tx} {l : List Tx} (h : w.ownsRow B 28 1 ord (t0 :: l).length ((t0 :: l).map fun t => U32 t.n)) (h7 : l.length = 7) :
    ∃ g cap, ord = .slice (some ⟨g, 0, none⟩) 8 cap ∧ w.cell? ⟨g, 0, none⟩ = some (U32 t0.n) ∧ g < w.heap.size ∧ 0 < cap := by
  obtain ⟨_, h | ⟨g, cap, cur, rfl, _, hg, hle, _, hcs, htk⟩⟩ := h
  · simp at h
  · have hlt := (Array.getElem?_eq_some_iff.1 hg).1
    simp only [List.length_cons, h7] at hle htk ⊢
    refine ⟨g, cap, rfl, ?_, hlt, by omega⟩
    rw [RowIs.cell (show RowIs w g 28 cur from hg), ← Array.getElem?_toList]
    have : (cur.toList.take ((7 + 1) * 1))[0]? = some (U32 t0.n) := by rw [htk]; rfl
    rw [List.getElem?_take_of_lt (by omega)] at this
    exact this

/-- what stays while open adds a text -/
theorem Others.of_add {w w' W : World} {J M H : Nat} {ord : Value} {cs : Array Value} {lm : List (Value × Value)} {B n : Nat} {xs : List Value} (hJ : RowIs w J 42 cs) (hM : MapIs w M lm) (hO : w.ownsRow B 28 1 ord n xs) (hH : w.heap.size = H)
    (hS : ∀ j, j < H → j ≠ M → ord.ownBlock ≠ some j → w'.heap[j]? = w.heap[j]?) (h7 : ∀ j, j ≠ J → W.heap[j]? = w'.heap[j]?) : Others w W := fun b t cs' hr h1 _ h3 =>
  ((h7 b (row_row hr hJ h1)).trans (hS b (by rw [← hH]; exact hr.lt) (row_map hr hM) (row_own hr hO h3))).trans hr

/-- .. what is kept then -/
theorem join_add {B J : Nat} {w w' W : World} {l : List Tx} (t : Tx) {M H : Nat} {ord ord' : Value} {lm : List (Value × Value)} (h : JoinIs B J w l) (hJ : RowIs w J 42 #[ord, .map (some M)]) (hM : MapIs w M lm) (hO : w.ownsRow B 28 1 ord l.length (l.map fun t => U32 t.n)) (hn : ∀ u ∈ l, u.n ≠ t.n) (hH : w.heap.size = H) (htb : H ≤ t.tb) (hpb : H ≤ t.pb)
    (hJ7 : RowIs W J 42 (#[ord, .map (some M)].setIfInBounds 0 ord')) (hM6 : MapIs w' M (l.map Tx.kv ++ [t.kv])) (hT6 : RowIs w' t.tb 64 #[.int .i64 (t.cnt : Int), .map (some t.pb)]) (hP6 : MapIs w' t.pb (t.parts.map pieceKV)) (hO6 : w'.ownsRow B 28 1 ord' (l.length + 1) ((l.map fun t => U32 t.n) ++ [U32 t.n]))
    (hS : ∀ j, j < H → j ≠ M → ord.ownBlock ≠ some j → w'.heap[j]? = w.heap[j]?) (h7 : ∀ j, j ≠ J → W.heap[j]? = w'.heap[j]?) (hTP : t.tb = t.pb + 1) : JoinIs B J W (l ++ [t]) := by
  obtain ⟨ord2, mv, hJ2, hBJ, hown2, hm, ht, h1, h2, h3⟩ := h
  have e1 := hJ2.symm.trans hJ
  simp only [Option.some.injEq, Obj.cells.injEq, Array.mk.injEq, List.cons.injEq, and_true] at e1
  obtain ⟨rfl, rfl⟩ := e1
  obtain ⟨M2, eM, hBM, hM2, hpM⟩ : ∃ M2, Value.map (some M) = .map (some M2) ∧ B ≤ M2 ∧ MapIs w M2 (l.map Tx.kv) ∧ ∀ u ∈ l, u.pb ≠ M2 := by
    rcases hm with ⟨h, _⟩ | h
    · cases h
    · exact h
  have eM : M = M2 := by simpa using eM
  subst eM
  have hJH : J < H := by rw [← hH]; exact hJ.lt
  have hMH : M < H := by rw [← hH]; exact hM.lt
  have hBH : B ≤ H := by omega
  have hJ0 : ∀ u ∈ l, TxIs B W u ∧ u.tb < H ∧ u.pb < H := fun u hu => by
    obtain ⟨a, b, c, d⟩ := ht u hu
    have hc := c.lt
    have hd := d.lt
    refine ⟨⟨a, b, ?_, ?_⟩, by omega, by omega⟩
    · exact ((h7 _ (row_row c hJ (by decide))).trans (hS _ (by omega) (row_map c hM) (row_own c hO (by decide)))).trans c
    · exact d.same ((h7 _ (row_map hJ d).symm).trans (hS _ (by omega) (hpM u hu) (map_own d hO)))
  refine ⟨ord', .map (some M), hJ7, hBJ, ?_, .inr ⟨M, rfl, hBM, ?_, fun u hu => ?_⟩, fun u hu => ?_, ?_, ?_, ?_⟩
  · have e : (l ++ [t]).length = l.length + 1 := by simp
    have e' : (l ++ [t]).map (fun t => U32 t.n) = (l.map fun t => U32 t.n) ++ [U32 t.n] := by simp
    rw [e, e']
    refine own_same hO6 (fun k hk => h7 k ?_)
    intro ek
    have hJ6 : RowIs w' J 42 _ := (hS J hJH (row_map hJ hM) (row_own hJ hO (by decide))).trans hJ
    exact row_own hJ6 hO6 (by decide) (by rw [hk, ek])
  · rw [List.map_append]
    exact hM6.same (h7 _ (by intro e; subst e; exact row_map hJ hM rfl))
  · rcases List.mem_append.1 hu with h | h
    · exact hpM u h
    · rw [List.mem_singleton.1 h]; omega
  · rcases List.mem_append.1 hu with h | h
    · exact (hJ0 u h).1
    · rw [List.mem_singleton.1 h]
      exact ⟨by omega, by omega, (h7 _ (by omega)).trans hT6, hP6.same (h7 _ (by omega))⟩
  · simp only [List.map_append, List.map_cons, List.map_nil]
    refine List.nodup_append.2 ⟨h1, by simp, ?_⟩
    intro a ha b hb e
    rw [List.mem_singleton] at hb
    obtain ⟨u, hu, rfl⟩ := List.mem_map.1 ha
    exact hn u hu (e.trans hb)
  · simp only [List.map_append, List.map_cons, List.map_nil]
    refine List.nodup_append.2 ⟨h2, by simp, ?_⟩
    intro a ha b hb e
    rw [List.mem_singleton] at hb
    obtain ⟨u, hu, rfl⟩ := List.mem_map.1 ha
    have := (hJ0 u hu).2.1
    omega
  · simp only [List.map_append, List.map_cons, List.map_nil]
    refine List.nodup_append.2 ⟨h3, by simp, ?_⟩
    intro a ha b hb e
    rw [List.mem_singleton] at hb
    obtain ⟨u, hu, rfl⟩ := List.mem_map.1 ha
    have := (hJ0 u hu).2.2
    omega

set_option maxRecDepth 20000 in
set_option maxHeartbeats 4000000 in
theorem open_room (B J n cnt at' : Nat) (body : ByteArray) (l : List Tx) (w : World) (h : JoinIs B J w l) (hn : ∀ u ∈ l, u.n ≠ n) (h8 : l.length < 8) (hnn : ¬ RowIs w J 42 #[.slice none 0 0, .map none]) :
    Calls Try.prog 17 #[.pointer (some ⟨J, 0, none⟩), .agg #[U32 n, .int .i64 (at' : Int), .int .i64 (cnt : Int), .string body]] w fun e w' => ∃ t : Tx, e = .returned (.pointer (some ⟨t.tb, 0, none⟩)) ∧ t.n = n ∧ t.cnt = cnt ∧ t.parts = [] ∧ JoinIs B J w' (l ++ [t]) ∧ Below B w w' ∧ Others w w' := by
  obtain ⟨ti, tz, hi, hz, hz1, hz2, hz3⟩ := info_u32
  have hi := Lib.hid hi
  have hz := Lib.hid hz
  have hz1 := Lib.hid hz1
  have hz2 := Lib.hid hz2
  have hz3 := Lib.hid hz3
  have hJo0 := h
  obtain ⟨ord, mv, hJ, hBJ, hown, hm, ht, hd1, hd2, hd3⟩ := h
  obtain ⟨M, rfl, hBM, hM, hpM⟩ : ∃ M, mv = .map (some M) ∧ B ≤ M ∧ MapIs w M ((l).map Tx.kv) ∧ ∀ u ∈ l, u.pb ≠ M := by
    rcases hm with ⟨rfl, rfl, rfl⟩ | h
    · exact absurd hJ hnn
    · exact h
  have HJo := Lib.hid hJo0
  have HJ := Lib.hid hJ
  have HM := Lib.hid hM
  have HO := Lib.hid hown
  have hJl := hJ.lt
  have hMl := hM.lt
  have hlen : ∀ (w : World) (ty : TypeId), (Builtin.len_ #[39] ty #[ord]).run Try.prog w = .ok (.int .i64 (l.length : Nat)) w := fun w ty => by
    rcases hown.2 with ⟨rfl, h0⟩ | ⟨g, cap, cur, rfl, _⟩
    · rw [h0]; rfl
    · rfl
  have HK : Hid (∀ q ∈ (l).map Tx.kv, q.1 ≠ U32 n) := fun q hq e => by
    obtain ⟨u, hu, rfl⟩ := List.mem_map.1 hq
    have e : U32 u.n = U32 n := e
    simp only [U32, Value.int.injEq, true_and] at e
    exact hn u hu (by omega)
  have HKS : Hid (∀ q ∈ (l).map Tx.kv, MapKept.IsKey (.int .u32) q.1) := fun q hq => by
    obtain ⟨u, hu, rfl⟩ := List.mem_map.1 hq
    exact isKey32 _
  skip
  clear hJ hM hown hm ht hd1 hd2 hd3 hpM hJo0
  have hn := Lib.hid hn
  have hnn := Lib.hid hnn
  go_enter Try.func17, Try.ntmps17
  go_upto_region 1 with fail
  generalize hW : w.alloc _ = W
  have hbA : Below w.heap.size w W := by rw [← hW]; exact (Below.refl _ _).alloc (Nat.le_refl _) _
  have RC : Hid (RowIs W w.heap.size 57 #[U32 n, .int .i64 (at' : Int), .int .i64 (cnt : Int), .string body]) := by show RowIs W w.heap.size 57 #[U32 n, .int .i64 (at' : Int), .int .i64 (cnt : Int), .string body]; rw [← hW]; exact rowIs_new w _ _
  clear hW
  have HJ := Lib.hid (HJ.out.kept hbA)
  have HM := Lib.hid (HM.out.kept hbA)
  have k1 := cell_regrown (show W.cell? ⟨J, 1, none⟩ = some (.map (some M)) from HJ.out.cell 1)
  have k2 := cell_regrown (show W.cell? ⟨w.heap.size, 0, none⟩ = some (U32 n) from RC.out.cell 0)
  have hzs : ∀ w : World, (zeroValue 60).run Try.prog w = .ok (.pointer none) w := fun w => by go_simp
  have hlk := fun (p : Regrown) => run_lookup_miss (P := Try.prog) (t := 40) (k := U32 n) Try.underlying40 Try.underlying28 (HM.out.kept (below_regrown W p.d p.os)) (isKey32 n) HKS.out HK.out _ (hzs _) true
  simp only [if_true] at hlk
  refine wp_region_mix 11 (by kernel_rfl) (by kernel_rfl) (by kernel_rfl) ?_
  (refine mix_step (by kernel_rfl) (by kernel_rfl) (fun K hK => ?_); go_simp; (try (simp only [↓IntWalk.iteOmega]; go_simp)); (first | (refine hK _ ?_; clear hK K) | (apply Exists.intro; refine ⟨fun _ => ?_, hK _ ?_⟩; (first | fail); clear hK K)))
  (refine mix_step (by kernel_rfl) (by kernel_rfl) (fun K hK => ?_); go_simp; (try (simp only [↓IntWalk.iteOmega]; go_simp)); (first | (refine hK _ ?_; clear hK K) | (apply Exists.intro; refine ⟨fun _ => ?_, hK _ ?_⟩; (first | fail); clear hK K)))
  (refine mix_step (by kernel_rfl) (by kernel_rfl) (fun K hK => ?_); go_simp; (try (simp only [↓IntWalk.iteOmega]; go_simp)); (first | (refine hK _ ?_; clear hK K) | (apply Exists.intro; refine ⟨fun _ => ?_, hK _ ?_⟩; (first | fail); clear hK K)))
  (refine mix_step (by kernel_rfl) (by kernel_rfl) (fun K hK => ?_); go_simp; (try (simp only [↓IntWalk.iteOmega]; go_simp)); (first | (refine hK _ ?_; clear hK K) | (apply Exists.intro; refine ⟨fun _ => ?_, hK _ ?_⟩; (first | fail); clear hK K)))
  (refine mix_step (by kernel_rfl) (by kernel_rfl) (fun K hK => ?_); go_simp; (try (simp only [↓IntWalk.iteOmega]; go_simp)); (first | (refine hK _ ?_; clear hK K) | (apply Exists.intro; refine ⟨fun _ => ?_, hK _ ?_⟩; (first | fail); clear hK K)))
  (refine mix_step (by kernel_rfl) (by kernel_rfl) (fun K hK => ?_); go_simp; (try (simp only [↓IntWalk.iteOmega]; go_simp)); (first | (refine hK _ ?_; clear hK K) | (apply Exists.intro; refine ⟨fun _ => ?_, hK _ ?_⟩; (first | fail); clear hK K)))
  (refine mix_step (by kernel_rfl) (by kernel_rfl) (fun K hK => ?_); go_simp; (try (simp only [↓IntWalk.iteOmega]; go_simp)); (first | (refine hK _ ?_; clear hK K) | (apply Exists.intro; refine ⟨fun _ => ?_, hK _ ?_⟩; (first | fail); clear hK K)))
  (refine mix_step (by kernel_rfl) (by kernel_rfl) (fun K hK => ?_); go_simp; (try (simp only [↓IntWalk.iteOmega]; go_simp)); (first | (refine hK _ ?_; clear hK K) | (apply Exists.intro; refine ⟨fun _ => ?_, hK _ ?_⟩; (first | fail); clear hK K)))
  (refine mix_step (by kernel_rfl) (by kernel_rfl) (fun K hK => ?_); go_simp; (try (simp only [↓IntWalk.iteOmega]; go_simp)); (first | (refine hK _ ?_; clear hK K) | (apply Exists.intro; refine ⟨fun _ => ?_, hK _ ?_⟩; (first | fail); clear hK K)))
  (refine mix_step (by kernel_rfl) (by kernel_rfl) (fun K hK => ?_); go_simp; (try (simp only [↓IntWalk.iteOmega]; go_simp)); (first | (refine hK _ ?_; clear hK K) | (apply Exists.intro; refine ⟨fun _ => ?_, hK _ ?_⟩; (first | fail); clear hK K)))
  (refine mix_step (by kernel_rfl) (by kernel_rfl) (fun K hK => ?_); go_simp; (try (simp only [↓IntWalk.iteOmega]; go_simp)); (first | (refine hK _ ?_; clear hK K) | (apply Exists.intro; refine ⟨fun _ => ?_, hK _ ?_⟩; (first | fail); clear hK K)))
  refine mix_nil ?_
  rintro ⟨dq, osq⟩
  have hbq := below_regrown W dq osq
  have HJ := Lib.hid (HJ.out.kept hbq)
  have HM := Lib.hid (HM.out.kept hbq)
  have RC := Lib.hid (RC.out.kept hbq)
  have hbW := hbA.trans (hbq.mono hbA.size)
  have HJo := Lib.hid (HJo.out.later hbW)
  have HO := Lib.hid (owns_later HO.out hbW)
  have HOT := Lib.hid (Others.of_below hbW)
  generalize grow (redrawn W dq) osq = W1 at *
  clear k1 k2 hbq hbA hlk hzs
  refine (show wpList _ _ _ _ _ _ from ?_)
  simp only [List.drop, Act.put, List.setIfInBounds_toArray, List.set]
  have hwW := hbW.size
  have hq : ∀ w : World, (binOp .eql 40 (.map (some M)) (.map none)).run Try.prog w = .ok (.bool false) w := fun w => by kernel_rfl
  have c1 : W1.cell? ⟨J, 1, none⟩ = some (.map (some M)) := HJ.out.cell 1
  have c0 : W1.cell? ⟨J, 0, none⟩ = some ord := HJ.out.cell 0
  have hbB := hbW.mono (show B ≤ w.heap.size by omega)
  have HJ1 := HJ
  have HM1 := HM
  have HO1 := HO
  have h8' : ¬ ((l.length : Int) = 8) := by omega
  have hmk2 : ∀ w : World, (Instr.makeMap 62 none).run Try.prog w = .ok (.map (some w.heap.size)) (w.alloc (.map #[] 0)) := fun w => run_makeMap 62 w
  have c2 : W1.cell? ⟨w.heap.size, 2, none⟩ = some (.int .i64 (cnt : Int)) := RC.out.cell 2
  have hMl := HM.out.lt
  have hJl1 := HJ.out.lt
  go_upto_region 9 with fail
  have RT3 : Hid (RowIs ((W1.alloc (.map #[] 0)).alloc (.cells #[.int .i64 (cnt : Int), .map (some W1.heap.size)] 64)) (W1.heap.size + 1) 64 #[.int .i64 (cnt : Int), .map (some W1.heap.size)]) := rowIs_new1 W1 (.map #[] 0) 64 #[.int .i64 (cnt : Int), .map (some W1.heap.size)]
  have HP3 : Hid (MapIs ((W1.alloc (.map #[] 0)).alloc (.cells #[.int .i64 (cnt : Int), .map (some W1.heap.size)] 64)) W1.heap.size []) := (mapIs_new W1).kept ((Below.refl _ _).alloc (Nat.le_refl _) (.cells #[.int .i64 (cnt : Int), .map (some W1.heap.size)] 64))
  have hb3 : Below W1.heap.size W1 ((W1.alloc (.map #[] 0)).alloc (.cells #[.int .i64 (cnt : Int), .map (some W1.heap.size)] 64)) := ((Below.refl _ _).alloc (Nat.le_refl _) _).alloc (by simp) _
  have hs3 : ((W1.alloc (.map #[] 0)).alloc (.cells #[.int .i64 (cnt : Int), .map (some W1.heap.size)] 64)).heap.size = W1.heap.size + 2 := by simp
  generalize (W1.alloc (.map #[] 0)).alloc (.cells #[.int .i64 (cnt : Int), .map (some W1.heap.size)] 64) = W3 at *
  generalize hH : W1.heap.size = H at *
  have HJ := Lib.hid (HJ.out.kept (w := W1) (by rw [hH]; exact hb3))
  have HM := Lib.hid (HM.out.kept (w := W1) (by rw [hH]; exact hb3))
  have RC := Lib.hid (RC.out.kept (w := W1) (by rw [hH]; exact hb3))
  have k1 := cell_regrown (show W3.cell? ⟨J, 1, none⟩ = some (.map (some M)) from HJ.out.cell 1)
  have k2 := cell_regrown (show W3.cell? ⟨w.heap.size, 0, none⟩ = some (U32 n) from RC.out.cell 0)
  clear c0 c1 c2
  refine wp_region_mix 7 (by kernel_rfl) (by kernel_rfl) (by kernel_rfl) ?_
  (refine mix_step (by kernel_rfl) (by kernel_rfl) (fun K hK => ?_); go_simp; (try (simp only [↓IntWalk.iteOmega]; go_simp)); (first | (refine hK _ ?_; clear hK K) | (apply Exists.intro; refine ⟨fun _ => ?_, hK _ ?_⟩; (first | fail); clear hK K)))
  (refine mix_step (by kernel_rfl) (by kernel_rfl) (fun K hK => ?_); go_simp; (try (simp only [↓IntWalk.iteOmega]; go_simp)); (first | (refine hK _ ?_; clear hK K) | (apply Exists.intro; refine ⟨fun _ => ?_, hK _ ?_⟩; (first | fail); clear hK K)))
  (refine mix_step (by kernel_rfl) (by kernel_rfl) (fun K hK => ?_); go_simp; (try (simp only [↓IntWalk.iteOmega]; go_simp)); (first | (refine hK _ ?_; clear hK K) | (apply Exists.intro; refine ⟨fun _ => ?_, hK _ ?_⟩; (first | fail); clear hK K)))
  (refine mix_step (by kernel_rfl) (by kernel_rfl) (fun K hK => ?_); go_simp; (try (simp only [↓IntWalk.iteOmega]; go_simp)); (first | (refine hK _ ?_; clear hK K) | (apply Exists.intro; refine ⟨fun _ => ?_, hK _ ?_⟩; (first | fail); clear hK K)))
  (refine mix_step (by kernel_rfl) (by kernel_rfl) (fun K hK => ?_); go_simp; (try (simp only [↓IntWalk.iteOmega]; go_simp)); (first | (refine hK _ ?_; clear hK K) | (apply Exists.intro; refine ⟨fun _ => ?_, hK _ ?_⟩; (first | fail); clear hK K)))
  (refine mix_step (by kernel_rfl) (by kernel_rfl) (fun K hK => ?_); go_simp; (try (simp only [↓IntWalk.iteOmega]; go_simp)); (first | (refine hK _ ?_; clear hK K) | (apply Exists.intro; refine ⟨fun _ => ?_, hK _ ?_⟩; (first | fail); clear hK K)))
  (refine mix_step (by kernel_rfl) (by kernel_rfl) (fun K hK => ?_); go_simp; (try (simp only [↓IntWalk.iteOmega]; go_simp)); (first | (refine hK _ ?_; clear hK K) | (apply Exists.intro; refine ⟨fun _ => ?_, hK _ ?_⟩; (first | fail); clear hK K)))
  refine mix_nil ?_
  rintro ⟨dq, osq⟩
  have hbq := below_regrown W3 dq osq
  have HJ := Lib.hid (HJ.out.kept hbq)
  have HM := Lib.hid (HM.out.kept hbq)
  have RC := Lib.hid (RC.out.kept hbq)
  have RT := Lib.hid (RT3.out.kept hbq)
  have HP := Lib.hid (HP3.out.kept hbq)
  have hs4 := hbq.size
  have hb4 : Below H W1 (grow (redrawn W3 dq) osq) := hb3.trans (hbq.mono (by omega))
  generalize grow (redrawn W3 dq) osq = W4 at *
  clear k1 k2 hbq hb3 RT3 HP3
  refine (show wpList _ _ _ _ _ _ from ?_)
  simp only [List.drop, Act.put, List.setIfInBounds_toArray, List.set]
  obtain ⟨W5, hup, HM5, hoth5, hsz5, hb5⟩ := run_update_new (P := Try.prog) (t := 40) (k := U32 n) Try.underlying40 Try.underlying28 HM.out (isKey32 n) HKS.out HK.out (.pointer (some ⟨H + 1, 0, none⟩))
  have HJ5 : Hid (RowIs W5 J 42 #[ord, .map (some M)]) := (hoth5 J (row_map HJ.out HM.out)).trans HJ.out
  have RC5 : Hid (RowIs W5 w.heap.size 57 #[U32 n, .int .i64 (at' : Int), .int .i64 (cnt : Int), .string body]) := (hoth5 _ (row_map RC.out HM.out)).trans RC.out
  have RT5 : Hid (RowIs W5 (H + 1) 64 #[.int .i64 (cnt : Int), .map (some H)]) := (hoth5 _ (by omega)).trans RT.out
  have HP5 : Hid (MapIs W5 H []) := HP.out.same (hoth5 _ (by omega))
  have HM5 := Lib.hid HM5
  have HS5 : Hid (∀ j, j < H → j ≠ M → W5.heap[j]? = W1.heap[j]?) := fun j hj hjM => (hoth5 j hjM).trans (hb4.block j hj)
  have hb5' : Below B W1 W5 := (hb4.mono (by omega)).trans (hb5 B hBM)
  have HO5 : Hid (W5.ownsRow B 28 1 ord l.length (l.map fun t => U32 t.n)) := own_same HO.out (fun k hk => HS5.out k (by rw [← hH]; exact own_lt HO.out hk) (fun e => map_own (HM1.out) HO.out (by rw [hk, e])))
  clear hoth5 hb5 hb4 HJ HM RC RT HP
  go_upto_region 10 with fail
  have HCASE : (ord = .slice none 0 0 ∨ ∃ g cap, ord = .slice (some ⟨g, 0, none⟩) l.length cap ∧ cap < l.length + 1) ∨ ∃ g cap cs0, ord = .slice (some ⟨g, 0, none⟩) l.length cap ∧ RowIs W5 g 28 cs0 ∧ l.length + 1 ≤ cap ∧ cs0.size = cap := by
    rcases HO5.out.2 with h | ⟨g, cap, cur, e, _, hgr, _, _, hcs, _⟩
    · exact .inl (.inl h.1)
    · rcases Nat.lt_or_ge cap (l.length + 1) with hc | hc
      · exact .inl (.inr ⟨g, cap, e, hc⟩)
      · exact .inr ⟨g, cap, cur, e, hgr, hc, by rw [hcs, Nat.mul_one]⟩
  rcases HCASE with hcase | ⟨g, cap, cs0, rfl, hgr, hfit, hcs⟩
  · have HCS := Lib.hid hcase
    clear hcase
    have k1 := cell_regrown (show W5.cell? ⟨J, 0, none⟩ = some ord from HJ5.out.cell 0)
    have k2 := cell_regrown (show W5.cell? ⟨w.heap.size, 0, none⟩ = some (U32 n) from RC5.out.cell 0)
    refine wp_region_mix 9 (by kernel_rfl) (by kernel_rfl) (by kernel_rfl) ?_
    (refine mix_step (by kernel_rfl) (by kernel_rfl) (fun K hK => ?_); go_simp; (try (simp only [↓IntWalk.iteOmega]; go_simp)); (first | (refine hK _ ?_; clear hK K) | (apply Exists.intro; refine ⟨fun _ => ?_, hK _ ?_⟩; (first | fail); clear hK K)))
    (refine mix_step (by kernel_rfl) (by kernel_rfl) (fun K hK => ?_); go_simp; (try (simp only [↓IntWalk.iteOmega]; go_simp)); (first | (refine hK _ ?_; clear hK K) | (apply Exists.intro; refine ⟨fun _ => ?_, hK _ ?_⟩; (first | fail); clear hK K)))
    (refine mix_step (by kernel_rfl) (by kernel_rfl) (fun K hK => ?_); go_simp; (try (simp only [↓IntWalk.iteOmega]; go_simp)); (first | (refine hK _ ?_; clear hK K) | (apply Exists.intro; refine ⟨fun _ => ?_, hK _ ?_⟩; (first | fail); clear hK K)))
    (refine mix_step (by kernel_rfl) (by kernel_rfl) (fun K hK => ?_); go_simp; (try (simp only [↓IntWalk.iteOmega]; go_simp)); (first | (refine hK _ ?_; clear hK K) | (apply Exists.intro; refine ⟨fun _ => ?_, hK _ ?_⟩; (first | fail); clear hK K)))
    (refine mix_step (by kernel_rfl) (by kernel_rfl) (fun K hK => ?_); go_simp; (try (simp only [↓IntWalk.iteOmega]; go_simp)); (first | (refine hK _ ?_; clear hK K) | (apply Exists.intro; refine ⟨fun _ => ?_, hK _ ?_⟩; (first | fail); clear hK K)))
    (refine mix_step (by kernel_rfl) (by kernel_rfl) (fun K hK => ?_); go_simp; (try (simp only [↓IntWalk.iteOmega]; go_simp)); (first | (refine hK _ ?_; clear hK K) | (apply Exists.intro; refine ⟨fun _ => ?_, hK _ ?_⟩; (first | fail); clear hK K)))
    (refine mix_step (by kernel_rfl) (by kernel_rfl) (fun K hK => ?_); go_simp; (try (simp only [↓IntWalk.iteOmega]; go_simp)); (first | (refine hK _ ?_; clear hK K) | (apply Exists.intro; refine ⟨fun _ => ?_, hK _ ?_⟩; (first | fail); clear hK K)))
    refine mix_special _ 62 rfl rfl (stable_row _ _ _ _) (owes_buildSlice (cells := #[U32 n]) rfl (by simp) Try.underlying39 (sz := 1) (z := .int .u32 0) (by kernel_rfl) (by decide) (by decide) (by kernel_rfl)) ?_
    refine mix_special _ 63 rfl rfl (stable_app _ _ _ _) (owes_append_new (B := W5.heap.size) (base := B) (t := 39) (e := 28) (v := U32 n) (bytes := 4) rfl rfl (by simp) (by simp) Try.underlying39 hi.out hz.out hz1.out hz2.out (by decide) hz3.out rfl HO5.out (by omega) HCS.out) ?_
    refine mix_nil ?_
    rintro ⟨dq, osq⟩ u62 - u63 ⟨g, cap, rfl, hown⟩
    have hbq := below_regrown W5 dq osq
    have HS6 : Hid (∀ j, j < H → j ≠ M → ord.ownBlock ≠ some j → (grow (redrawn W5 dq) osq).heap[j]? = W1.heap[j]?) := fun j hj hjM _ => (hbq.block j (by omega)).trans (HS5.out j hj hjM)
    have HJ6 := Lib.hid (HJ5.out.kept hbq)
    have HM6 := Lib.hid (HM5.out.kept hbq)
    have RT6 := Lib.hid (RT5.out.kept hbq)
    have HP6 := Lib.hid (HP5.out.kept hbq)
    have hb6 := hb5'.trans (hbq.mono (show B ≤ W5.heap.size by omega))
    have HO6 : Hid ((grow (redrawn W5 dq) osq).ownsRow B 28 1 (.slice (some ⟨g, 0, none⟩) (l.length + 1) cap) (l.length + 1) ((l.map fun t => U32 t.n) ++ [U32 n])) := own_base hown (by omega)
    generalize grow (redrawn W5 dq) osq = W6 at *
    clear k1 k2 hbq hown
    refine (show wpList _ _ _ _ _ _ from ?_)
    simp only [List.drop, Act.put, List.setIfInBounds_toArray, List.set]
    go_wp2_with ((with_reducible refine at_store 39 (.tmp 65) (.tmp 63) ?_); refine wpList_store_cell rfl 39 (.tmp 65) (.tmp 63) rfl J 0 _ rfl rfl 42 _ HJ6.out (by simp) (by kernel_rfl) rfl B hBJ ?_)
    intro W7 hJ7 hoth7 hsz7 hb7
    have HF := Lib.hid (join_add ⟨n, cnt, [], H + 1, H⟩ HJo.out HJ1.out HM1.out HO1.out hn.out hH (by show H ≤ H + 1; omega) (Nat.le_refl _) hJ7 HM6.out RT6.out HP6.out HO6.out HS6.out hoth7 rfl)
    have HOF := Lib.hid (HOT.out.trans (Others.of_add HJ1.out HM1.out HO1.out hH HS6.out hoth7))
    have hbW7 := hbB.trans (hb6.trans hb7)
    clear hJ7 hoth7 hsz7 hb7
    go_wp2_with fail
    go_ret
    exact ⟨_, rfl, rfl, rfl, rfl, HF.out, hbW7, HOF.out⟩
  · have HGR := Lib.hid hgr
    clear hgr
    have hg5 := HGR.out.lt
    have hJg : J ≠ g := row_row HJ5.out HGR.out (by decide)
    have hCg : w.heap.size ≠ g := row_row RC5.out HGR.out (by decide)
    refine wp_region_mixL (wle_ok g [(l.length, U32 n)]) 9 (by kernel_rfl) (by kernel_rfl) (by kernel_rfl) ?_
    (refine mix_stepP (by kernel_rfl) (by kernel_rfl) (fun K hK => ?_); go_simp; (try (simp only [↓IntWalk.iteOmega]; go_simp)); (first | (refine hK _ ?_; clear hK K) | (apply Exists.intro; refine ⟨fun _ => ?_, hK _ ?_⟩; (first | fail); clear hK K)))
    (refine mix_stepP (by kernel_rfl) (by kernel_rfl) (fun K hK => ?_); go_simp; (try (simp only [↓IntWalk.iteOmega]; go_simp)); (first | (refine hK _ ?_; clear hK K) | (apply Exists.intro; refine ⟨fun _ => ?_, hK _ ?_⟩; (first | fail); clear hK K)))
    (refine mix_stepP (by kernel_rfl) (by kernel_rfl) (fun K hK => ?_); go_simp; (try (simp only [↓IntWalk.iteOmega]; go_simp)); (first | (refine hK _ ?_; clear hK K) | (apply Exists.intro; refine ⟨fun _ => ?_, hK _ ?_⟩; (first | fail); clear hK K)))
    (refine mix_stepP (by kernel_rfl) (by kernel_rfl) (fun K hK => ?_); go_simp; (try (simp only [↓IntWalk.iteOmega]; go_simp)); (first | (refine hK _ ?_; clear hK K) | (apply Exists.intro; refine ⟨fun _ => ?_, hK _ ?_⟩; (first | fail); clear hK K)))
    refine mix_exact (.slice (some ⟨g, 0, none⟩) l.length cap) rfl (exact_load_cell (wle_ok g _) (b := J) (k := 0) rfl rfl (by simp) (fun w' hw => by rw [RowIs.cell (below_regrown_wle hw HJ5.out hJg)]; rfl) Try.underlying39 rfl) ?_
    simp only [Act.put, List.setIfInBounds_toArray, List.set]
    (refine mix_stepP (by kernel_rfl) (by kernel_rfl) (fun K hK => ?_); go_simp; (try (simp only [↓IntWalk.iteOmega]; go_simp)); (first | (refine hK _ ?_; clear hK K) | (apply Exists.intro; refine ⟨fun _ => ?_, hK _ ?_⟩; (first | fail); clear hK K)))
    refine mix_exact (U32 n) rfl (exact_load_cell (wle_ok g _) (b := w.heap.size) (k := 0) rfl rfl (by simp) (fun w' hw => by rw [RowIs.cell (below_regrown_wle hw RC5.out hCg)]; rfl) Try.underlying28 rfl) ?_
    simp only [Act.put, List.setIfInBounds_toArray, List.set]
    refine mix_special _ 62 rfl rfl (stable_row_wle _ _ _ hg5) (owes_buildSliceL (wle_ok g _) (fun _ _ h => wle_of_below h) (cells := #[U32 n]) rfl (by simp) Try.underlying39 (sz := 1) (z := .int .u32 0) (by kernel_rfl) (by decide) (by decide) (by kernel_rfl)) ?_
    refine mix_special _ 63 rfl rfl stable_room (owes_append_room (B := W5.heap.size) (t := 39) (e := 28) (v := U32 n) rfl rfl (by simp) (by simp) Try.underlying39 hi.out hz1.out rfl HGR.out hfit hcs) ?_
    refine mix_nilL ?_
    rintro W6 hle hFF u62 - u63 ⟨rfl, hst⟩
    have HS6 : Hid (∀ j, j < H → j ≠ M → (Value.slice (some ⟨g, 0, none⟩) l.length cap).ownBlock ≠ some j → W6.heap[j]? = W1.heap[j]?) := fun j hj hjM hjo => (hle.1.block j (by omega) (fun e => hjo (by cases e; rfl))).trans (HS5.out j hj hjM)
    have HJ6 : Hid (RowIs W6 J 42 #[.slice (some ⟨g, 0, none⟩) l.length cap, .map (some M)]) := below_regrown_wle hle HJ5.out hJg
    have HM6 : Hid (MapIs W6 M _) := HM5.out.same (hle.1.block _ HM5.out.lt (fun e => row_map HGR.out HM5.out (by cases e; rfl)))
    have RT6 : Hid (RowIs W6 (H + 1) 64 _) := below_regrown_wle hle RT5.out (row_row RT5.out HGR.out (by decide))
    have HP6 : Hid (MapIs W6 H []) := HP5.out.same (hle.1.block _ HP5.out.lt (fun e => row_map HGR.out HP5.out (by cases e; rfl)))
    have hBg : B ≤ g := own_ge HO5.out rfl
    have hb6 := hb5'.trans (below_of_wle hle (show B ≤ W5.heap.size by omega) hBg)
    have HO6 : Hid (W6.ownsRow B 28 1 (.slice (some ⟨g, 0, none⟩) (l.length + 1) cap) (l.length + 1) ((l.map fun t => U32 t.n) ++ [U32 n])) := owns_room HO5.out hfit hle ⟨_, hst⟩
    clear hle hFF hst
    refine (show wpList _ _ _ _ _ _ from ?_)
    simp only [List.drop, Act.put, List.setIfInBounds_toArray, List.set]
    go_wp2_with ((with_reducible refine at_store 39 (.tmp 65) (.tmp 63) ?_); refine wpList_store_cell rfl 39 (.tmp 65) (.tmp 63) rfl J 0 _ rfl rfl 42 _ HJ6.out (by simp) (by kernel_rfl) rfl B hBJ ?_)
    intro W7 hJ7 hoth7 hsz7 hb7
    have HF := Lib.hid (join_add ⟨n, cnt, [], H + 1, H⟩ HJo.out HJ1.out HM1.out HO1.out hn.out hH (by show H ≤ H + 1; omega) (Nat.le_refl _) hJ7 HM6.out RT6.out HP6.out HO6.out HS6.out hoth7 rfl)
    have HOF := Lib.hid (HOT.out.trans (Others.of_add HJ1.out HM1.out HO1.out hH HS6.out hoth7))
    have hbW7 := hbB.trans (hb6.trans hb7)
    clear hJ7 hoth7 hsz7 hb7
    go_wp2_with fail
    go_ret
    exact ⟨_, rfl, rfl, rfl, rfl, HF.out, hbW7, HOF.out⟩

set_option maxRecDepth 20000 in
set_option maxHeartbeats 4000000 in
theorem open_full (B J n cnt at' : Nat) (body : ByteArray) (t0 : Tx) (l : List Tx) (w : World) (h : JoinIs B J w (t0 :: l)) (hn : ∀ u ∈ t0 :: l, u.n ≠ n) (h7 : l.length = 7) :
    Calls Try.prog 17 #[.pointer (some ⟨J, 0, none⟩), .agg #[U32 n, .int .i64 (at' : Int), .int .i64 (cnt : Int), .string body]] w fun e w' => ∃ t : Tx, e = .returned (.pointer (some ⟨t.tb, 0, none⟩)) ∧ t.n = n ∧ t.cnt = cnt ∧ t.parts = [] ∧ JoinIs B J w' (l ++ [t]) ∧ Below B w w' ∧ Others w w' := by
  have hnn : ¬ RowIs w J 42 #[.slice none 0 0, .map none] := fun e => by
    obtain ⟨ord, mv, hJ, hBJ, hown, _⟩ := h
    obtain ⟨g, cap, rfl, _⟩ := first_cell hown h7
    have e1 := e.symm.trans hJ
    simp at e1
  obtain ⟨ti, tz, hi, hz, hz1, hz2, hz3⟩ := info_u32
  have hi := Lib.hid hi
  have hz := Lib.hid hz
  have hz1 := Lib.hid hz1
  have hz2 := Lib.hid hz2
  have hz3 := Lib.hid hz3
  have hJo0 := h
  obtain ⟨ord, mv, hJ, hBJ, hown, hm, ht, hd1, hd2, hd3⟩ := h
  obtain ⟨Mo, rfl, hBM, hM, hpM⟩ : ∃ Mo, mv = .map (some Mo) ∧ B ≤ Mo ∧ MapIs w Mo ((t0 :: l).map Tx.kv) ∧ ∀ u ∈ t0 :: l, u.pb ≠ Mo := by
    rcases hm with ⟨_, h, _⟩ | h
    · cases h
    · exact h
  have HJo := Lib.hid hJo0
  have HJ := Lib.hid hJ
  have HM := Lib.hid hM
  have HO := Lib.hid hown
  have hJl := hJ.lt
  have hMl := hM.lt
  have hlen : ∀ (w : World) (ty : TypeId), (Builtin.len_ #[39] ty #[ord]).run Try.prog w = .ok (.int .i64 8) w := fun w ty => by
    rcases hown.2 with ⟨rfl, h0⟩ | ⟨g, cap, cur, rfl, _⟩
    · simp at h0
    · simp only [List.length_cons, h7]; rfl
  have HK : Hid (∀ q ∈ (t0 :: l).map Tx.kv, q.1 ≠ U32 n) := fun q hq e => by
    obtain ⟨u, hu, rfl⟩ := List.mem_map.1 hq
    have e : U32 u.n = U32 n := e
    simp only [U32, Value.int.injEq, true_and] at e
    exact hn u hu (by omega)
  have HKS : Hid (∀ q ∈ (t0 :: l).map Tx.kv, MapKept.IsKey (.int .u32) q.1) := fun q hq => by
    obtain ⟨u, hu, rfl⟩ := List.mem_map.1 hq
    exact isKey32 _
  obtain ⟨g, cap, rfl, hc0, hgl, hcap⟩ := first_cell hown h7
  clear hJ hM hown hm ht hd1 hd2 hd3 hpM hJo0
  have hn := Lib.hid hn
  have hnn := Lib.hid hnn
  go_enter Try.func17, Try.ntmps17
  go_upto_region 1 with fail
  generalize hW : w.alloc _ = W
  have hbA : Below w.heap.size w W := by rw [← hW]; exact (Below.refl _ _).alloc (Nat.le_refl _) _
  have RC : Hid (RowIs W w.heap.size 57 #[U32 n, .int .i64 (at' : Int), .int .i64 (cnt : Int), .string body]) := by show RowIs W w.heap.size 57 #[U32 n, .int .i64 (at' : Int), .int .i64 (cnt : Int), .string body]; rw [← hW]; exact rowIs_new w _ _
  clear hW
  have HJ := Lib.hid (HJ.out.kept hbA)
  have HM := Lib.hid (HM.out.kept hbA)
  have k1 := cell_regrown (show W.cell? ⟨J, 1, none⟩ = some (.map (some Mo)) from HJ.out.cell 1)
  have k2 := cell_regrown (show W.cell? ⟨w.heap.size, 0, none⟩ = some (U32 n) from RC.out.cell 0)
  have hzs : ∀ w : World, (zeroValue 60).run Try.prog w = .ok (.pointer none) w := fun w => by go_simp
  have hlk := fun (p : Regrown) => run_lookup_miss (P := Try.prog) (t := 40) (k := U32 n) Try.underlying40 Try.underlying28 (HM.out.kept (below_regrown W p.d p.os)) (isKey32 n) HKS.out HK.out _ (hzs _) true
  simp only [if_true] at hlk
  refine wp_region_mix 11 (by kernel_rfl) (by kernel_rfl) (by kernel_rfl) ?_
  (refine mix_step (by kernel_rfl) (by kernel_rfl) (fun K hK => ?_); go_simp; (try (simp only [↓IntWalk.iteOmega]; go_simp)); (first | (refine hK _ ?_; clear hK K) | (apply Exists.intro; refine ⟨fun _ => ?_, hK _ ?_⟩; (first | fail); clear hK K)))
  (refine mix_step (by kernel_rfl) (by kernel_rfl) (fun K hK => ?_); go_simp; (try (simp only [↓IntWalk.iteOmega]; go_simp)); (first | (refine hK _ ?_; clear hK K) | (apply Exists.intro; refine ⟨fun _ => ?_, hK _ ?_⟩; (first | fail); clear hK K)))
  (refine mix_step (by kernel_rfl) (by kernel_rfl) (fun K hK => ?_); go_simp; (try (simp only [↓IntWalk.iteOmega]; go_simp)); (first | (refine hK _ ?_; clear hK K) | (apply Exists.intro; refine ⟨fun _ => ?_, hK _ ?_⟩; (first | fail); clear hK K)))
  (refine mix_step (by kernel_rfl) (by kernel_rfl) (fun K hK => ?_); go_simp; (try (simp only [↓IntWalk.iteOmega]; go_simp)); (first | (refine hK _ ?_; clear hK K) | (apply Exists.intro; refine ⟨fun _ => ?_, hK _ ?_⟩; (first | fail); clear hK K)))
  (refine mix_step (by kernel_rfl) (by kernel_rfl) (fun K hK => ?_); go_simp; (try (simp only [↓IntWalk.iteOmega]; go_simp)); (first | (refine hK _ ?_; clear hK K) | (apply Exists.intro; refine ⟨fun _ => ?_, hK _ ?_⟩; (first | fail); clear hK K)))
  (refine mix_step (by kernel_rfl) (by kernel_rfl) (fun K hK => ?_); go_simp; (try (simp only [↓IntWalk.iteOmega]; go_simp)); (first | (refine hK _ ?_; clear hK K) | (apply Exists.intro; refine ⟨fun _ => ?_, hK _ ?_⟩; (first | fail); clear hK K)))
  (refine mix_step (by kernel_rfl) (by kernel_rfl) (fun K hK => ?_); go_simp; (try (simp only [↓IntWalk.iteOmega]; go_simp)); (first | (refine hK _ ?_; clear hK K) | (apply Exists.intro; refine ⟨fun _ => ?_, hK _ ?_⟩; (first | fail); clear hK K)))
  (refine mix_step (by kernel_rfl) (by kernel_rfl) (fun K hK => ?_); go_simp; (try (simp only [↓IntWalk.iteOmega]; go_simp)); (first | (refine hK _ ?_; clear hK K) | (apply Exists.intro; refine ⟨fun _ => ?_, hK _ ?_⟩; (first | fail); clear hK K)))
  (refine mix_step (by kernel_rfl) (by kernel_rfl) (fun K hK => ?_); go_simp; (try (simp only [↓IntWalk.iteOmega]; go_simp)); (first | (refine hK _ ?_; clear hK K) | (apply Exists.intro; refine ⟨fun _ => ?_, hK _ ?_⟩; (first | fail); clear hK K)))
  (refine mix_step (by kernel_rfl) (by kernel_rfl) (fun K hK => ?_); go_simp; (try (simp only [↓IntWalk.iteOmega]; go_simp)); (first | (refine hK _ ?_; clear hK K) | (apply Exists.intro; refine ⟨fun _ => ?_, hK _ ?_⟩; (first | fail); clear hK K)))
  (refine mix_step (by kernel_rfl) (by kernel_rfl) (fun K hK => ?_); go_simp; (try (simp only [↓IntWalk.iteOmega]; go_simp)); (first | (refine hK _ ?_; clear hK K) | (apply Exists.intro; refine ⟨fun _ => ?_, hK _ ?_⟩; (first | fail); clear hK K)))
  refine mix_nil ?_
  rintro ⟨dq, osq⟩
  have hbq := below_regrown W dq osq
  have HJ := Lib.hid (HJ.out.kept hbq)
  have HM := Lib.hid (HM.out.kept hbq)
  have RC := Lib.hid (RC.out.kept hbq)
  have hbW := hbA.trans (hbq.mono hbA.size)
  have HJo := Lib.hid (HJo.out.later hbW)
  have HO := Lib.hid (owns_later HO.out hbW)
  have HOT := Lib.hid (Others.of_below hbW)
  generalize grow (redrawn W dq) osq = W0 at *
  clear k1 k2 hbq hbA hlk hzs
  refine (show wpList _ _ _ _ _ _ from ?_)
  simp only [List.drop, Act.put, List.setIfInBounds_toArray, List.set]
  have hwW := hbW.size
  have hq : ∀ w : World, (binOp .eql 40 (.map (some Mo)) (.map none)).run Try.prog w = .ok (.bool false) w := fun w => by kernel_rfl
  have c1 : W0.cell? ⟨J, 1, none⟩ = some (.map (some Mo)) := HJ.out.cell 1
  have c0 : W0.cell? ⟨J, 0, none⟩ = some (.slice (some ⟨g, 0, none⟩) 8 cap) := HJ.out.cell 0
  have hbB := hbW.mono (show B ≤ w.heap.size by omega)
  have c2 : W0.cell? ⟨g, 0, none⟩ = some (U32 t0.n) := (hbW.cell (p := ⟨g, 0, none⟩) hgl).trans hc0
  have HD := Lib.hid (drop_any B J [] l t0 W0 HJo.out (by simp; omega))
  clear hc0 HO HM
  go_upto_region 7 with fail
  go_wp2_with fail
  refine HD.out.mono ?_
  rintro e W1 ⟨rfl, hJo1, hbd, hot⟩
  have RC : Hid (RowIs W1 w.heap.size 57 #[U32 n, .int .i64 (at' : Int), .int .i64 (cnt : Int), .string body]) := hot _ _ _ RC.out (by decide) (by decide) (by decide)
  have HOT := Lib.hid (HOT.out.trans hot)
  have hbB := hbB.trans hbd
  have HJo : Hid (JoinIs B J W1 l) := hJo1
  have hn : Hid (∀ u ∈ l, u.n ≠ n) := fun u hu => hn.out u (List.mem_cons_of_mem _ hu)
  clear hJo1 hbd hot HD HJ c0 c1 c2 HK HKS hbW hgl hlen
  have hwW : w.heap.size ≤ W1.heap.size := Nat.le_of_lt RC.out.lt
  have hJo := HJo.out
  obtain ⟨ord, mv, hJ, hBJ2, hown, hm, ht, hx1, hx2, hx3⟩ := hJo
  obtain ⟨M, rfl, hBM, hM, _⟩ : ∃ M, mv = .map (some M) ∧ B ≤ M ∧ MapIs W1 M (l.map Tx.kv) ∧ ∀ u ∈ l, u.pb ≠ M := by
    rcases hm with ⟨_, rfl, _⟩ | h
    · simp at h7
    · exact h
  have HJ := Lib.hid hJ
  have HM := Lib.hid hM
  have HO := Lib.hid hown
  clear hJ hM hown hm ht
  clear hx1 hx2 hx3 hBJ2
  have HK : Hid (∀ q ∈ l.map Tx.kv, q.1 ≠ U32 n) := fun q hq e => by
    obtain ⟨u, hu, rfl⟩ := List.mem_map.1 hq
    have e : U32 u.n = U32 n := e
    simp only [U32, Value.int.injEq, true_and] at e
    exact hn.out u hu (by omega)
  have HKS : Hid (∀ q ∈ l.map Tx.kv, MapKept.IsKey (.int .u32) q.1) := fun q hq => by
    obtain ⟨u, hu, rfl⟩ := List.mem_map.1 hq
    exact isKey32 _
  have c0 : W1.cell? ⟨J, 0, none⟩ = some ord := HJ.out.cell 0
  have c1 : W1.cell? ⟨J, 1, none⟩ = some (.map (some M)) := HJ.out.cell 1
  have HJ1 := HJ
  have HM1 := HM
  have HO1 := HO
  have h8 : l.length < 8 := by omega
  clear h7
  have hmk2 : ∀ w : World, (Instr.makeMap 62 none).run Try.prog w = .ok (.map (some w.heap.size)) (w.alloc (.map #[] 0)) := fun w => run_makeMap 62 w
  have c2 : W1.cell? ⟨w.heap.size, 2, none⟩ = some (.int .i64 (cnt : Int)) := RC.out.cell 2
  have hMl := HM.out.lt
  have hJl1 := HJ.out.lt
  go_upto_region 9 with fail
  have RT3 : Hid (RowIs ((W1.alloc (.map #[] 0)).alloc (.cells #[.int .i64 (cnt : Int), .map (some W1.heap.size)] 64)) (W1.heap.size + 1) 64 #[.int .i64 (cnt : Int), .map (some W1.heap.size)]) := rowIs_new1 W1 (.map #[] 0) 64 #[.int .i64 (cnt : Int), .map (some W1.heap.size)]
  have HP3 : Hid (MapIs ((W1.alloc (.map #[] 0)).alloc (.cells #[.int .i64 (cnt : Int), .map (some W1.heap.size)] 64)) W1.heap.size []) := (mapIs_new W1).kept ((Below.refl _ _).alloc (Nat.le_refl _) (.cells #[.int .i64 (cnt : Int), .map (some W1.heap.size)] 64))
  have hb3 : Below W1.heap.size W1 ((W1.alloc (.map #[] 0)).alloc (.cells #[.int .i64 (cnt : Int), .map (some W1.heap.size)] 64)) := ((Below.refl _ _).alloc (Nat.le_refl _) _).alloc (by simp) _
  have hs3 : ((W1.alloc (.map #[] 0)).alloc (.cells #[.int .i64 (cnt : Int), .map (some W1.heap.size)] 64)).heap.size = W1.heap.size + 2 := by simp
  generalize (W1.alloc (.map #[] 0)).alloc (.cells #[.int .i64 (cnt : Int), .map (some W1.heap.size)] 64) = W3 at *
  generalize hH : W1.heap.size = H at *
  have HJ := Lib.hid (HJ.out.kept (w := W1) (by rw [hH]; exact hb3))
  have HM := Lib.hid (HM.out.kept (w := W1) (by rw [hH]; exact hb3))
  have RC := Lib.hid (RC.out.kept (w := W1) (by rw [hH]; exact hb3))
  have k1 := cell_regrown (show W3.cell? ⟨J, 1, none⟩ = some (.map (some M)) from HJ.out.cell 1)
  have k2 := cell_regrown (show W3.cell? ⟨w.heap.size, 0, none⟩ = some (U32 n) from RC.out.cell 0)
  clear c0 c1 c2
  refine wp_region_mix 7 (by kernel_rfl) (by kernel_rfl) (by kernel_rfl) ?_
  (refine mix_step (by kernel_rfl) (by kernel_rfl) (fun K hK => ?_); go_simp; (try (simp only [↓IntWalk.iteOmega]; go_simp)); (first | (refine hK _ ?_; clear hK K) | (apply Exists.intro; refine ⟨fun _ => ?_, hK _ ?_⟩; (first | fail); clear hK K)))
  (refine mix_step (by kernel_rfl) (by kernel_rfl) (fun K hK => ?_); go_simp; (try (simp only [↓IntWalk.iteOmega]; go_simp)); (first | (refine hK _ ?_; clear hK K) | (apply Exists.intro; refine ⟨fun _ => ?_, hK _ ?_⟩; (first | fail); clear hK K)))
  (refine mix_step (by kernel_rfl) (by kernel_rfl) (fun K hK => ?_); go_simp; (try (simp only [↓IntWalk.iteOmega]; go_simp)); (first | (refine hK _ ?_; clear hK K) | (apply Exists.intro; refine ⟨fun _ => ?_, hK _ ?_⟩; (first | fail); clear hK K)))
  (refine mix_step (by kernel_rfl) (by kernel_rfl) (fun K hK => ?_); go_simp; (try (simp only [↓IntWalk.iteOmega]; go_simp)); (first | (refine hK _ ?_; clear hK K) | (apply Exists.intro; refine ⟨fun _ => ?_, hK _ ?_⟩; (first | fail); clear hK K)))
  (refine mix_step (by kernel_rfl) (by kernel_rfl) (fun K hK => ?_); go_simp; (try (simp only [↓IntWalk.iteOmega]; go_simp)); (first | (refine hK _ ?_; clear hK K) | (apply Exists.intro; refine ⟨fun _ => ?_, hK _ ?_⟩; (first | fail); clear hK K)))
  (refine mix_step (by kernel_rfl) (by kernel_rfl) (fun K hK => ?_); go_simp; (try (simp only [↓IntWalk.iteOmega]; go_simp)); (first | (refine hK _ ?_; clear hK K) | (apply Exists.intro; refine ⟨fun _ => ?_, hK _ ?_⟩; (first | fail); clear hK K)))
  (refine mix_step (by kernel_rfl) (by kernel_rfl) (fun K hK => ?_); go_simp; (try (simp only [↓IntWalk.iteOmega]; go_simp)); (first | (refine hK _ ?_; clear hK K) | (apply Exists.intro; refine ⟨fun _ => ?_, hK _ ?_⟩; (first | fail); clear hK K)))
  refine mix_nil ?_
  rintro ⟨dq, osq⟩
  have hbq := below_regrown W3 dq osq
  have HJ := Lib.hid (HJ.out.kept hbq)
  have HM := Lib.hid (HM.out.kept hbq)
  have RC := Lib.hid (RC.out.kept hbq)
  have RT := Lib.hid (RT3.out.kept hbq)
  have HP := Lib.hid (HP3.out.kept hbq)
  have hs4 := hbq.size
  have hb4 : Below H W1 (grow (redrawn W3 dq) osq) := hb3.trans (hbq.mono (by omega))
  generalize grow (redrawn W3 dq) osq = W4 at *
  clear k1 k2 hbq hb3 RT3 HP3
  refine (show wpList _ _ _ _ _ _ from ?_)
  simp only [List.drop, Act.put, List.setIfInBounds_toArray, List.set]
  obtain ⟨W5, hup, HM5, hoth5, hsz5, hb5⟩ := run_update_new (P := Try.prog) (t := 40) (k := U32 n) Try.underlying40 Try.underlying28 HM.out (isKey32 n) HKS.out HK.out (.pointer (some ⟨H + 1, 0, none⟩))
  have HJ5 : Hid (RowIs W5 J 42 #[ord, .map (some M)]) := (hoth5 J (row_map HJ.out HM.out)).trans HJ.out
  have RC5 : Hid (RowIs W5 w.heap.size 57 #[U32 n, .int .i64 (at' : Int), .int .i64 (cnt : Int), .string body]) := (hoth5 _ (row_map RC.out HM.out)).trans RC.out
  have RT5 : Hid (RowIs W5 (H + 1) 64 #[.int .i64 (cnt : Int), .map (some H)]) := (hoth5 _ (by omega)).trans RT.out
  have HP5 : Hid (MapIs W5 H []) := HP.out.same (hoth5 _ (by omega))
  have HM5 := Lib.hid HM5
  have HS5 : Hid (∀ j, j < H → j ≠ M → W5.heap[j]? = W1.heap[j]?) := fun j hj hjM => (hoth5 j hjM).trans (hb4.block j hj)
  have hb5' : Below B W1 W5 := (hb4.mono (by omega)).trans (hb5 B hBM)
  have HO5 : Hid (W5.ownsRow B 28 1 ord l.length (l.map fun t => U32 t.n)) := own_same HO.out (fun k hk => HS5.out k (by rw [← hH]; exact own_lt HO.out hk) (fun e => map_own (HM1.out) HO.out (by rw [hk, e])))
  clear hoth5 hb5 hb4 HJ HM RC RT HP
  go_upto_region 10 with fail
  have HCASE : (ord = .slice none 0 0 ∨ ∃ g cap, ord = .slice (some ⟨g, 0, none⟩) l.length cap ∧ cap < l.length + 1) ∨ ∃ g cap cs0, ord = .slice (some ⟨g, 0, none⟩) l.length cap ∧ RowIs W5 g 28 cs0 ∧ l.length + 1 ≤ cap ∧ cs0.size = cap := by
    rcases HO5.out.2 with h | ⟨g, cap, cur, e, _, hgr, _, _, hcs, _⟩
    · exact .inl (.inl h.1)
    · rcases Nat.lt_or_ge cap (l.length + 1) with hc | hc
      · exact .inl (.inr ⟨g, cap, e, hc⟩)
      · exact .inr ⟨g, cap, cur, e, hgr, hc, by rw [hcs, Nat.mul_one]⟩
  rcases HCASE with hcase | ⟨g, cap, cs0, rfl, hgr, hfit, hcs⟩
  · have HCS := Lib.hid hcase
    clear hcase
    have k1 := cell_regrown (show W5.cell? ⟨J, 0, none⟩ = some ord from HJ5.out.cell 0)
    have k2 := cell_regrown (show W5.cell? ⟨w.heap.size, 0, none⟩ = some (U32 n) from RC5.out.cell 0)
    refine wp_region_mix 9 (by kernel_rfl) (by kernel_rfl) (by kernel_rfl) ?_
    (refine mix_step (by kernel_rfl) (by kernel_rfl) (fun K hK => ?_); go_simp; (try (simp only [↓IntWalk.iteOmega]; go_simp)); (first | (refine hK _ ?_; clear hK K) | (apply Exists.intro; refine ⟨fun _ => ?_, hK _ ?_⟩; (first | fail); clear hK K)))
    (refine mix_step (by kernel_rfl) (by kernel_rfl) (fun K hK => ?_); go_simp; (try (simp only [↓IntWalk.iteOmega]; go_simp)); (first | (refine hK _ ?_; clear hK K) | (apply Exists.intro; refine ⟨fun _ => ?_, hK _ ?_⟩; (first | fail); clear hK K)))
    (refine mix_step (by kernel_rfl) (by kernel_rfl) (fun K hK => ?_); go_simp; (try (simp only [↓IntWalk.iteOmega]; go_simp)); (first | (refine hK _ ?_; clear hK K) | (apply Exists.intro; refine ⟨fun _ => ?_, hK _ ?_⟩; (first | fail); clear hK K)))
    (refine mix_step (by kernel_rfl) (by kernel_rfl) (fun K hK => ?_); go_simp; (try (simp only [↓IntWalk.iteOmega]; go_simp)); (first | (refine hK _ ?_; clear hK K) | (apply Exists.intro; refine ⟨fun _ => ?_, hK _ ?_⟩; (first | fail); clear hK K)))
    (refine mix_step (by kernel_rfl) (by kernel_rfl) (fun K hK => ?_); go_simp; (try (simp only [↓IntWalk.iteOmega]; go_simp)); (first | (refine hK _ ?_; clear hK K) | (apply Exists.intro; refine ⟨fun _ => ?_, hK _ ?_⟩; (first | fail); clear hK K)))
    (refine mix_step (by kernel_rfl) (by kernel_rfl) (fun K hK => ?_); go_simp; (try (simp only [↓IntWalk.iteOmega]; go_simp)); (first | (refine hK _ ?_; clear hK K) | (apply Exists.intro; refine ⟨fun _ => ?_, hK _ ?_⟩; (first | fail); clear hK K)))
    (refine mix_step (by kernel_rfl) (by kernel_rfl) (fun K hK => ?_); go_simp; (try (simp only [↓IntWalk.iteOmega]; go_simp)); (first | (refine hK _ ?_; clear hK K) | (apply Exists.intro; refine ⟨fun _ => ?_, hK _ ?_⟩; (first | fail); clear hK K)))
    refine mix_special _ 62 rfl rfl (stable_row _ _ _ _) (owes_buildSlice (cells := #[U32 n]) rfl (by simp) Try.underlying39 (sz := 1) (z := .int .u32 0) (by kernel_rfl) (by decide) (by decide) (by kernel_rfl)) ?_
    refine mix_special _ 63 rfl rfl (stable_app _ _ _ _) (owes_append_new (B := W5.heap.size) (base := B) (t := 39) (e := 28) (v := U32 n) (bytes := 4) rfl rfl (by simp) (by simp) Try.underlying39 hi.out hz.out hz1.out hz2.out (by decide) hz3.out rfl HO5.out (by omega) HCS.out) ?_
    refine mix_nil ?_
    rintro ⟨dq, osq⟩ u62 - u63 ⟨g, cap, rfl, hown⟩
    have hbq := below_regrown W5 dq osq
    have HS6 : Hid (∀ j, j < H → j ≠ M → ord.ownBlock ≠ some j → (grow (redrawn W5 dq) osq).heap[j]? = W1.heap[j]?) := fun j hj hjM _ => (hbq.block j (by omega)).trans (HS5.out j hj hjM)
    have HJ6 := Lib.hid (HJ5.out.kept hbq)
    have HM6 := Lib.hid (HM5.out.kept hbq)
    have RT6 := Lib.hid (RT5.out.kept hbq)
    have HP6 := Lib.hid (HP5.out.kept hbq)
    have hb6 := hb5'.trans (hbq.mono (show B ≤ W5.heap.size by omega))
    have HO6 : Hid ((grow (redrawn W5 dq) osq).ownsRow B 28 1 (.slice (some ⟨g, 0, none⟩) (l.length + 1) cap) (l.length + 1) ((l.map fun t => U32 t.n) ++ [U32 n])) := own_base hown (by omega)
    generalize grow (redrawn W5 dq) osq = W6 at *
    clear k1 k2 hbq hown
    refine (show wpList _ _ _ _ _ _ from ?_)
    simp only [List.drop, Act.put, List.setIfInBounds_toArray, List.set]
    go_wp2_with ((with_reducible refine at_store 39 (.tmp 65) (.tmp 63) ?_); refine wpList_store_cell rfl 39 (.tmp 65) (.tmp 63) rfl J 0 _ rfl rfl 42 _ HJ6.out (by simp) (by kernel_rfl) rfl B hBJ ?_)
    intro W7 hJ7 hoth7 hsz7 hb7
    have HF := Lib.hid (join_add ⟨n, cnt, [], H + 1, H⟩ HJo.out HJ1.out HM1.out HO1.out hn.out hH (by show H ≤ H + 1; omega) (Nat.le_refl _) hJ7 HM6.out RT6.out HP6.out HO6.out HS6.out hoth7 rfl)
    have HOF := Lib.hid (HOT.out.trans (Others.of_add HJ1.out HM1.out HO1.out hH HS6.out hoth7))
    have hbW7 := hbB.trans (hb6.trans hb7)
    clear hJ7 hoth7 hsz7 hb7
    go_wp2_with fail
    go_ret
    exact ⟨_, rfl, rfl, rfl, rfl, HF.out, hbW7, HOF.out⟩
  · have HGR := Lib.hid hgr
    clear hgr
    have hg5 := HGR.out.lt
    have hJg : J ≠ g := row_row HJ5.out HGR.out (by decide)
    have hCg : w.heap.size ≠ g := row_row RC5.out HGR.out (by decide)
    refine wp_region_mixL (wle_ok g [(l.length, U32 n)]) 9 (by kernel_rfl) (by kernel_rfl) (by kernel_rfl) ?_
    (refine mix_stepP (by kernel_rfl) (by kernel_rfl) (fun K hK => ?_); go_simp; (try (simp only [↓IntWalk.iteOmega]; go_simp)); (first | (refine hK _ ?_; clear hK K) | (apply Exists.intro; refine ⟨fun _ => ?_, hK _ ?_⟩; (first | fail); clear hK K)))
    (refine mix_stepP (by kernel_rfl) (by kernel_rfl) (fun K hK => ?_); go_simp; (try (simp only [↓IntWalk.iteOmega]; go_simp)); (first | (refine hK _ ?_; clear hK K) | (apply Exists.intro; refine ⟨fun _ => ?_, hK _ ?_⟩; (first | fail); clear hK K)))
    (refine mix_stepP (by kernel_rfl) (by kernel_rfl) (fun K hK => ?_); go_simp; (try (simp only [↓IntWalk.iteOmega]; go_simp)); (first | (refine hK _ ?_; clear hK K) | (apply Exists.intro; refine ⟨fun _ => ?_, hK _ ?_⟩; (first | fail); clear hK K)))
    (refine mix_stepP (by kernel_rfl) (by kernel_rfl) (fun K hK => ?_); go_simp; (try (simp only [↓IntWalk.iteOmega]; go_simp)); (first | (refine hK _ ?_; clear hK K) | (apply Exists.intro; refine ⟨fun _ => ?_, hK _ ?_⟩; (first | fail); clear hK K)))
    refine mix_exact (.slice (some ⟨g, 0, none⟩) l.length cap) rfl (exact_load_cell (wle_ok g _) (b := J) (k := 0) rfl rfl (by simp) (fun w' hw => by rw [RowIs.cell (below_regrown_wle hw HJ5.out hJg)]; rfl) Try.underlying39 rfl) ?_
    simp only [Act.put, List.setIfInBounds_toArray, List.set]
    (refine mix_stepP (by kernel_rfl) (by kernel_rfl) (fun K hK => ?_); go_simp; (try (simp only [↓IntWalk.iteOmega]; go_simp)); (first | (refine hK _ ?_; clear hK K) | (apply Exists.intro; refine ⟨fun _ => ?_, hK _ ?_⟩; (first | fail); clear hK K)))
    refine mix_exact (U32 n) rfl (exact_load_cell (wle_ok g _) (b := w.heap.size) (k := 0) rfl rfl (by simp) (fun w' hw => by rw [RowIs.cell (below_regrown_wle hw RC5.out hCg)]; rfl) Try.underlying28 rfl) ?_
    simp only [Act.put, List.setIfInBounds_toArray, List.set]
    refine mix_special _ 62 rfl rfl (stable_row_wle _ _ _ hg5) (owes_buildSliceL (wle_ok g _) (fun _ _ h => wle_of_below h) (cells := #[U32 n]) rfl (by simp) Try.underlying39 (sz := 1) (z := .int .u32 0) (by kernel_rfl) (by decide) (by decide) (by kernel_rfl)) ?_
    refine mix_special _ 63 rfl rfl stable_room (owes_append_room (B := W5.heap.size) (t := 39) (e := 28) (v := U32 n) rfl rfl (by simp) (by simp) Try.underlying39 hi.out hz1.out rfl HGR.out hfit hcs) ?_
    refine mix_nilL ?_
    rintro W6 hle hFF u62 - u63 ⟨rfl, hst⟩
    have HS6 : Hid (∀ j, j < H → j ≠ M → (Value.slice (some ⟨g, 0, none⟩) l.length cap).ownBlock ≠ some j → W6.heap[j]? = W1.heap[j]?) := fun j hj hjM hjo => (hle.1.block j (by omega) (fun e => hjo (by cases e; rfl))).trans (HS5.out j hj hjM)
    have HJ6 : Hid (RowIs W6 J 42 #[.slice (some ⟨g, 0, none⟩) l.length cap, .map (some M)]) := below_regrown_wle hle HJ5.out hJg
    have HM6 : Hid (MapIs W6 M _) := HM5.out.same (hle.1.block _ HM5.out.lt (fun e => row_map HGR.out HM5.out (by cases e; rfl)))
    have RT6 : Hid (RowIs W6 (H + 1) 64 _) := below_regrown_wle hle RT5.out (row_row RT5.out HGR.out (by decide))
    have HP6 : Hid (MapIs W6 H []) := HP5.out.same (hle.1.block _ HP5.out.lt (fun e => row_map HGR.out HP5.out (by cases e; rfl)))
    have hBg : B ≤ g := own_ge HO5.out rfl
    have hb6 := hb5'.trans (below_of_wle hle (show B ≤ W5.heap.size by omega) hBg)
    have HO6 : Hid (W6.ownsRow B 28 1 (.slice (some ⟨g, 0, none⟩) (l.length + 1) cap) (l.length + 1) ((l.map fun t => U32 t.n) ++ [U32 n])) := owns_room HO5.out hfit hle ⟨_, hst⟩
    clear hle hFF hst
    refine (show wpList _ _ _ _ _ _ from ?_)
    simp only [List.drop, Act.put, List.setIfInBounds_toArray, List.set]
    go_wp2_with ((with_reducible refine at_store 39 (.tmp 65) (.tmp 63) ?_); refine wpList_store_cell rfl 39 (.tmp 65) (.tmp 63) rfl J 0 _ rfl rfl 42 _ HJ6.out (by simp) (by kernel_rfl) rfl B hBJ ?_)
    intro W7 hJ7 hoth7 hsz7 hb7
    have HF := Lib.hid (join_add ⟨n, cnt, [], H + 1, H⟩ HJo.out HJ1.out HM1.out HO1.out hn.out hH (by show H ≤ H + 1; omega) (Nat.le_refl _) hJ7 HM6.out RT6.out HP6.out HO6.out HS6.out hoth7 rfl)
    have HOF := Lib.hid (HOT.out.trans (Others.of_add HJ1.out HM1.out HO1.out hH HS6.out hoth7))
    have hbW7 := hbB.trans (hb6.trans hb7)
    clear hJ7 hoth7 hsz7 hb7
    go_wp2_with fail
    go_ret
    exact ⟨_, rfl, rfl, rfl, rfl, HF.out, hbW7, HOF.out⟩

end Go.Proofs.Ytdkgjbakbnhmaaa
