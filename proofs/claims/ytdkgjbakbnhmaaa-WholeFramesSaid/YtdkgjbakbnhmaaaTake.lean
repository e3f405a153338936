/- tun.Joiner.Take. By an AI agent. -/
import Derived.Test.YtdkgjbakbnhmaaaOpenThere
namespace Go.Proofs.Ytdkgjbakbnhmaaa
open Go.RowKit Go.Sort Grow

theorem results_three {fn : Func} {t u v : Tmp} (h : fn.results = #[.tmp t, .tmp u, .tmp v]) (tmps : Array Value) (P : Program) (w : World) :
    (results fn tmps).run P w = .ok (.tuple #[tmps.getD t undef, tmps.getD u undef, tmps.getD v undef]) w := by
  simp [results, h]

theorem piece_not {x : Nat} {ps : List (Nat × ByteArray)} (h : ∀ p ∈ ps, p.1 ≠ x) : ∀ q ∈ ps.map pieceKV, q.1 ≠ .int .i64 (x : Int) := fun q hq e => by
  obtain ⟨p, hp, rfl⟩ := List.mem_map.1 hq
  have e : Value.int .i64 (p.1 : Int) = .int .i64 (x : Int) := e
  simp only [Value.int.injEq, true_and] at e
  exact h p hp (by omega)

/-- the first pieces, one behind the other -/
def Tun.cat (val : Nat → ByteArray) : Nat → ByteArray
  | 0 => ⟨#[]⟩
  | k + 1 => Tun.cat val k ++ val k
theorem Tun.cat_size {val : Nat → ByteArray} {m : Nat} : ∀ k, (∀ i, i < k → (val i).size ≤ m) → (Tun.cat val k).size ≤ m * k
  | 0, _ => Nat.zero_le _
  | k + 1, h => by
    have h1 := Tun.cat_size k (fun i hi => h i (by omega))
    have h2 := h k (by omega)
    rw [Tun.cat, ByteArray.size_append, Nat.mul_succ]
    omega

set_option maxRecDepth 20000 in
set_option maxHeartbeats 4000000 in
theorem take_unlike (B J n c x y : Nat) (bd s : ByteArray) (ps : List (Nat × ByteArray)) (A1 A2 : List Ab) (w : World) (hBw : B ≤ w.heap.size) (hlen : ps.length ≤ 3) (hy : y ≤ 3) (hc : c ≤ 3)
    (HREAD : ∀ w, Calls Try.prog 16 #[.string s] w fun e w' => e = .returned (.tuple #[.agg #[U32 n, .int .i64 (x : Nat), .int .i64 (y : Nat), .string bd], .bool true, .int .i64 0]) ∧ Below w.heap.size w w')
    (HOPEN : ∀ w0, Below w.heap.size w w0 → Calls Try.prog 17 #[.pointer (some ⟨J, 0, none⟩), .agg #[U32 n, .int .i64 (x : Nat), .int .i64 (y : Nat), .string bd]] w0 fun e w' => ∃ (l1 : List Tx) (t : Tx) (l2 : List Tx), e = .returned (.pointer (some ⟨t.tb, 0, none⟩)) ∧ JoinIs B J w' (l1 ++ t :: l2) ∧ l1.map Tx.ab = A1 ∧ l2.map Tx.ab = A2 ∧ t.n = n ∧ t.cnt = c ∧ t.parts = ps ∧ Below B w0 w' ∧ Others w0 w') (hcy : c ≠ y) :
    Calls Try.prog 8 #[.pointer (some ⟨J, 0, none⟩), .string s] w fun e w' => e = .returned (.tuple #[.string ⟨#[]⟩, .bool false, .int .i64 3]) ∧ JIs B J w' (A1 ++ (n, c, ps) :: A2) ∧ Below B w w' ∧ Others w w' := by
  go_enter Try.func8, Try.ntmps8
  go_wp2_with fail
  refine (HREAD _).mono ?_
  rintro e w1 ⟨rfl, hb1⟩
  go_wp2_with ((with_reducible refine at_store 57 (.tmp 7) (.tmp 20) ?_); refine wpList_store_own rfl 57 (.tmp 7) (.tmp 20) rfl w1.heap.size _ rfl rfl _ _ (rowIs_new _ _ _) info_piece rfl (by kernel_rfl) w1.heap.size (Nat.le_refl _) ?_)
  intro w2 r2 _ hs2 hb2
  have hb2 := (show Below w1.heap.size w1 w2 from ((Below.refl _ _).alloc (Nat.le_refl _) _).trans hb2)
  have RP := Lib.hid r2
  have hbw2 := hb1.trans (hb2.mono hb1.size)
  have hw1 := hb1.size
  clear r2 hs2 hb1 hb2
  generalize w1.heap.size = pb at *
  go_wp2_with ((with_reducible refine at_load 57 (.tmp 7) ?_); refine wpList_load_own rfl 57 (.tmp 7) rfl _ rfl _ _ _ RP.out Try.underlying57 rfl info_piece ?_)
  have HO := Lib.hid (HOPEN w2 hbw2)
  clear HOPEN HREAD
  refine HO.out.mono ?_
  rintro e w3 ⟨l1, t, l2, rfl, hJo, hA1, hA2, htn, htc, htp, hb3, ho3⟩
  have RP : Hid (RowIs w3 pb 57 #[U32 n, .int .i64 (x : Nat), .int .i64 (y : Nat), .string bd]) := ho3 _ _ _ RP.out (by decide) (by decide) (by decide)
  have hbB : Below B w w3 := (hbw2.mono hBw).trans hb3
  have HOT := Lib.hid ((Others.of_below hbw2).trans ho3)
  have HJo := Lib.hid hJo
  obtain ⟨_, _, _, hBJ, _, _, htx, _⟩ := hJo
  obtain ⟨hBt, hBp, rt, hp⟩ := htx t (by simp)
  have RT : Hid (RowIs w3 t.tb 64 #[.int .i64 (c : Nat), .map (some t.pb)]) := by rw [← htc]; exact rt
  have HP : Hid (MapIs w3 t.pb (ps.map pieceKV)) := by rw [← htp]; exact hp
  have HTN := Lib.hid htn
  have HTC := Lib.hid htc
  have HTP := Lib.hid htp
  have HA1 := Lib.hid hA1
  have HA2 := Lib.hid hA2
  have hpbw : pb < w3.heap.size := RP.out.lt
  clear ho3 hb3 HO htx rt hp htn htc htp hA1 hA2 hbw2
  go_upto_region 7 with fail
  have k1 := cell_regrown (show w3.cell? ⟨t.tb, 0, none⟩ = some (.int .i64 (c : Nat)) from RT.out.cell 0)
  have k2 := cell_regrown (show w3.cell? ⟨pb, 2, none⟩ = some (.int .i64 (y : Nat)) from RP.out.cell 2)
  refine wp_region_mix 7 (by kernel_rfl) (by kernel_rfl) (by kernel_rfl) ?_
  (refine mix_step (by kernel_rfl) (by kernel_rfl) (fun K hK => ?_); go_simp; (try (simp only [↓IntWalk.iteOmega]; go_simp)); (first | (refine hK _ ?_; clear hK K) | (apply Exists.intro; refine ⟨fun _ => ?_, hK _ ?_⟩; (first | fail); clear hK K)))
  (refine mix_step (by kernel_rfl) (by kernel_rfl) (fun K hK => ?_); go_simp; (try (simp only [↓IntWalk.iteOmega]; go_simp)); (first | (refine hK _ ?_; clear hK K) | (apply Exists.intro; refine ⟨fun _ => ?_, hK _ ?_⟩; (first | fail); clear hK K)))
  (refine mix_step (by kernel_rfl) (by kernel_rfl) (fun K hK => ?_); go_simp; (try (simp only [↓IntWalk.iteOmega]; go_simp)); (first | (refine hK _ ?_; clear hK K) | (apply Exists.intro; refine ⟨fun _ => ?_, hK _ ?_⟩; (first | fail); clear hK K)))
  (refine mix_step (by kernel_rfl) (by kernel_rfl) (fun K hK => ?_); go_simp; (try (simp only [↓IntWalk.iteOmega]; go_simp)); (first | (refine hK _ ?_; clear hK K) | (apply Exists.intro; refine ⟨fun _ => ?_, hK _ ?_⟩; (first | fail); clear hK K)))
  (refine mix_step (by kernel_rfl) (by kernel_rfl) (fun K hK => ?_); go_simp; (try (simp only [↓IntWalk.iteOmega]; go_simp)); (first | (refine hK _ ?_; clear hK K) | (apply Exists.intro; refine ⟨fun _ => ?_, hK _ ?_⟩; (first | fail); clear hK K)))
  (refine mix_step (by kernel_rfl) (by kernel_rfl) (fun K hK => ?_); go_simp; (try (simp only [↓IntWalk.iteOmega]; go_simp)); (first | (refine hK _ ?_; clear hK K) | (apply Exists.intro; refine ⟨fun _ => ?_, hK _ ?_⟩; (first | fail); clear hK K)))
  (refine mix_step (by kernel_rfl) (by kernel_rfl) (fun K hK => ?_); go_simp; (try (simp only [↓IntWalk.iteOmega]; go_simp)); (first | (refine hK _ ?_; clear hK K) | (apply Exists.intro; refine ⟨fun _ => ?_, hK _ ?_⟩; (first | fail); clear hK K)))
  refine mix_nil ?_
  rintro ⟨dq, osq⟩
  have hbq := below_regrown w3 dq osq
  generalize grow (redrawn w3 dq) osq = w4 at *
  refine (show wpList _ _ _ _ _ _ from ?_)
  simp only [List.drop, Act.put, List.setIfInBounds_toArray, List.set]
  clear k1 k2
  have hbB := hbB.trans (hbq.mono (by have := RP.out.lt; omega))
  have HOT := Lib.hid (HOT.out.trans (Others.of_below hbq))
  have RP := Lib.hid (RP.out.kept hbq)
  have RT := Lib.hid (RT.out.kept hbq)
  have HP := Lib.hid (HP.out.kept hbq)
  have HJo := Lib.hid (HJo.out.later hbq)
  clear hbq
  have hcy' : ¬ ((c : Int) = (y : Int)) := by omega
  go_wp2_with fail
  refine bodyPost_ret (results_three Try.results8 _ _ _) rfl ?_
  exact ⟨rfl, ⟨l1 ++ t :: l2, HJo.out, by rw [List.map_append, List.map_cons, HA1.out, HA2.out, Tx.ab, HTN.out, HTC.out, HTP.out]⟩, hbB, HOT.out⟩

set_option maxRecDepth 20000 in
set_option maxHeartbeats 4000000 in
theorem take_twice (B J n c x y : Nat) (bd s : ByteArray) (ps : List (Nat × ByteArray)) (A1 A2 : List Ab) (w : World) (hBw : B ≤ w.heap.size) (hlen : ps.length ≤ 3) (hy : y ≤ 3) (hc : c ≤ 3)
    (HREAD : ∀ w, Calls Try.prog 16 #[.string s] w fun e w' => e = .returned (.tuple #[.agg #[U32 n, .int .i64 (x : Nat), .int .i64 (y : Nat), .string bd], .bool true, .int .i64 0]) ∧ Below w.heap.size w w')
    (HOPEN : ∀ w0, Below w.heap.size w w0 → Calls Try.prog 17 #[.pointer (some ⟨J, 0, none⟩), .agg #[U32 n, .int .i64 (x : Nat), .int .i64 (y : Nat), .string bd]] w0 fun e w' => ∃ (l1 : List Tx) (t : Tx) (l2 : List Tx), e = .returned (.pointer (some ⟨t.tb, 0, none⟩)) ∧ JoinIs B J w' (l1 ++ t :: l2) ∧ l1.map Tx.ab = A1 ∧ l2.map Tx.ab = A2 ∧ t.n = n ∧ t.cnt = c ∧ t.parts = ps ∧ Below B w0 w' ∧ Others w0 w') (hcy : c = y) (v0 : ByteArray) (hx : ∃ p ∈ ps, p.1 = x) (hv : ∀ p ∈ ps, p.1 = x → p.2 = v0) :
    Calls Try.prog 8 #[.pointer (some ⟨J, 0, none⟩), .string s] w fun e w' => e = .returned (.tuple #[.string ⟨#[]⟩, .bool false, .int .i64 10]) ∧ JIs B J w' (A1 ++ (n, c, ps) :: A2) ∧ Below B w w' ∧ Others w w' := by
  subst hcy
  go_enter Try.func8, Try.ntmps8
  go_wp2_with fail
  refine (HREAD _).mono ?_
  rintro e w1 ⟨rfl, hb1⟩
  go_wp2_with ((with_reducible refine at_store 57 (.tmp 7) (.tmp 20) ?_); refine wpList_store_own rfl 57 (.tmp 7) (.tmp 20) rfl w1.heap.size _ rfl rfl _ _ (rowIs_new _ _ _) info_piece rfl (by kernel_rfl) w1.heap.size (Nat.le_refl _) ?_)
  intro w2 r2 _ hs2 hb2
  have hb2 := (show Below w1.heap.size w1 w2 from ((Below.refl _ _).alloc (Nat.le_refl _) _).trans hb2)
  have RP := Lib.hid r2
  have hbw2 := hb1.trans (hb2.mono hb1.size)
  have hw1 := hb1.size
  clear r2 hs2 hb1 hb2
  generalize w1.heap.size = pb at *
  go_wp2_with ((with_reducible refine at_load 57 (.tmp 7) ?_); refine wpList_load_own rfl 57 (.tmp 7) rfl _ rfl _ _ _ RP.out Try.underlying57 rfl info_piece ?_)
  have HO := Lib.hid (HOPEN w2 hbw2)
  clear HOPEN HREAD
  refine HO.out.mono ?_
  rintro e w3 ⟨l1, t, l2, rfl, hJo, hA1, hA2, htn, htc, htp, hb3, ho3⟩
  have RP : Hid (RowIs w3 pb 57 #[U32 n, .int .i64 (x : Nat), .int .i64 (c : Nat), .string bd]) := ho3 _ _ _ RP.out (by decide) (by decide) (by decide)
  have hbB : Below B w w3 := (hbw2.mono hBw).trans hb3
  have HOT := Lib.hid ((Others.of_below hbw2).trans ho3)
  have HJo := Lib.hid hJo
  obtain ⟨_, _, _, hBJ, _, _, htx, _⟩ := hJo
  obtain ⟨hBt, hBp, rt, hp⟩ := htx t (by simp)
  have RT : Hid (RowIs w3 t.tb 64 #[.int .i64 (c : Nat), .map (some t.pb)]) := by rw [← htc]; exact rt
  have HP : Hid (MapIs w3 t.pb (ps.map pieceKV)) := by rw [← htp]; exact hp
  have HTN := Lib.hid htn
  have HTC := Lib.hid htc
  have HTP := Lib.hid htp
  have HA1 := Lib.hid hA1
  have HA2 := Lib.hid hA2
  have hpbw : pb < w3.heap.size := RP.out.lt
  clear ho3 hb3 HO htx rt hp htn htc htp hA1 hA2 hbw2
  go_upto_region 7 with fail
  have k1 := cell_regrown (show w3.cell? ⟨t.tb, 0, none⟩ = some (.int .i64 (c : Nat)) from RT.out.cell 0)
  have k2 := cell_regrown (show w3.cell? ⟨pb, 2, none⟩ = some (.int .i64 (c : Nat)) from RP.out.cell 2)
  refine wp_region_mix 7 (by kernel_rfl) (by kernel_rfl) (by kernel_rfl) ?_
  (refine mix_step (by kernel_rfl) (by kernel_rfl) (fun K hK => ?_); go_simp; (try (simp only [↓IntWalk.iteOmega]; go_simp)); (first | (refine hK _ ?_; clear hK K) | (apply Exists.intro; refine ⟨fun _ => ?_, hK _ ?_⟩; (first | fail); clear hK K)))
  (refine mix_step (by kernel_rfl) (by kernel_rfl) (fun K hK => ?_); go_simp; (try (simp only [↓IntWalk.iteOmega]; go_simp)); (first | (refine hK _ ?_; clear hK K) | (apply Exists.intro; refine ⟨fun _ => ?_, hK _ ?_⟩; (first | fail); clear hK K)))
  (refine mix_step (by kernel_rfl) (by kernel_rfl) (fun K hK => ?_); go_simp; (try (simp only [↓IntWalk.iteOmega]; go_simp)); (first | (refine hK _ ?_; clear hK K) | (apply Exists.intro; refine ⟨fun _ => ?_, hK _ ?_⟩; (first | fail); clear hK K)))
  (refine mix_step (by kernel_rfl) (by kernel_rfl) (fun K hK => ?_); go_simp; (try (simp only [↓IntWalk.iteOmega]; go_simp)); (first | (refine hK _ ?_; clear hK K) | (apply Exists.intro; refine ⟨fun _ => ?_, hK _ ?_⟩; (first | fail); clear hK K)))
  (refine mix_step (by kernel_rfl) (by kernel_rfl) (fun K hK => ?_); go_simp; (try (simp only [↓IntWalk.iteOmega]; go_simp)); (first | (refine hK _ ?_; clear hK K) | (apply Exists.intro; refine ⟨fun _ => ?_, hK _ ?_⟩; (first | fail); clear hK K)))
  (refine mix_step (by kernel_rfl) (by kernel_rfl) (fun K hK => ?_); go_simp; (try (simp only [↓IntWalk.iteOmega]; go_simp)); (first | (refine hK _ ?_; clear hK K) | (apply Exists.intro; refine ⟨fun _ => ?_, hK _ ?_⟩; (first | fail); clear hK K)))
  (refine mix_step (by kernel_rfl) (by kernel_rfl) (fun K hK => ?_); go_simp; (try (simp only [↓IntWalk.iteOmega]; go_simp)); (first | (refine hK _ ?_; clear hK K) | (apply Exists.intro; refine ⟨fun _ => ?_, hK _ ?_⟩; (first | fail); clear hK K)))
  refine mix_nil ?_
  rintro ⟨dq, osq⟩
  have hbq := below_regrown w3 dq osq
  generalize grow (redrawn w3 dq) osq = w4 at *
  refine (show wpList _ _ _ _ _ _ from ?_)
  simp only [List.drop, Act.put, List.setIfInBounds_toArray, List.set]
  clear k1 k2
  have hbB := hbB.trans (hbq.mono (by have := RP.out.lt; omega))
  have HOT := Lib.hid (HOT.out.trans (Others.of_below hbq))
  have RP := Lib.hid (RP.out.kept hbq)
  have RT := Lib.hid (RT.out.kept hbq)
  have HP := Lib.hid (HP.out.kept hbq)
  have HJo := Lib.hid (HJo.out.later hbq)
  clear hbq
  go_upto_region 9 with fail
  have k1 := cell_regrown (show w4.cell? ⟨t.tb, 1, none⟩ = some (.map (some t.pb)) from RT.out.cell 1)
  have k2 := cell_regrown (show w4.cell? ⟨pb, 1, none⟩ = some (.int .i64 (x : Nat)) from RP.out.cell 1)
  have hlk := fun (p : Regrown) => run_lookup_hit (P := Try.prog) (t := 62) (k := .int .i64 (x : Int)) (v := .string v0) Try.underlying62 Try.underlying3 (HP.out.kept (below_regrown w4 p.d p.os)) (isKey64 _) (by intro q hq; obtain ⟨p, _, rfl⟩ := List.mem_map.1 hq; exact isKey64 _) (by obtain ⟨p, hp, hpx⟩ := hx; exact ⟨_, List.mem_map.2 ⟨p, hp, rfl⟩, by rw [← hpx]; rfl⟩) (by intro q hq he; obtain ⟨p, hp, rfl⟩ := List.mem_map.1 hq; have he : Value.int .i64 (p.1 : Int) = .int .i64 (x : Int) := he; simp only [Value.int.injEq, true_and] at he; show Value.string p.2 = _; rw [hv p hp (by omega)]) true
  simp only [if_true] at hlk
  refine wp_region_mix 11 (by kernel_rfl) (by kernel_rfl) (by kernel_rfl) ?_
  (refine mix_step (by kernel_rfl) (by kernel_rfl) (fun K hK => ?_); go_simp; (try (simp only [↓IntWalk.iteOmega]; go_simp)); (first | (refine hK _ ?_; clear hK K) | (apply Exists.intro; refine ⟨fun _ => ?_, hK _ ?_⟩; (first | fail); clear hK K)))
  (refine mix_step (by kernel_rfl) (by kernel_rfl) (fun K hK => ?_); go_simp; (try (simp only [↓IntWalk.iteOmega]; go_simp)); (first | (refine hK _ ?_; clear hK K) | (apply Exists.intro; refine ⟨fun _ => ?_, hK _ ?_⟩; (first | fail); clear hK K)))
  (refine mix_step (by kernel_rfl) (by kernel_rfl) (fun K hK => ?_); go_simp; (try (simp only [↓IntWalk.iteOmega]; go_simp)); (first | (refine hK _ ?_; clear hK K) | (apply Exists.intro; refine ⟨fun _ => ?_, hK _ ?_⟩; (first | fail); clear hK K)))
  (refine mix_step (by kernel_rfl) (by kernel_rfl) (fun K hK => ?_); go_simp; (try (simp only [↓IntWalk.iteOmega]; go_simp)); (first | (refine hK _ ?_; clear hK K) | (apply Exists.intro; refine ⟨fun _ => ?_, hK _ ?_⟩; (first | fail); clear hK K)))
  (refine mix_step (by kernel_rfl) (by kernel_rfl) (fun K hK => ?_); go_simp; (try (simp only [↓IntWalk.iteOmega]; go_simp)); (first | (refine hK _ ?_; clear hK K) | (apply Exists.intro; refine ⟨fun _ => ?_, hK _ ?_⟩; (first | fail); clear hK K)))
  (refine mix_step (by kernel_rfl) (by kernel_rfl) (fun K hK => ?_); go_simp; (try (simp only [↓IntWalk.iteOmega]; go_simp)); (first | (refine hK _ ?_; clear hK K) | (apply Exists.intro; refine ⟨fun _ => ?_, hK _ ?_⟩; (first | fail); clear hK K)))
  (refine mix_step (by kernel_rfl) (by kernel_rfl) (fun K hK => ?_); go_simp; (try (simp only [↓IntWalk.iteOmega]; go_simp)); (first | (refine hK _ ?_; clear hK K) | (apply Exists.intro; refine ⟨fun _ => ?_, hK _ ?_⟩; (first | fail); clear hK K)))
  (refine mix_step (by kernel_rfl) (by kernel_rfl) (fun K hK => ?_); go_simp; (try (simp only [↓IntWalk.iteOmega]; go_simp)); (first | (refine hK _ ?_; clear hK K) | (apply Exists.intro; refine ⟨fun _ => ?_, hK _ ?_⟩; (first | fail); clear hK K)))
  (refine mix_step (by kernel_rfl) (by kernel_rfl) (fun K hK => ?_); go_simp; (try (simp only [↓IntWalk.iteOmega]; go_simp)); (first | (refine hK _ ?_; clear hK K) | (apply Exists.intro; refine ⟨fun _ => ?_, hK _ ?_⟩; (first | fail); clear hK K)))
  (refine mix_step (by kernel_rfl) (by kernel_rfl) (fun K hK => ?_); go_simp; (try (simp only [↓IntWalk.iteOmega]; go_simp)); (first | (refine hK _ ?_; clear hK K) | (apply Exists.intro; refine ⟨fun _ => ?_, hK _ ?_⟩; (first | fail); clear hK K)))
  (refine mix_step (by kernel_rfl) (by kernel_rfl) (fun K hK => ?_); go_simp; (try (simp only [↓IntWalk.iteOmega]; go_simp)); (first | (refine hK _ ?_; clear hK K) | (apply Exists.intro; refine ⟨fun _ => ?_, hK _ ?_⟩; (first | fail); clear hK K)))
  refine mix_nil ?_
  rintro ⟨dq, osq⟩
  have hbq := below_regrown w4 dq osq
  generalize grow (redrawn w4 dq) osq = w5 at *
  refine (show wpList _ _ _ _ _ _ from ?_)
  simp only [List.drop, Act.put, List.setIfInBounds_toArray, List.set]
  clear k1 k2 hlk
  have hbB := hbB.trans (hbq.mono (by have := RP.out.lt; omega))
  have HOT := Lib.hid (HOT.out.trans (Others.of_below hbq))
  have RP := Lib.hid (RP.out.kept hbq)
  have RT := Lib.hid (RT.out.kept hbq)
  have HP := Lib.hid (HP.out.kept hbq)
  have HJo := Lib.hid (HJo.out.later hbq)
  clear hbq
  go_wp2_with fail
  refine bodyPost_ret (results_three Try.results8 _ _ _) rfl ?_
  exact ⟨rfl, ⟨l1 ++ t :: l2, HJo.out, by rw [List.map_append, List.map_cons, HA1.out, HA2.out, Tx.ab, HTN.out, HTC.out, HTP.out]⟩, hbB, HOT.out⟩

set_option maxRecDepth 20000 in
set_option maxHeartbeats 4000000 in
theorem take_some (B J n c x y : Nat) (bd s : ByteArray) (ps : List (Nat × ByteArray)) (A1 A2 : List Ab) (w : World) (hBw : B ≤ w.heap.size) (hlen : ps.length ≤ 3) (hy : y ≤ 3) (hc : c ≤ 3)
    (HREAD : ∀ w, Calls Try.prog 16 #[.string s] w fun e w' => e = .returned (.tuple #[.agg #[U32 n, .int .i64 (x : Nat), .int .i64 (y : Nat), .string bd], .bool true, .int .i64 0]) ∧ Below w.heap.size w w')
    (HOPEN : ∀ w0, Below w.heap.size w w0 → Calls Try.prog 17 #[.pointer (some ⟨J, 0, none⟩), .agg #[U32 n, .int .i64 (x : Nat), .int .i64 (y : Nat), .string bd]] w0 fun e w' => ∃ (l1 : List Tx) (t : Tx) (l2 : List Tx), e = .returned (.pointer (some ⟨t.tb, 0, none⟩)) ∧ JoinIs B J w' (l1 ++ t :: l2) ∧ l1.map Tx.ab = A1 ∧ l2.map Tx.ab = A2 ∧ t.n = n ∧ t.cnt = c ∧ t.parts = ps ∧ Below B w0 w' ∧ Others w0 w') (hcy : c = y) (hx : ∀ p ∈ ps, p.1 ≠ x) (hmore : ps.length + 1 < y) :
    Calls Try.prog 8 #[.pointer (some ⟨J, 0, none⟩), .string s] w fun e w' => e = .returned (.tuple #[.string ⟨#[]⟩, .bool false, .int .i64 0]) ∧ JIs B J w' (A1 ++ (n, c, ps ++ [(x, bd)]) :: A2) ∧ Below B w w' ∧ Others w w' := by
  subst hcy
  go_enter Try.func8, Try.ntmps8
  go_wp2_with fail
  refine (HREAD _).mono ?_
  rintro e w1 ⟨rfl, hb1⟩
  go_wp2_with ((with_reducible refine at_store 57 (.tmp 7) (.tmp 20) ?_); refine wpList_store_own rfl 57 (.tmp 7) (.tmp 20) rfl w1.heap.size _ rfl rfl _ _ (rowIs_new _ _ _) info_piece rfl (by kernel_rfl) w1.heap.size (Nat.le_refl _) ?_)
  intro w2 r2 _ hs2 hb2
  have hb2 := (show Below w1.heap.size w1 w2 from ((Below.refl _ _).alloc (Nat.le_refl _) _).trans hb2)
  have RP := Lib.hid r2
  have hbw2 := hb1.trans (hb2.mono hb1.size)
  have hw1 := hb1.size
  clear r2 hs2 hb1 hb2
  generalize w1.heap.size = pb at *
  go_wp2_with ((with_reducible refine at_load 57 (.tmp 7) ?_); refine wpList_load_own rfl 57 (.tmp 7) rfl _ rfl _ _ _ RP.out Try.underlying57 rfl info_piece ?_)
  have HO := Lib.hid (HOPEN w2 hbw2)
  clear HOPEN HREAD
  refine HO.out.mono ?_
  rintro e w3 ⟨l1, t, l2, rfl, hJo, hA1, hA2, htn, htc, htp, hb3, ho3⟩
  have RP : Hid (RowIs w3 pb 57 #[U32 n, .int .i64 (x : Nat), .int .i64 (c : Nat), .string bd]) := ho3 _ _ _ RP.out (by decide) (by decide) (by decide)
  have hbB : Below B w w3 := (hbw2.mono hBw).trans hb3
  have HOT := Lib.hid ((Others.of_below hbw2).trans ho3)
  have HJo := Lib.hid hJo
  obtain ⟨_, _, _, hBJ, _, _, htx, _⟩ := hJo
  obtain ⟨hBt, hBp, rt, hp⟩ := htx t (by simp)
  have RT : Hid (RowIs w3 t.tb 64 #[.int .i64 (c : Nat), .map (some t.pb)]) := by rw [← htc]; exact rt
  have HP : Hid (MapIs w3 t.pb (ps.map pieceKV)) := by rw [← htp]; exact hp
  have HTN := Lib.hid htn
  have HTC := Lib.hid htc
  have HTP := Lib.hid htp
  have HA1 := Lib.hid hA1
  have HA2 := Lib.hid hA2
  have hpbw : pb < w3.heap.size := RP.out.lt
  clear ho3 hb3 HO htx rt hp htn htc htp hA1 hA2 hbw2
  go_upto_region 7 with fail
  have k1 := cell_regrown (show w3.cell? ⟨t.tb, 0, none⟩ = some (.int .i64 (c : Nat)) from RT.out.cell 0)
  have k2 := cell_regrown (show w3.cell? ⟨pb, 2, none⟩ = some (.int .i64 (c : Nat)) from RP.out.cell 2)
  refine wp_region_mix 7 (by kernel_rfl) (by kernel_rfl) (by kernel_rfl) ?_
  (refine mix_step (by kernel_rfl) (by kernel_rfl) (fun K hK => ?_); go_simp; (try (simp only [↓IntWalk.iteOmega]; go_simp)); (first | (refine hK _ ?_; clear hK K) | (apply Exists.intro; refine ⟨fun _ => ?_, hK _ ?_⟩; (first | fail); clear hK K)))
  (refine mix_step (by kernel_rfl) (by kernel_rfl) (fun K hK => ?_); go_simp; (try (simp only [↓IntWalk.iteOmega]; go_simp)); (first | (refine hK _ ?_; clear hK K) | (apply Exists.intro; refine ⟨fun _ => ?_, hK _ ?_⟩; (first | fail); clear hK K)))
  (refine mix_step (by kernel_rfl) (by kernel_rfl) (fun K hK => ?_); go_simp; (try (simp only [↓IntWalk.iteOmega]; go_simp)); (first | (refine hK _ ?_; clear hK K) | (apply Exists.intro; refine ⟨fun _ => ?_, hK _ ?_⟩; (first | fail); clear hK K)))
  (refine mix_step (by kernel_rfl) (by kernel_rfl) (fun K hK => ?_); go_simp; (try (simp only [↓IntWalk.iteOmega]; go_simp)); (first | (refine hK _ ?_; clear hK K) | (apply Exists.intro; refine ⟨fun _ => ?_, hK _ ?_⟩; (first | fail); clear hK K)))
  (refine mix_step (by kernel_rfl) (by kernel_rfl) (fun K hK => ?_); go_simp; (try (simp only [↓IntWalk.iteOmega]; go_simp)); (first | (refine hK _ ?_; clear hK K) | (apply Exists.intro; refine ⟨fun _ => ?_, hK _ ?_⟩; (first | fail); clear hK K)))
  (refine mix_step (by kernel_rfl) (by kernel_rfl) (fun K hK => ?_); go_simp; (try (simp only [↓IntWalk.iteOmega]; go_simp)); (first | (refine hK _ ?_; clear hK K) | (apply Exists.intro; refine ⟨fun _ => ?_, hK _ ?_⟩; (first | fail); clear hK K)))
  (refine mix_step (by kernel_rfl) (by kernel_rfl) (fun K hK => ?_); go_simp; (try (simp only [↓IntWalk.iteOmega]; go_simp)); (first | (refine hK _ ?_; clear hK K) | (apply Exists.intro; refine ⟨fun _ => ?_, hK _ ?_⟩; (first | fail); clear hK K)))
  refine mix_nil ?_
  rintro ⟨dq, osq⟩
  have hbq := below_regrown w3 dq osq
  generalize grow (redrawn w3 dq) osq = w4 at *
  refine (show wpList _ _ _ _ _ _ from ?_)
  simp only [List.drop, Act.put, List.setIfInBounds_toArray, List.set]
  clear k1 k2
  have hbB := hbB.trans (hbq.mono (by have := RP.out.lt; omega))
  have HOT := Lib.hid (HOT.out.trans (Others.of_below hbq))
  have RP := Lib.hid (RP.out.kept hbq)
  have RT := Lib.hid (RT.out.kept hbq)
  have HP := Lib.hid (HP.out.kept hbq)
  have HJo := Lib.hid (HJo.out.later hbq)
  clear hbq
  go_upto_region 9 with fail
  have k1 := cell_regrown (show w4.cell? ⟨t.tb, 1, none⟩ = some (.map (some t.pb)) from RT.out.cell 1)
  have k2 := cell_regrown (show w4.cell? ⟨pb, 1, none⟩ = some (.int .i64 (x : Nat)) from RP.out.cell 1)
  have hzs : ∀ w : World, (zeroValue 9).run Try.prog w = .ok (.string ⟨#[]⟩) w := fun w => by go_simp
  have hlk := fun (p : Regrown) => run_lookup_miss (P := Try.prog) (t := 62) (k := .int .i64 (x : Int)) Try.underlying62 Try.underlying3 (HP.out.kept (below_regrown w4 p.d p.os)) (isKey64 _) (by intro q hq; obtain ⟨p, _, rfl⟩ := List.mem_map.1 hq; exact isKey64 _) (piece_not hx) _ (hzs _) true
  simp only [if_true] at hlk
  refine wp_region_mix 11 (by kernel_rfl) (by kernel_rfl) (by kernel_rfl) ?_
  (refine mix_step (by kernel_rfl) (by kernel_rfl) (fun K hK => ?_); go_simp; (try (simp only [↓IntWalk.iteOmega]; go_simp)); (first | (refine hK _ ?_; clear hK K) | (apply Exists.intro; refine ⟨fun _ => ?_, hK _ ?_⟩; (first | fail); clear hK K)))
  (refine mix_step (by kernel_rfl) (by kernel_rfl) (fun K hK => ?_); go_simp; (try (simp only [↓IntWalk.iteOmega]; go_simp)); (first | (refine hK _ ?_; clear hK K) | (apply Exists.intro; refine ⟨fun _ => ?_, hK _ ?_⟩; (first | fail); clear hK K)))
  (refine mix_step (by kernel_rfl) (by kernel_rfl) (fun K hK => ?_); go_simp; (try (simp only [↓IntWalk.iteOmega]; go_simp)); (first | (refine hK _ ?_; clear hK K) | (apply Exists.intro; refine ⟨fun _ => ?_, hK _ ?_⟩; (first | fail); clear hK K)))
  (refine mix_step (by kernel_rfl) (by kernel_rfl) (fun K hK => ?_); go_simp; (try (simp only [↓IntWalk.iteOmega]; go_simp)); (first | (refine hK _ ?_; clear hK K) | (apply Exists.intro; refine ⟨fun _ => ?_, hK _ ?_⟩; (first | fail); clear hK K)))
  (refine mix_step (by kernel_rfl) (by kernel_rfl) (fun K hK => ?_); go_simp; (try (simp only [↓IntWalk.iteOmega]; go_simp)); (first | (refine hK _ ?_; clear hK K) | (apply Exists.intro; refine ⟨fun _ => ?_, hK _ ?_⟩; (first | fail); clear hK K)))
  (refine mix_step (by kernel_rfl) (by kernel_rfl) (fun K hK => ?_); go_simp; (try (simp only [↓IntWalk.iteOmega]; go_simp)); (first | (refine hK _ ?_; clear hK K) | (apply Exists.intro; refine ⟨fun _ => ?_, hK _ ?_⟩; (first | fail); clear hK K)))
  (refine mix_step (by kernel_rfl) (by kernel_rfl) (fun K hK => ?_); go_simp; (try (simp only [↓IntWalk.iteOmega]; go_simp)); (first | (refine hK _ ?_; clear hK K) | (apply Exists.intro; refine ⟨fun _ => ?_, hK _ ?_⟩; (first | fail); clear hK K)))
  (refine mix_step (by kernel_rfl) (by kernel_rfl) (fun K hK => ?_); go_simp; (try (simp only [↓IntWalk.iteOmega]; go_simp)); (first | (refine hK _ ?_; clear hK K) | (apply Exists.intro; refine ⟨fun _ => ?_, hK _ ?_⟩; (first | fail); clear hK K)))
  (refine mix_step (by kernel_rfl) (by kernel_rfl) (fun K hK => ?_); go_simp; (try (simp only [↓IntWalk.iteOmega]; go_simp)); (first | (refine hK _ ?_; clear hK K) | (apply Exists.intro; refine ⟨fun _ => ?_, hK _ ?_⟩; (first | fail); clear hK K)))
  (refine mix_step (by kernel_rfl) (by kernel_rfl) (fun K hK => ?_); go_simp; (try (simp only [↓IntWalk.iteOmega]; go_simp)); (first | (refine hK _ ?_; clear hK K) | (apply Exists.intro; refine ⟨fun _ => ?_, hK _ ?_⟩; (first | fail); clear hK K)))
  (refine mix_step (by kernel_rfl) (by kernel_rfl) (fun K hK => ?_); go_simp; (try (simp only [↓IntWalk.iteOmega]; go_simp)); (first | (refine hK _ ?_; clear hK K) | (apply Exists.intro; refine ⟨fun _ => ?_, hK _ ?_⟩; (first | fail); clear hK K)))
  refine mix_nil ?_
  rintro ⟨dq, osq⟩
  have hbq := below_regrown w4 dq osq
  generalize grow (redrawn w4 dq) osq = w5 at *
  refine (show wpList _ _ _ _ _ _ from ?_)
  simp only [List.drop, Act.put, List.setIfInBounds_toArray, List.set]
  clear k1 k2 hlk
  have hbB := hbB.trans (hbq.mono (by have := RP.out.lt; omega))
  have HOT := Lib.hid (HOT.out.trans (Others.of_below hbq))
  have RP := Lib.hid (RP.out.kept hbq)
  have RT := Lib.hid (RT.out.kept hbq)
  have HP := Lib.hid (HP.out.kept hbq)
  have HJo := Lib.hid (HJo.out.later hbq)
  clear hbq
  go_upto_region 12 with fail
  have k1 := cell_regrown (show w5.cell? ⟨t.tb, 1, none⟩ = some (.map (some t.pb)) from RT.out.cell 1)
  have k2 := cell_regrown (show w5.cell? ⟨pb, 1, none⟩ = some (.int .i64 (x : Nat)) from RP.out.cell 1)
  have k3 := cell_regrown (show w5.cell? ⟨pb, 3, none⟩ = some (.string bd) from RP.out.cell 3)
  refine wp_region_mix 8 (by kernel_rfl) (by kernel_rfl) (by kernel_rfl) ?_
  (refine mix_step (by kernel_rfl) (by kernel_rfl) (fun K hK => ?_); go_simp; (try (simp only [↓IntWalk.iteOmega]; go_simp)); (first | (refine hK _ ?_; clear hK K) | (apply Exists.intro; refine ⟨fun _ => ?_, hK _ ?_⟩; (first | fail); clear hK K)))
  (refine mix_step (by kernel_rfl) (by kernel_rfl) (fun K hK => ?_); go_simp; (try (simp only [↓IntWalk.iteOmega]; go_simp)); (first | (refine hK _ ?_; clear hK K) | (apply Exists.intro; refine ⟨fun _ => ?_, hK _ ?_⟩; (first | fail); clear hK K)))
  (refine mix_step (by kernel_rfl) (by kernel_rfl) (fun K hK => ?_); go_simp; (try (simp only [↓IntWalk.iteOmega]; go_simp)); (first | (refine hK _ ?_; clear hK K) | (apply Exists.intro; refine ⟨fun _ => ?_, hK _ ?_⟩; (first | fail); clear hK K)))
  (refine mix_step (by kernel_rfl) (by kernel_rfl) (fun K hK => ?_); go_simp; (try (simp only [↓IntWalk.iteOmega]; go_simp)); (first | (refine hK _ ?_; clear hK K) | (apply Exists.intro; refine ⟨fun _ => ?_, hK _ ?_⟩; (first | fail); clear hK K)))
  (refine mix_step (by kernel_rfl) (by kernel_rfl) (fun K hK => ?_); go_simp; (try (simp only [↓IntWalk.iteOmega]; go_simp)); (first | (refine hK _ ?_; clear hK K) | (apply Exists.intro; refine ⟨fun _ => ?_, hK _ ?_⟩; (first | fail); clear hK K)))
  (refine mix_step (by kernel_rfl) (by kernel_rfl) (fun K hK => ?_); go_simp; (try (simp only [↓IntWalk.iteOmega]; go_simp)); (first | (refine hK _ ?_; clear hK K) | (apply Exists.intro; refine ⟨fun _ => ?_, hK _ ?_⟩; (first | fail); clear hK K)))
  (refine mix_step (by kernel_rfl) (by kernel_rfl) (fun K hK => ?_); go_simp; (try (simp only [↓IntWalk.iteOmega]; go_simp)); (first | (refine hK _ ?_; clear hK K) | (apply Exists.intro; refine ⟨fun _ => ?_, hK _ ?_⟩; (first | fail); clear hK K)))
  (refine mix_step (by kernel_rfl) (by kernel_rfl) (fun K hK => ?_); go_simp; (try (simp only [↓IntWalk.iteOmega]; go_simp)); (first | (refine hK _ ?_; clear hK K) | (apply Exists.intro; refine ⟨fun _ => ?_, hK _ ?_⟩; (first | fail); clear hK K)))
  refine mix_nil ?_
  rintro ⟨dq, osq⟩
  have hbq := below_regrown w5 dq osq
  generalize grow (redrawn w5 dq) osq = w6 at *
  refine (show wpList _ _ _ _ _ _ from ?_)
  simp only [List.drop, Act.put, List.setIfInBounds_toArray, List.set]
  clear k1 k2 k3
  have hbB := hbB.trans (hbq.mono (by have := RP.out.lt; omega))
  have HOT := Lib.hid (HOT.out.trans (Others.of_below hbq))
  have RP := Lib.hid (RP.out.kept hbq)
  have RT := Lib.hid (RT.out.kept hbq)
  have HP := Lib.hid (HP.out.kept hbq)
  have HJo := Lib.hid (HJo.out.later hbq)
  clear hbq
  obtain ⟨w7, hup, HP7, hoth7, hsz7, hb7⟩ := run_update_new (P := Try.prog) (t := 62) (k := .int .i64 (x : Int)) Try.underlying62 Try.underlying3 HP.out (isKey64 _) (by intro q hq; obtain ⟨p, _, rfl⟩ := List.mem_map.1 hq; exact isKey64 _) (piece_not hx) (.string bd)
  have HP7 : MapIs w7 t.pb ((ps ++ [(x, bd)]).map pieceKV) := by rw [List.map_append]; exact HP7
  have HJo := Lib.hid (HJo.out.put (ps ++ [(x, bd)]) HP7 hoth7)
  have HOT : Hid (Others w w7) := HOT.out.trans (fun b tt cs hr _ _ _ => (hoth7 b (row_map hr HP.out)).trans hr)
  have RP : Hid (RowIs w7 pb 57 #[U32 n, .int .i64 (x : Nat), .int .i64 (c : Nat), .string bd]) := (hoth7 pb (row_map RP.out HP.out)).trans RP.out
  have RT : Hid (RowIs w7 t.tb 64 #[.int .i64 (c : Nat), .map (some t.pb)]) := (hoth7 _ (row_map RT.out HP.out)).trans RT.out
  have HP := Lib.hid HP7
  have hbB := hbB.trans (hb7 B hBp)
  clear HP7 hoth7 hsz7 hb7
  go_upto_region 13 with fail
  have k1 := cell_regrown (show w7.cell? ⟨t.tb, 1, none⟩ = some (.map (some t.pb)) from RT.out.cell 1)
  have k2 := cell_regrown (show w7.cell? ⟨t.tb, 0, none⟩ = some (.int .i64 (c : Nat)) from RT.out.cell 0)
  have hln : ∀ (p : Regrown) (ty : TypeId), (Builtin.len_ #[62] ty #[.map (some t.pb)]).run Try.prog (grow (redrawn w7 p.d) p.os) = .ok (.int .i64 ((ps.length + 1 : Nat) : Int)) (grow (redrawn w7 p.d) p.os) := fun p ty => by
    have := run_len_map (P := Try.prog) (t := 62) Try.underlying62 (HP.out.kept (below_regrown w7 p.d p.os)) ty
    simpa using this
  refine wp_region_mix 10 (by kernel_rfl) (by kernel_rfl) (by kernel_rfl) ?_
  (refine mix_step (by kernel_rfl) (by kernel_rfl) (fun K hK => ?_); go_simp; (try (simp only [↓IntWalk.iteOmega]; go_simp)); (first | (refine hK _ ?_; clear hK K) | (apply Exists.intro; refine ⟨fun _ => ?_, hK _ ?_⟩; (first | fail); clear hK K)))
  (refine mix_step (by kernel_rfl) (by kernel_rfl) (fun K hK => ?_); go_simp; (try (simp only [↓IntWalk.iteOmega]; go_simp)); (first | (refine hK _ ?_; clear hK K) | (apply Exists.intro; refine ⟨fun _ => ?_, hK _ ?_⟩; (first | fail); clear hK K)))
  (refine mix_step (by kernel_rfl) (by kernel_rfl) (fun K hK => ?_); go_simp; (try (simp only [↓IntWalk.iteOmega]; go_simp)); (first | (refine hK _ ?_; clear hK K) | (apply Exists.intro; refine ⟨fun _ => ?_, hK _ ?_⟩; (first | fail); clear hK K)))
  (refine mix_step (by kernel_rfl) (by kernel_rfl) (fun K hK => ?_); go_simp; (try (simp only [↓IntWalk.iteOmega]; go_simp)); (first | (refine hK _ ?_; clear hK K) | (apply Exists.intro; refine ⟨fun _ => ?_, hK _ ?_⟩; (first | fail); clear hK K)))
  (refine mix_step (by kernel_rfl) (by kernel_rfl) (fun K hK => ?_); go_simp; (try (simp only [↓IntWalk.iteOmega]; go_simp)); (first | (refine hK _ ?_; clear hK K) | (apply Exists.intro; refine ⟨fun _ => ?_, hK _ ?_⟩; (first | fail); clear hK K)))
  (refine mix_step (by kernel_rfl) (by kernel_rfl) (fun K hK => ?_); go_simp; (try (simp only [↓IntWalk.iteOmega]; go_simp)); (first | (refine hK _ ?_; clear hK K) | (apply Exists.intro; refine ⟨fun _ => ?_, hK _ ?_⟩; (first | fail); clear hK K)))
  (refine mix_step (by kernel_rfl) (by kernel_rfl) (fun K hK => ?_); go_simp; (try (simp only [↓IntWalk.iteOmega]; go_simp)); (first | (refine hK _ ?_; clear hK K) | (apply Exists.intro; refine ⟨fun _ => ?_, hK _ ?_⟩; (first | fail); clear hK K)))
  (refine mix_step (by kernel_rfl) (by kernel_rfl) (fun K hK => ?_); go_simp; (try (simp only [↓IntWalk.iteOmega]; go_simp)); (first | (refine hK _ ?_; clear hK K) | (apply Exists.intro; refine ⟨fun _ => ?_, hK _ ?_⟩; (first | fail); clear hK K)))
  (refine mix_step (by kernel_rfl) (by kernel_rfl) (fun K hK => ?_); go_simp; (try (simp only [↓IntWalk.iteOmega]; go_simp)); (first | (refine hK _ ?_; clear hK K) | (apply Exists.intro; refine ⟨fun _ => ?_, hK _ ?_⟩; (first | fail); clear hK K)))
  (refine mix_step (by kernel_rfl) (by kernel_rfl) (fun K hK => ?_); go_simp; (try (simp only [↓IntWalk.iteOmega]; go_simp)); (first | (refine hK _ ?_; clear hK K) | (apply Exists.intro; refine ⟨fun _ => ?_, hK _ ?_⟩; (first | fail); clear hK K)))
  refine mix_nil ?_
  rintro ⟨dq, osq⟩
  have hbq := below_regrown w7 dq osq
  generalize grow (redrawn w7 dq) osq = w8 at *
  refine (show wpList _ _ _ _ _ _ from ?_)
  simp only [List.drop, Act.put, List.setIfInBounds_toArray, List.set]
  clear k1 k2 hln hup
  have hbB := hbB.trans (hbq.mono (by have := RP.out.lt; omega))
  have HOT := Lib.hid (HOT.out.trans (Others.of_below hbq))
  have RP := Lib.hid (RP.out.kept hbq)
  have RT := Lib.hid (RT.out.kept hbq)
  have HP := Lib.hid (HP.out.kept hbq)
  have HJo := Lib.hid (HJo.out.later hbq)
  clear hbq
  have hmore' : decide (((ps.length + 1 : Nat) : Int) < (c : Int)) = true := decide_eq_true (by omega)
  go_wp2_with fail
  refine bodyPost_ret (results_three Try.results8 _ _ _) rfl ?_
  exact ⟨rfl, ⟨_, HJo.out, by rw [List.map_append, List.map_cons, HA1.out, HA2.out, Tx.ab, HTN.out, HTC.out]⟩, hbB, HOT.out⟩

set_option maxRecDepth 20000 in
set_option maxHeartbeats 4000000 in
theorem take_whole (B J n c x y : Nat) (bd s : ByteArray) (ps : List (Nat × ByteArray)) (A1 A2 : List Ab) (w : World) (hBw : B ≤ w.heap.size) (hlen : ps.length ≤ 3) (hy : y ≤ 3) (hc : c ≤ 3)
    (HREAD : ∀ w, Calls Try.prog 16 #[.string s] w fun e w' => e = .returned (.tuple #[.agg #[U32 n, .int .i64 (x : Nat), .int .i64 (y : Nat), .string bd], .bool true, .int .i64 0]) ∧ Below w.heap.size w w')
    (HOPEN : ∀ w0, Below w.heap.size w w0 → Calls Try.prog 17 #[.pointer (some ⟨J, 0, none⟩), .agg #[U32 n, .int .i64 (x : Nat), .int .i64 (y : Nat), .string bd]] w0 fun e w' => ∃ (l1 : List Tx) (t : Tx) (l2 : List Tx), e = .returned (.pointer (some ⟨t.tb, 0, none⟩)) ∧ JoinIs B J w' (l1 ++ t :: l2) ∧ l1.map Tx.ab = A1 ∧ l2.map Tx.ab = A2 ∧ t.n = n ∧ t.cnt = c ∧ t.parts = ps ∧ Below B w0 w' ∧ Others w0 w') (hcy : c = y) (hx : ∀ p ∈ ps, p.1 ≠ x) (hmore : ps.length + 1 = y) (val : Nat → ByteArray) (hval : ∀ p ∈ ps ++ [(x, bd)], p.2 = val p.1) (hall : ∀ i, i < y → ∃ p ∈ ps ++ [(x, bd)], p.1 = i) (hsz : ∀ i, i < y → (val i).size ≤ 512) (hA : A1.length + A2.length ≤ 100) :
    Calls Try.prog 8 #[.pointer (some ⟨J, 0, none⟩), .string s] w fun e w' => e = .returned (.tuple #[.string (Tun.cat val y), .bool true, .int .i64 0]) ∧ JIs B J w' (A1 ++ A2) ∧ Below B w w' ∧ Others w w' := by
  subst hcy
  go_enter Try.func8, Try.ntmps8
  go_wp2_with fail
  refine (HREAD _).mono ?_
  rintro e w1 ⟨rfl, hb1⟩
  go_wp2_with ((with_reducible refine at_store 57 (.tmp 7) (.tmp 20) ?_); refine wpList_store_own rfl 57 (.tmp 7) (.tmp 20) rfl w1.heap.size _ rfl rfl _ _ (rowIs_new _ _ _) info_piece rfl (by kernel_rfl) w1.heap.size (Nat.le_refl _) ?_)
  intro w2 r2 _ hs2 hb2
  have hb2 := (show Below w1.heap.size w1 w2 from ((Below.refl _ _).alloc (Nat.le_refl _) _).trans hb2)
  have RP := Lib.hid r2
  have hbw2 := hb1.trans (hb2.mono hb1.size)
  have hw1 := hb1.size
  clear r2 hs2 hb1 hb2
  generalize w1.heap.size = pb at *
  go_wp2_with ((with_reducible refine at_load 57 (.tmp 7) ?_); refine wpList_load_own rfl 57 (.tmp 7) rfl _ rfl _ _ _ RP.out Try.underlying57 rfl info_piece ?_)
  have HO := Lib.hid (HOPEN w2 hbw2)
  clear HOPEN HREAD
  refine HO.out.mono ?_
  rintro e w3 ⟨l1, t, l2, rfl, hJo, hA1, hA2, htn, htc, htp, hb3, ho3⟩
  have RP : Hid (RowIs w3 pb 57 #[U32 n, .int .i64 (x : Nat), .int .i64 (c : Nat), .string bd]) := ho3 _ _ _ RP.out (by decide) (by decide) (by decide)
  have hbB : Below B w w3 := (hbw2.mono hBw).trans hb3
  have HOT := Lib.hid ((Others.of_below hbw2).trans ho3)
  have HJo := Lib.hid hJo
  obtain ⟨_, _, _, hBJ, _, _, htx, _⟩ := hJo
  obtain ⟨hBt, hBp, rt, hp⟩ := htx t (by simp)
  have RT : Hid (RowIs w3 t.tb 64 #[.int .i64 (c : Nat), .map (some t.pb)]) := by rw [← htc]; exact rt
  have HP : Hid (MapIs w3 t.pb (ps.map pieceKV)) := by rw [← htp]; exact hp
  have HTN := Lib.hid htn
  have HTC := Lib.hid htc
  have HTP := Lib.hid htp
  have HA1 := Lib.hid hA1
  have HA2 := Lib.hid hA2
  have hpbw : pb < w3.heap.size := RP.out.lt
  clear ho3 hb3 HO htx rt hp htn htc htp hA1 hA2 hbw2
  go_upto_region 7 with fail
  have k1 := cell_regrown (show w3.cell? ⟨t.tb, 0, none⟩ = some (.int .i64 (c : Nat)) from RT.out.cell 0)
  have k2 := cell_regrown (show w3.cell? ⟨pb, 2, none⟩ = some (.int .i64 (c : Nat)) from RP.out.cell 2)
  refine wp_region_mix 7 (by kernel_rfl) (by kernel_rfl) (by kernel_rfl) ?_
  (refine mix_step (by kernel_rfl) (by kernel_rfl) (fun K hK => ?_); go_simp; (try (simp only [↓IntWalk.iteOmega]; go_simp)); (first | (refine hK _ ?_; clear hK K) | (apply Exists.intro; refine ⟨fun _ => ?_, hK _ ?_⟩; (first | fail); clear hK K)))
  (refine mix_step (by kernel_rfl) (by kernel_rfl) (fun K hK => ?_); go_simp; (try (simp only [↓IntWalk.iteOmega]; go_simp)); (first | (refine hK _ ?_; clear hK K) | (apply Exists.intro; refine ⟨fun _ => ?_, hK _ ?_⟩; (first | fail); clear hK K)))
  (refine mix_step (by kernel_rfl) (by kernel_rfl) (fun K hK => ?_); go_simp; (try (simp only [↓IntWalk.iteOmega]; go_simp)); (first | (refine hK _ ?_; clear hK K) | (apply Exists.intro; refine ⟨fun _ => ?_, hK _ ?_⟩; (first | fail); clear hK K)))
  (refine mix_step (by kernel_rfl) (by kernel_rfl) (fun K hK => ?_); go_simp; (try (simp only [↓IntWalk.iteOmega]; go_simp)); (first | (refine hK _ ?_; clear hK K) | (apply Exists.intro; refine ⟨fun _ => ?_, hK _ ?_⟩; (first | fail); clear hK K)))
  (refine mix_step (by kernel_rfl) (by kernel_rfl) (fun K hK => ?_); go_simp; (try (simp only [↓IntWalk.iteOmega]; go_simp)); (first | (refine hK _ ?_; clear hK K) | (apply Exists.intro; refine ⟨fun _ => ?_, hK _ ?_⟩; (first | fail); clear hK K)))
  (refine mix_step (by kernel_rfl) (by kernel_rfl) (fun K hK => ?_); go_simp; (try (simp only [↓IntWalk.iteOmega]; go_simp)); (first | (refine hK _ ?_; clear hK K) | (apply Exists.intro; refine ⟨fun _ => ?_, hK _ ?_⟩; (first | fail); clear hK K)))
  (refine mix_step (by kernel_rfl) (by kernel_rfl) (fun K hK => ?_); go_simp; (try (simp only [↓IntWalk.iteOmega]; go_simp)); (first | (refine hK _ ?_; clear hK K) | (apply Exists.intro; refine ⟨fun _ => ?_, hK _ ?_⟩; (first | fail); clear hK K)))
  refine mix_nil ?_
  rintro ⟨dq, osq⟩
  have hbq := below_regrown w3 dq osq
  generalize grow (redrawn w3 dq) osq = w4 at *
  refine (show wpList _ _ _ _ _ _ from ?_)
  simp only [List.drop, Act.put, List.setIfInBounds_toArray, List.set]
  clear k1 k2
  have hbB := hbB.trans (hbq.mono (by have := RP.out.lt; omega))
  have HOT := Lib.hid (HOT.out.trans (Others.of_below hbq))
  have RP := Lib.hid (RP.out.kept hbq)
  have RT := Lib.hid (RT.out.kept hbq)
  have HP := Lib.hid (HP.out.kept hbq)
  have HJo := Lib.hid (HJo.out.later hbq)
  clear hbq
  go_upto_region 9 with fail
  have k1 := cell_regrown (show w4.cell? ⟨t.tb, 1, none⟩ = some (.map (some t.pb)) from RT.out.cell 1)
  have k2 := cell_regrown (show w4.cell? ⟨pb, 1, none⟩ = some (.int .i64 (x : Nat)) from RP.out.cell 1)
  have hzs : ∀ w : World, (zeroValue 9).run Try.prog w = .ok (.string ⟨#[]⟩) w := fun w => by go_simp
  have hlk := fun (p : Regrown) => run_lookup_miss (P := Try.prog) (t := 62) (k := .int .i64 (x : Int)) Try.underlying62 Try.underlying3 (HP.out.kept (below_regrown w4 p.d p.os)) (isKey64 _) (by intro q hq; obtain ⟨p, _, rfl⟩ := List.mem_map.1 hq; exact isKey64 _) (piece_not hx) _ (hzs _) true
  simp only [if_true] at hlk
  refine wp_region_mix 11 (by kernel_rfl) (by kernel_rfl) (by kernel_rfl) ?_
  (refine mix_step (by kernel_rfl) (by kernel_rfl) (fun K hK => ?_); go_simp; (try (simp only [↓IntWalk.iteOmega]; go_simp)); (first | (refine hK _ ?_; clear hK K) | (apply Exists.intro; refine ⟨fun _ => ?_, hK _ ?_⟩; (first | fail); clear hK K)))
  (refine mix_step (by kernel_rfl) (by kernel_rfl) (fun K hK => ?_); go_simp; (try (simp only [↓IntWalk.iteOmega]; go_simp)); (first | (refine hK _ ?_; clear hK K) | (apply Exists.intro; refine ⟨fun _ => ?_, hK _ ?_⟩; (first | fail); clear hK K)))
  (refine mix_step (by kernel_rfl) (by kernel_rfl) (fun K hK => ?_); go_simp; (try (simp only [↓IntWalk.iteOmega]; go_simp)); (first | (refine hK _ ?_; clear hK K) | (apply Exists.intro; refine ⟨fun _ => ?_, hK _ ?_⟩; (first | fail); clear hK K)))
  (refine mix_step (by kernel_rfl) (by kernel_rfl) (fun K hK => ?_); go_simp; (try (simp only [↓IntWalk.iteOmega]; go_simp)); (first | (refine hK _ ?_; clear hK K) | (apply Exists.intro; refine ⟨fun _ => ?_, hK _ ?_⟩; (first | fail); clear hK K)))
  (refine mix_step (by kernel_rfl) (by kernel_rfl) (fun K hK => ?_); go_simp; (try (simp only [↓IntWalk.iteOmega]; go_simp)); (first | (refine hK _ ?_; clear hK K) | (apply Exists.intro; refine ⟨fun _ => ?_, hK _ ?_⟩; (first | fail); clear hK K)))
  (refine mix_step (by kernel_rfl) (by kernel_rfl) (fun K hK => ?_); go_simp; (try (simp only [↓IntWalk.iteOmega]; go_simp)); (first | (refine hK _ ?_; clear hK K) | (apply Exists.intro; refine ⟨fun _ => ?_, hK _ ?_⟩; (first | fail); clear hK K)))
  (refine mix_step (by kernel_rfl) (by kernel_rfl) (fun K hK => ?_); go_simp; (try (simp only [↓IntWalk.iteOmega]; go_simp)); (first | (refine hK _ ?_; clear hK K) | (apply Exists.intro; refine ⟨fun _ => ?_, hK _ ?_⟩; (first | fail); clear hK K)))
  (refine mix_step (by kernel_rfl) (by kernel_rfl) (fun K hK => ?_); go_simp; (try (simp only [↓IntWalk.iteOmega]; go_simp)); (first | (refine hK _ ?_; clear hK K) | (apply Exists.intro; refine ⟨fun _ => ?_, hK _ ?_⟩; (first | fail); clear hK K)))
  (refine mix_step (by kernel_rfl) (by kernel_rfl) (fun K hK => ?_); go_simp; (try (simp only [↓IntWalk.iteOmega]; go_simp)); (first | (refine hK _ ?_; clear hK K) | (apply Exists.intro; refine ⟨fun _ => ?_, hK _ ?_⟩; (first | fail); clear hK K)))
  (refine mix_step (by kernel_rfl) (by kernel_rfl) (fun K hK => ?_); go_simp; (try (simp only [↓IntWalk.iteOmega]; go_simp)); (first | (refine hK _ ?_; clear hK K) | (apply Exists.intro; refine ⟨fun _ => ?_, hK _ ?_⟩; (first | fail); clear hK K)))
  (refine mix_step (by kernel_rfl) (by kernel_rfl) (fun K hK => ?_); go_simp; (try (simp only [↓IntWalk.iteOmega]; go_simp)); (first | (refine hK _ ?_; clear hK K) | (apply Exists.intro; refine ⟨fun _ => ?_, hK _ ?_⟩; (first | fail); clear hK K)))
  refine mix_nil ?_
  rintro ⟨dq, osq⟩
  have hbq := below_regrown w4 dq osq
  generalize grow (redrawn w4 dq) osq = w5 at *
  refine (show wpList _ _ _ _ _ _ from ?_)
  simp only [List.drop, Act.put, List.setIfInBounds_toArray, List.set]
  clear k1 k2 hlk
  have hbB := hbB.trans (hbq.mono (by have := RP.out.lt; omega))
  have HOT := Lib.hid (HOT.out.trans (Others.of_below hbq))
  have RP := Lib.hid (RP.out.kept hbq)
  have RT := Lib.hid (RT.out.kept hbq)
  have HP := Lib.hid (HP.out.kept hbq)
  have HJo := Lib.hid (HJo.out.later hbq)
  clear hbq
  go_upto_region 12 with fail
  have k1 := cell_regrown (show w5.cell? ⟨t.tb, 1, none⟩ = some (.map (some t.pb)) from RT.out.cell 1)
  have k2 := cell_regrown (show w5.cell? ⟨pb, 1, none⟩ = some (.int .i64 (x : Nat)) from RP.out.cell 1)
  have k3 := cell_regrown (show w5.cell? ⟨pb, 3, none⟩ = some (.string bd) from RP.out.cell 3)
  refine wp_region_mix 8 (by kernel_rfl) (by kernel_rfl) (by kernel_rfl) ?_
  (refine mix_step (by kernel_rfl) (by kernel_rfl) (fun K hK => ?_); go_simp; (try (simp only [↓IntWalk.iteOmega]; go_simp)); (first | (refine hK _ ?_; clear hK K) | (apply Exists.intro; refine ⟨fun _ => ?_, hK _ ?_⟩; (first | fail); clear hK K)))
  (refine mix_step (by kernel_rfl) (by kernel_rfl) (fun K hK => ?_); go_simp; (try (simp only [↓IntWalk.iteOmega]; go_simp)); (first | (refine hK _ ?_; clear hK K) | (apply Exists.intro; refine ⟨fun _ => ?_, hK _ ?_⟩; (first | fail); clear hK K)))
  (refine mix_step (by kernel_rfl) (by kernel_rfl) (fun K hK => ?_); go_simp; (try (simp only [↓IntWalk.iteOmega]; go_simp)); (first | (refine hK _ ?_; clear hK K) | (apply Exists.intro; refine ⟨fun _ => ?_, hK _ ?_⟩; (first | fail); clear hK K)))
  (refine mix_step (by kernel_rfl) (by kernel_rfl) (fun K hK => ?_); go_simp; (try (simp only [↓IntWalk.iteOmega]; go_simp)); (first | (refine hK _ ?_; clear hK K) | (apply Exists.intro; refine ⟨fun _ => ?_, hK _ ?_⟩; (first | fail); clear hK K)))
  (refine mix_step (by kernel_rfl) (by kernel_rfl) (fun K hK => ?_); go_simp; (try (simp only [↓IntWalk.iteOmega]; go_simp)); (first | (refine hK _ ?_; clear hK K) | (apply Exists.intro; refine ⟨fun _ => ?_, hK _ ?_⟩; (first | fail); clear hK K)))
  (refine mix_step (by kernel_rfl) (by kernel_rfl) (fun K hK => ?_); go_simp; (try (simp only [↓IntWalk.iteOmega]; go_simp)); (first | (refine hK _ ?_; clear hK K) | (apply Exists.intro; refine ⟨fun _ => ?_, hK _ ?_⟩; (first | fail); clear hK K)))
  (refine mix_step (by kernel_rfl) (by kernel_rfl) (fun K hK => ?_); go_simp; (try (simp only [↓IntWalk.iteOmega]; go_simp)); (first | (refine hK _ ?_; clear hK K) | (apply Exists.intro; refine ⟨fun _ => ?_, hK _ ?_⟩; (first | fail); clear hK K)))
  (refine mix_step (by kernel_rfl) (by kernel_rfl) (fun K hK => ?_); go_simp; (try (simp only [↓IntWalk.iteOmega]; go_simp)); (first | (refine hK _ ?_; clear hK K) | (apply Exists.intro; refine ⟨fun _ => ?_, hK _ ?_⟩; (first | fail); clear hK K)))
  refine mix_nil ?_
  rintro ⟨dq, osq⟩
  have hbq := below_regrown w5 dq osq
  generalize grow (redrawn w5 dq) osq = w6 at *
  refine (show wpList _ _ _ _ _ _ from ?_)
  simp only [List.drop, Act.put, List.setIfInBounds_toArray, List.set]
  clear k1 k2 k3
  have hbB := hbB.trans (hbq.mono (by have := RP.out.lt; omega))
  have HOT := Lib.hid (HOT.out.trans (Others.of_below hbq))
  have RP := Lib.hid (RP.out.kept hbq)
  have RT := Lib.hid (RT.out.kept hbq)
  have HP := Lib.hid (HP.out.kept hbq)
  have HJo := Lib.hid (HJo.out.later hbq)
  clear hbq
  obtain ⟨w7, hup, HP7, hoth7, hsz7, hb7⟩ := run_update_new (P := Try.prog) (t := 62) (k := .int .i64 (x : Int)) Try.underlying62 Try.underlying3 HP.out (isKey64 _) (by intro q hq; obtain ⟨p, _, rfl⟩ := List.mem_map.1 hq; exact isKey64 _) (piece_not hx) (.string bd)
  have HP7 : MapIs w7 t.pb ((ps ++ [(x, bd)]).map pieceKV) := by rw [List.map_append]; exact HP7
  have HJo := Lib.hid (HJo.out.put (ps ++ [(x, bd)]) HP7 hoth7)
  have HOT : Hid (Others w w7) := HOT.out.trans (fun b tt cs hr _ _ _ => (hoth7 b (row_map hr HP.out)).trans hr)
  have RP : Hid (RowIs w7 pb 57 #[U32 n, .int .i64 (x : Nat), .int .i64 (c : Nat), .string bd]) := (hoth7 pb (row_map RP.out HP.out)).trans RP.out
  have RT : Hid (RowIs w7 t.tb 64 #[.int .i64 (c : Nat), .map (some t.pb)]) := (hoth7 _ (row_map RT.out HP.out)).trans RT.out
  have HP := Lib.hid HP7
  have hbB := hbB.trans (hb7 B hBp)
  clear HP7 hoth7 hsz7 hb7
  go_upto_region 13 with fail
  have k1 := cell_regrown (show w7.cell? ⟨t.tb, 1, none⟩ = some (.map (some t.pb)) from RT.out.cell 1)
  have k2 := cell_regrown (show w7.cell? ⟨t.tb, 0, none⟩ = some (.int .i64 (c : Nat)) from RT.out.cell 0)
  have hln : ∀ (p : Regrown) (ty : TypeId), (Builtin.len_ #[62] ty #[.map (some t.pb)]).run Try.prog (grow (redrawn w7 p.d) p.os) = .ok (.int .i64 ((ps.length + 1 : Nat) : Int)) (grow (redrawn w7 p.d) p.os) := fun p ty => by
    have := run_len_map (P := Try.prog) (t := 62) Try.underlying62 (HP.out.kept (below_regrown w7 p.d p.os)) ty
    simpa using this
  refine wp_region_mix 10 (by kernel_rfl) (by kernel_rfl) (by kernel_rfl) ?_
  (refine mix_step (by kernel_rfl) (by kernel_rfl) (fun K hK => ?_); go_simp; (try (simp only [↓IntWalk.iteOmega]; go_simp)); (first | (refine hK _ ?_; clear hK K) | (apply Exists.intro; refine ⟨fun _ => ?_, hK _ ?_⟩; (first | fail); clear hK K)))
  (refine mix_step (by kernel_rfl) (by kernel_rfl) (fun K hK => ?_); go_simp; (try (simp only [↓IntWalk.iteOmega]; go_simp)); (first | (refine hK _ ?_; clear hK K) | (apply Exists.intro; refine ⟨fun _ => ?_, hK _ ?_⟩; (first | fail); clear hK K)))
  (refine mix_step (by kernel_rfl) (by kernel_rfl) (fun K hK => ?_); go_simp; (try (simp only [↓IntWalk.iteOmega]; go_simp)); (first | (refine hK _ ?_; clear hK K) | (apply Exists.intro; refine ⟨fun _ => ?_, hK _ ?_⟩; (first | fail); clear hK K)))
  (refine mix_step (by kernel_rfl) (by kernel_rfl) (fun K hK => ?_); go_simp; (try (simp only [↓IntWalk.iteOmega]; go_simp)); (first | (refine hK _ ?_; clear hK K) | (apply Exists.intro; refine ⟨fun _ => ?_, hK _ ?_⟩; (first | fail); clear hK K)))
  (refine mix_step (by kernel_rfl) (by kernel_rfl) (fun K hK => ?_); go_simp; (try (simp only [↓IntWalk.iteOmega]; go_simp)); (first | (refine hK _ ?_; clear hK K) | (apply Exists.intro; refine ⟨fun _ => ?_, hK _ ?_⟩; (first | fail); clear hK K)))
  (refine mix_step (by kernel_rfl) (by kernel_rfl) (fun K hK => ?_); go_simp; (try (simp only [↓IntWalk.iteOmega]; go_simp)); (first | (refine hK _ ?_; clear hK K) | (apply Exists.intro; refine ⟨fun _ => ?_, hK _ ?_⟩; (first | fail); clear hK K)))
  (refine mix_step (by kernel_rfl) (by kernel_rfl) (fun K hK => ?_); go_simp; (try (simp only [↓IntWalk.iteOmega]; go_simp)); (first | (refine hK _ ?_; clear hK K) | (apply Exists.intro; refine ⟨fun _ => ?_, hK _ ?_⟩; (first | fail); clear hK K)))
  (refine mix_step (by kernel_rfl) (by kernel_rfl) (fun K hK => ?_); go_simp; (try (simp only [↓IntWalk.iteOmega]; go_simp)); (first | (refine hK _ ?_; clear hK K) | (apply Exists.intro; refine ⟨fun _ => ?_, hK _ ?_⟩; (first | fail); clear hK K)))
  (refine mix_step (by kernel_rfl) (by kernel_rfl) (fun K hK => ?_); go_simp; (try (simp only [↓IntWalk.iteOmega]; go_simp)); (first | (refine hK _ ?_; clear hK K) | (apply Exists.intro; refine ⟨fun _ => ?_, hK _ ?_⟩; (first | fail); clear hK K)))
  (refine mix_step (by kernel_rfl) (by kernel_rfl) (fun K hK => ?_); go_simp; (try (simp only [↓IntWalk.iteOmega]; go_simp)); (first | (refine hK _ ?_; clear hK K) | (apply Exists.intro; refine ⟨fun _ => ?_, hK _ ?_⟩; (first | fail); clear hK K)))
  refine mix_nil ?_
  rintro ⟨dq, osq⟩
  have hbq := below_regrown w7 dq osq
  generalize grow (redrawn w7 dq) osq = w8 at *
  refine (show wpList _ _ _ _ _ _ from ?_)
  simp only [List.drop, Act.put, List.setIfInBounds_toArray, List.set]
  clear k1 k2 hln hup
  have hbB := hbB.trans (hbq.mono (by have := RP.out.lt; omega))
  have HOT := Lib.hid (HOT.out.trans (Others.of_below hbq))
  have RP := Lib.hid (RP.out.kept hbq)
  have RT := Lib.hid (RT.out.kept hbq)
  have HP := Lib.hid (HP.out.kept hbq)
  have HJo := Lib.hid (HJo.out.later hbq)
  clear hbq
  have hmore' : decide (((ps.length + 1 : Nat) : Int) < (c : Int)) = false := decide_eq_false (by omega)
  have hpv : ∀ i : Nat, ∀ q ∈ (ps ++ [(x, bd)]).map pieceKV, q.1 = .int .i64 (i : Int) → q.2 = .string (val i) := fun i q hq he => by
    obtain ⟨p, hp, rfl⟩ := List.mem_map.1 hq
    have he : Value.int .i64 (p.1 : Int) = .int .i64 (i : Int) := he
    simp only [Value.int.injEq, true_and] at he
    have hpi : p.1 = i := by omega
    have := hval p hp
    rw [hpi] at this
    rw [← this]
    rfl
  have hl := fun (i : Nat) (hi : i < c) => run_lookup_hit (P := Try.prog) (t := 62) (k := .int .i64 (i : Int)) (v := .string (val i)) Try.underlying62 Try.underlying3 HP.out (isKey64 _) (by intro q hq; obtain ⟨p, _, rfl⟩ := List.mem_map.1 hq; exact isKey64 _) (by obtain ⟨p, hp, hpx⟩ := hall i hi; exact ⟨_, List.mem_map.2 ⟨p, hp, rfl⟩, by rw [← hpx]; rfl⟩) (hpv i) false
  have hl := Lib.hid hl
  have HSZ := Lib.hid hsz
  have HD : Hid (Calls Try.prog 18 #[.pointer (some ⟨J, 0, none⟩), U32 n] w8 fun e w' => e = .returned (.tuple #[]) ∧ JoinIs B J w' (l1 ++ l2) ∧ Below B w8 w' ∧ Others w8 w') := by
    have h := drop_any B J l1 l2 _ w8 HJo.out (by have e1 := congrArg List.length HA1.out; have e2 := congrArg List.length HA2.out; simp at e1 e2 ⊢; omega)
    rw [← HTN.out]
    exact h
  have c1 : w8.cell? ⟨t.tb, 0, none⟩ = some (.int .i64 (c : Nat)) := RT.out.cell 0
  have c2 : w8.cell? ⟨t.tb, 1, none⟩ = some (.map (some t.pb)) := RT.out.cell 1
  have c3 : w8.cell? ⟨pb, 0, none⟩ = some (U32 n) := RP.out.cell 0
  have HMO := Lib.hid hmore
  clear hmore hx hval hall hsz
  go_wp2_with fail
  go_loop [13, 73] (fun o i => ∃ k : Nat, k ≤ c ∧ i = .int .i64 k ∧ o = .string (Tun.cat val k)) (fun _ i => c - (intOf i).toNat)
  case atStart => exact ⟨0, Nat.zero_le _, rfl, rfl⟩
  case round =>
    obtain ⟨k, hk, rfl, rfl⟩ := hrel
    by_cases hlt : k < c
    · have HL := hl.out k hlt
      simp only [Bool.false_eq_true, if_false] at HL
      have z1 := Tun.cat_size (m := 512) k (fun i hi => HSZ.out i (by omega))
      have z2 := HSZ.out k hlt
      have q : ¬ 9223372036854775807 < (Tun.cat val k).size + (val k).size := by omega
      go_wp2_with fail
      refine ⟨⟨k + 1, by omega, by go_num, rfl⟩, by simp [intOf]; omega⟩
    · obtain rfl : k = c := by omega
      go_wp2_with fail
      refine HD.out.mono ?_
      rintro e w9 ⟨rfl, hj9, hb9, ho9⟩
      have HJ9 := Lib.hid hj9
      have HO9 := Lib.hid (HOT.out.trans ho9)
      have hbB := hbB.trans hb9
      clear hj9 hb9 ho9 hl HD
      go_wp2_with fail
      refine bodyPost_ret (results_three Try.results8 _ _ _) rfl ?_
      exact ⟨rfl, ⟨_, HJ9.out, by rw [List.map_append, HA1.out, HA2.out]⟩, hbB, HO9.out⟩
end Go.Proofs.Ytdkgjbakbnhmaaa
