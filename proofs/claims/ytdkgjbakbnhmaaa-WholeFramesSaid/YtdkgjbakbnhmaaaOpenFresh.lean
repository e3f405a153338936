/- tun.Joiner.open of a joiner that keeps nothing yet. By an AI agent. -/
import Derived.Test.YtdkgjbakbnhmaaaTunRead
import Derived.Carry
namespace Go.Proofs.Ytdkgjbakbnhmaaa

namespace Grow
open Go.RowKit Go.Sort
/-- a slice of one element in a block of its own -/
def App1At (base : Nat) (e : TypeId) (v : Value) : Fact := fun w u => ∃ g cap, u = .slice (some ⟨g, 0, none⟩) 1 cap ∧ w.ownsRow base e 1 u 1 [v]
theorem stable_app1 (base : Nat) (e : TypeId) (v : Value) : Stable Bel (App1At base e v) := fun _ _ _ hb ⟨g, cap, h, ho⟩ => ⟨g, cap, h, owns_later ho hb⟩

theorem owes_append_nil {P : Program} {ops : Array Oper} {w0 : World} {a : Act} {S : List (Tmp × Fact)} {o : Oper} {s x : Tmp} {t e : TypeId} {v z : Value} {bytes B : Nat} {i : TypeInfo} (ho : o.op = .call { callee := .builtin .append, args := #[.tmp s, .tmp x], argTypes := #[t, t] })
    (hs : a.eval (.tmp s) = .slice none 0 0) (hsS : s ∉ S.map Prod.fst) (hx : (x, RowAt B e 1 #[v]) ∈ S) (ht : P.underlying t = some (.slice e)) (hi : P.info? e = some i) (hz : i.zero = some z) (hsize : i.size = 1) (hby : i.bytes = bytes) (hbs : bytes ≤ 1000) (hzs : z.cells.size = 1) (hv : v.oneCell' = true) :
    Owes Bel P ops w0 a S o (App1At w0.heap.size e v) := by
  intro ρ w hb h1 h2
  have hms : s ∈ o.looksAt ops := by simp [Oper.looksAt, ho, Op.operands, Call.operands]
  have hmx : x ∈ o.looksAt ops := by simp [Oper.looksAt, ho, Op.operands, Call.operands]
  have es : ρ.eval (.tmp s) = .slice none 0 0 := (h2 s hms hsS).trans hs
  obtain ⟨b, ex, _, hr⟩ := h1 _ hx hmx
  have ex : ρ.eval (.tmp x) = .slice (some ⟨b, 0, none⟩) 1 1 := ex
  obtain ⟨g, cap, w', hrun, hown, hgrow, _, _⟩ := run_append_lies (P := P) w t o.type w0.heap.size e i z 1 bytes ht hi hz hsize hby hzs (by decide) (.slice none 0 0) 0 [] (World.ownsRow_nil _ _ _ _) ⟨b, 0, none⟩ 1 1 [v] rfl (World.news_of_block hr) (by intro u hu; simp at hu; subst hu; exact hv) (by decide) (by decide) (by omega) hb.size _ rfl
  unfold gives execOp
  simp only [ho, resolve, invoke, builtin, Sem.run_bind, Sem.run_pure, Result.andThen_ok, List.map_toArray, List.map_cons, List.map_nil, es, ex, hrun]
  exact ⟨below_of_grown hgrow (Nat.le_refl _) (fun k hk => by cases hk), g, cap, rfl, hown⟩
end Grow

open Go.RowKit Go.Sort Grow
theorem info_u32 : ∃ i z, Try.prog.info? 28 = some i ∧ i.zero = some z ∧ i.size = 1 ∧ i.bytes = 4 ∧ z.cells.size = 1 := by
  have h : (Try.prog.info? 28).map (fun i => (i.zero.map (·.cells.size), i.size, i.bytes)) = some (some 1, 1, 4) := by kernel_rfl
  obtain ⟨i, hi, h⟩ := Option.map_eq_some_iff.1 h
  simp only [Prod.mk.injEq] at h
  obtain ⟨z, hz, h18⟩ := Option.map_eq_some_iff.1 h.1
  exact ⟨i, z, hi, hz, h.2.1, h.2.2, h18⟩

set_option maxRecDepth 20000 in
set_option maxHeartbeats 2000000 in
theorem open_fresh (B J n cnt at' : Nat) (body : ByteArray) (w : World) (hJ : RowIs w J 42 #[.slice none 0 0, .map none]) (hBJ : B ≤ J) :
    Calls Try.prog 17 #[.pointer (some ⟨J, 0, none⟩), .agg #[U32 n, .int .i64 (at' : Int), .int .i64 (cnt : Int), .string body]] w fun e w' => ∃ tb pb, e = .returned (.pointer (some ⟨tb, 0, none⟩)) ∧ JoinIs B J w' [⟨n, cnt, [], tb, pb⟩] ∧ Below B w w' ∧ ∀ j, j < w.heap.size → j ≠ J → w'.heap[j]? = w.heap[j]? := by
  obtain ⟨ti, tz, hi, hz, hz1, hz2, hz3⟩ := info_u32
  have hi := Lib.hid hi
  have hz := Lib.hid hz
  have hz1 := Lib.hid hz1
  have hz2 := Lib.hid hz2
  have hz3 := Lib.hid hz3
  have hJl := hJ.lt
  have HJ := Lib.hid hJ
  clear hJ
  go_enter Try.func17, Try.ntmps17
  go_upto_region 1 with fail
  generalize hW : w.alloc _ = W
  have hbA : Below w.heap.size w W := by rw [← hW]; exact (Below.refl _ _).alloc (Nat.le_refl _) _
  have RC : Hid (RowIs W w.heap.size 57 #[U32 n, .int .i64 (at' : Int), .int .i64 (cnt : Int), .string body]) := by show RowIs W w.heap.size 57 #[U32 n, .int .i64 (at' : Int), .int .i64 (cnt : Int), .string body]; rw [← hW]; exact rowIs_new w _ _
  clear hW
  have HJ := Lib.hid (HJ.out.kept hbA)
  have k1 := cell_regrown (show W.cell? ⟨J, 1, none⟩ = some (.map none) from HJ.out.cell 1)
  have k2 := cell_regrown (show W.cell? ⟨w.heap.size, 0, none⟩ = some (U32 n) from RC.out.cell 0)
  have hlk : ∀ w : World, (Instr.lookup 40 (.map none) (U32 n) true).run Try.prog w = .ok (.tuple #[.pointer none, .bool false]) w := fun w => by
    have hz : (zeroValue 60).run Try.prog w = .ok (.pointer none) w := by go_simp
    simp only [Instr.lookup, Sem.run_bind, run_underlying Try.underlying40, Result.andThen_ok, Sem.run_pure, MapKept.run_checkKey Try.underlying28 (isKey32 n), MapKept.run_findKey (k := U32 n) (l := []) (a := none) Try.underlying28 rfl, hz]
    rfl
  refine wp_region_mix 11 (by kernel_rfl) (by kernel_rfl) (by kernel_rfl) ?_
  (refine mix_step (by kernel_rfl) (by kernel_rfl) (fun K hK => ?_); go_simp; (try (simp only [↓IntWalk.iteOmega]; go_simp)); (first | (refine hK _ ?_; clear hK K) | (apply Exists.intro; refine ⟨fun _ => ?_, hK _ ?_⟩; (first | fail); clear hK K)))
  (refine mix_step (by kernel_rfl) (by kernel_rfl) (fun K hK => ?_); go_simp; (try (simp only [↓IntWalk.iteOmega]; go_simp)); (first | (refine hK _ ?_; clear hK K) | (apply Exists.intro; refine ⟨fun _ => ?_, hK _ ?_⟩; (first | fail); clear hK K)))
  (refine mix_step (by kernel_rfl) (by kernel_rfl) (fun K hK => ?_); go_simp; (try (simp only [↓IntWalk.iteOmega]; go_simp)); (first | (refine hK _ ?_; clear hK K) | (apply Exists.intro; refine ⟨fun _ => ?_, hK _ ?_⟩; (first | fail); clear hK K)))
  (refine mix_step (by kernel_rfl) (by kernel_rfl) (fun K hK => ?_); go_simp; (try (simp only [↓IntWalk.iteOmega]; go_simp)); (first | (refine hK _ ?_; clear hK K) | (apply Exists.intro; refine ⟨fun _ => ?_, hK _ ?_⟩; (first | fail); clear hK K)))
  (refine mix_step (by kernel_rfl) (by kernel_rfl) (fun K hK => ?_); go_simp; (try (simp only [↓IntWalk.iteOmega]; go_simp)); (first | (refine hK _ ?_; clear hK K) | (apply Exists.intro; refine ⟨fun _ => ?_, hK _ ?_⟩; (first | fail); clear hK K)))
  (refine mix_step (by kernel_rfl) (by kernel_rfl) (fun K hK => ?_); go_simp; (try (simp only [↓IntWalk.iteOmega]; go_simp)); (first | (refine hK _ ?_; clear hK K) | (apply Exists.intro; refine ⟨fun _ => ?_, hK _ ?_⟩; (first | fail); clear hK K)))
  (refine mix_step (by kernel_rfl) (by kernel_rfl) (fun K hK => ?_); go_simp; (try (simp only [↓IntWalk.iteOmega]; go_simp)); (first | (refine hK _ ?_; clear hK K) | (apply Exists.intro; refine ⟨fun _ => ?_, hK _ ?_⟩; (first | fail); clear hK K)))
  (refine mix_step (by kernel_rfl) (by kernel_rfl) (fun K hK => ?_); go_simp; (try (simp only [↓IntWalk.iteOmega]; go_simp)); (first | (refine hK _ ?_; clear hK K) | (apply Exists.intro; refine ⟨fun _ => ?_, hK _ ?_⟩; (first | fail); clear hK K)))
  (refine mix_step (by kernel_rfl) (by kernel_rfl) (fun K hK => ?_); go_simp; (try (simp only [↓IntWalk.iteOmega]; go_simp)); (first | (refine hK _ ?_; clear hK K) | (apply Exists.intro; refine ⟨fun _ => ?_, hK _ ?_⟩; (first | fail); clear hK K)))
  (refine mix_step (by kernel_rfl) (by kernel_rfl) (fun K hK => ?_); go_simp; (try (simp only [↓IntWalk.iteOmega]; go_simp)); (first | (refine hK _ ?_; clear hK K) | (apply Exists.intro; refine ⟨fun _ => ?_, hK _ ?_⟩; (first | fail); clear hK K)))
  (refine mix_step (by kernel_rfl) (by kernel_rfl) (fun K hK => ?_); go_simp; (try (simp only [↓IntWalk.iteOmega]; go_simp)); (first | (refine hK _ ?_; clear hK K) | (apply Exists.intro; refine ⟨fun _ => ?_, hK _ ?_⟩; (first | fail); clear hK K)))
  refine mix_nil ?_
  rintro ⟨dq, osq⟩
  have hbq := below_regrown W dq osq
  have HJ := Lib.hid (HJ.out.kept hbq)
  have RC := Lib.hid (RC.out.kept hbq)
  have hbW := hbA.trans (hbq.mono hbA.size)
  generalize grow (redrawn W dq) osq = W1 at *
  clear k1 k2 hbq hbA
  refine (show wpList _ _ _ _ _ _ from ?_)
  simp only [List.drop, Act.put, List.setIfInBounds_toArray, List.set]
  have HS1 : Hid (∀ j, j < w.heap.size → j ≠ J → W1.heap[j]? = w.heap[j]?) := fun j hj _ => hbW.block j hj
  have hwW1 := hbW.size
  have hq : ∀ w : World, (binOp .eql 40 (.map none) (.map none)).run Try.prog w = .ok (.bool true) w := fun w => by kernel_rfl
  have hmk : ∀ w : World, (Instr.makeMap 40 none).run Try.prog w = .ok (.map (some w.heap.size)) (w.alloc (.map #[] 0)) := fun w => run_makeMap 40 w
  have hmk2 : ∀ w : World, (Instr.makeMap 62 none).run Try.prog w = .ok (.map (some w.heap.size)) (w.alloc (.map #[] 0)) := fun w => run_makeMap 62 w
  have c1 : W1.cell? ⟨J, 1, none⟩ = some (.map none) := HJ.out.cell 1
  have c0 : W1.cell? ⟨J, 0, none⟩ = some (.slice none 0 0) := HJ.out.cell 0
  have hW1 := HJ.out.lt
  have HJa : Hid (RowIs (W1.alloc (.map #[] 0)) J 42 #[.slice none 0 0, .map none]) := HJ.out.alloc _
  go_wp2_with ((with_reducible refine at_store 40 (.tmp 28) (.tmp 26) ?_); refine wpList_store_cell rfl 40 (.tmp 28) (.tmp 26) rfl J 1 _ rfl rfl 42 _ HJa.out (by simp) (by kernel_rfl) rfl B hBJ ?_)
  intro W2 hJ2 hoth2 hsz2 hb2
  have hM2 : MapIs W2 W1.heap.size [] := (mapIs_new W1).same (hoth2 _ (by omega))
  have HJ2 := Lib.hid hJ2
  have HM2 := Lib.hid hM2
  have RC2 : Hid (RowIs W2 w.heap.size 57 #[U32 n, .int .i64 (at' : Int), .int .i64 (cnt : Int), .string body]) := (hoth2 _ (by omega)).trans (RC.out.alloc _)
  have hbB := hbW.mono (show B ≤ w.heap.size by omega)
  have hbW2 : Below B w W2 := hbB.trans (((Below.refl _ _).alloc (show B ≤ W1.heap.size by omega) _).trans hb2)
  have hsz2' : W2.heap.size = W1.heap.size + 1 := by simpa using hsz2
  have hwl : w.heap.size < W1.heap.size := RC.out.lt
  have HS2 : Hid (∀ j, j < w.heap.size → j ≠ J → W2.heap[j]? = w.heap[j]?) := fun j hj hjJ => (hoth2 j hjJ).trans ((((Below.refl _ _).alloc (Nat.le_refl W1.heap.size) _).block j (by omega)).trans (HS1.out j hj hjJ))
  have hwW2 : w.heap.size ≤ W2.heap.size := by omega
  clear hJ2 hM2 hoth2 hsz2 hb2 c0 c1 HJa
  generalize hMM : W1.heap.size = M at *
  clear hMM
  have c0 : W2.cell? ⟨J, 0, none⟩ = some (.slice none 0 0) := HJ2.out.cell 0
  have c2 : W2.cell? ⟨w.heap.size, 2, none⟩ = some (.int .i64 (cnt : Int)) := RC2.out.cell 2
  go_upto_region 9 with fail
  have RT3 : Hid (RowIs ((W2.alloc (.map #[] 0)).alloc (.cells #[.int .i64 (cnt : Int), .map (some (M + 1))] 64)) (M + 1 + 1) 64 #[.int .i64 (cnt : Int), .map (some (M + 1))]) := by
    have := rowIs_new1 W2 (.map #[] 0) 64 #[.int .i64 (cnt : Int), .map (some (M + 1))]
    rw [hsz2'] at this
    exact this
  have HP3 : Hid (MapIs ((W2.alloc (.map #[] 0)).alloc (.cells #[.int .i64 (cnt : Int), .map (some (M + 1))] 64)) (M + 1) []) := by
    have := (mapIs_new W2).kept ((Below.refl _ _).alloc (Nat.le_refl _) (.cells #[.int .i64 (cnt : Int), .map (some (M + 1))] 64))
    rw [hsz2'] at this
    exact this
  have hb3 : Below W2.heap.size W2 ((W2.alloc (.map #[] 0)).alloc (.cells #[.int .i64 (cnt : Int), .map (some (M + 1))] 64)) := ((Below.refl _ _).alloc (Nat.le_refl _) _).alloc (by simp) _
  generalize (W2.alloc (.map #[] 0)).alloc (.cells #[.int .i64 (cnt : Int), .map (some (M + 1))] 64) = W3 at *
  have HS3 : Hid (∀ j, j < w.heap.size → j ≠ J → W3.heap[j]? = w.heap[j]?) := fun j hj hjJ => (hb3.block j (by omega)).trans (HS2.out j hj hjJ)
  have hwW3 : w.heap.size ≤ W3.heap.size := Nat.le_trans hwW2 hb3.size
  have HJ3 := Lib.hid (HJ2.out.kept hb3)
  have HM3 := Lib.hid (HM2.out.kept hb3)
  have RC3 := Lib.hid (RC2.out.kept hb3)
  have hBp : B ≤ W2.heap.size := by have := HJ2.out.lt; omega
  have hbW3 := hbW2.trans (hb3.mono hBp)
  have hMl : M < W2.heap.size := HM2.out.lt
  have hPl : w.heap.size < W2.heap.size := by omega
  have hJl2 : J < W2.heap.size := HJ2.out.lt
  have hJM1 : J < M + 1 := by omega
  have k1 := cell_regrown (show W3.cell? ⟨J, 1, none⟩ = some (.map (some M)) from HJ3.out.cell 1)
  have k2 := cell_regrown (show W3.cell? ⟨w.heap.size, 0, none⟩ = some (U32 n) from RC3.out.cell 0)
  refine wp_region_mix 7 (by kernel_rfl) (by kernel_rfl) (by kernel_rfl) ?_
  (refine mix_step (by kernel_rfl) (by kernel_rfl) (fun K hK => ?_); go_simp; (try (simp only [↓IntWalk.iteOmega]; go_simp)); (first | (refine hK _ ?_; clear hK K) | (apply Exists.intro; refine ⟨fun _ => ?_, hK _ ?_⟩; (first | fail); clear hK K)))
  (refine mix_step (by kernel_rfl) (by kernel_rfl) (fun K hK => ?_); go_simp; (try (simp only [↓IntWalk.iteOmega]; go_simp)); (first | (refine hK _ ?_; clear hK K) | (apply Exists.intro; refine ⟨fun _ => ?_, hK _ ?_⟩; (first | fail); clear hK K)))
  (refine mix_step (by kernel_rfl) (by kernel_rfl) (fun K hK => ?_); go_simp; (try (simp only [↓IntWalk.iteOmega]; go_simp)); (first | (refine hK _ ?_; clear hK K) | (apply Exists.intro; refine ⟨fun _ => ?_, hK _ ?_⟩; (first | fail); clear hK K)))
  (refine mix_step (by kernel_rfl) (by kernel_rfl) (fun K hK => ?_); go_simp; (try (simp only [↓IntWalk.iteOmega]; go_simp)); (first | (refine hK _ ?_; clear hK K) | (apply Exists.intro; refine ⟨fun _ => ?_, hK _ ?_⟩; (first | fail); clear hK K)))
  (refine mix_step (by kernel_rfl) (by kernel_rfl) (fun K hK => ?_); go_simp; (try (simp only [↓IntWalk.iteOmega]; go_simp)); (first | (refine hK _ ?_; clear hK K) | (apply Exists.intro; refine ⟨fun _ => ?_, hK _ ?_⟩; (first | fail); clear hK K)))
  (refine mix_step (by kernel_rfl) (by kernel_rfl) (fun K hK => ?_); go_simp; (try (simp only [↓IntWalk.iteOmega]; go_simp)); (first | (refine hK _ ?_; clear hK K) | (apply Exists.intro; refine ⟨fun _ => ?_, hK _ ?_⟩; (first | fail); clear hK K)))
  (refine mix_step (by kernel_rfl) (by kernel_rfl) (fun K hK => ?_); go_simp; (try (simp only [↓IntWalk.iteOmega]; go_simp)); (first | (refine hK _ ?_; clear hK K) | (apply Exists.intro; refine ⟨fun _ => ?_, hK _ ?_⟩; (first | fail); clear hK K)))
  refine mix_nil ?_
  rintro ⟨dq, osq⟩
  have hbq := below_regrown W3 dq osq
  have HS4 : Hid (∀ j, j < w.heap.size → j ≠ J → (grow (redrawn W3 dq) osq).heap[j]? = w.heap[j]?) := fun j hj hjJ => (hbq.block j (by omega)).trans (HS3.out j hj hjJ)
  have hwW4 := Nat.le_trans hwW3 hbq.size
  have HJ4 := Lib.hid (HJ3.out.kept hbq)
  have RC4 := Lib.hid (RC3.out.kept hbq)
  have HM4 := Lib.hid (HM3.out.kept hbq)
  have RT4 := Lib.hid (RT3.out.kept hbq)
  have HP4 := Lib.hid (HP3.out.kept hbq)
  have hbW4 := hbW3.trans (hbq.mono (Nat.le_trans hBp hb3.size))
  generalize grow (redrawn W3 dq) osq = W4 at *
  clear k1 k2 hbq
  refine (show wpList _ _ _ _ _ _ from ?_)
  simp only [List.drop, Act.put, List.setIfInBounds_toArray, List.set]
  obtain ⟨W5, hup, HM5, hoth5, hsz5, hb5⟩ := run_update_new (P := Try.prog) (t := 40) (k := U32 n) Try.underlying40 Try.underlying28 HM4.out (isKey32 n) (by intro q hq; cases hq) (by intro q hq; cases hq) (.pointer (some ⟨M + 1 + 1, 0, none⟩))
  have HJ5 : Hid (RowIs W5 J 42 #[.slice none 0 0, .map (some M)]) := (hoth5 J (row_map HJ4.out HM4.out)).trans HJ4.out
  have RC5 : Hid (RowIs W5 w.heap.size 57 #[U32 n, .int .i64 (at' : Int), .int .i64 (cnt : Int), .string body]) := (hoth5 _ (row_map RC4.out HM4.out)).trans RC4.out
  have RT5 : Hid (RowIs W5 (M + 1 + 1) 64 #[.int .i64 (cnt : Int), .map (some (M + 1))]) := (hoth5 _ (row_map RT4.out HM4.out)).trans RT4.out
  have HP5 : Hid (MapIs W5 (M + 1) []) := HP4.out.same (hoth5 _ (by omega))
  have HM5 := Lib.hid HM5
  have hBM : B ≤ M := by omega
  have hbW5 := hbW4.trans (hb5 B hBM)
  have hwM : w.heap.size ≤ M := by omega
  have HS5 : Hid (∀ j, j < w.heap.size → j ≠ J → W5.heap[j]? = w.heap[j]?) := fun j hj hjJ => (hoth5 j (by omega)).trans (HS4.out j hj hjJ)
  have hwW5 : w.heap.size ≤ W5.heap.size := by rw [hsz5]; exact hwW4
  clear hoth5 hb5
  have hBW5 : B ≤ W5.heap.size := by have := HJ5.out.lt; omega
  go_upto_region 10 with fail
  have k1 := cell_regrown (show W5.cell? ⟨J, 0, none⟩ = some (.slice none 0 0) from HJ5.out.cell 0)
  have k2 := cell_regrown (show W5.cell? ⟨w.heap.size, 0, none⟩ = some (U32 n) from RC5.out.cell 0)
  refine wp_region_mix 9 (by kernel_rfl) (by kernel_rfl) (by kernel_rfl) ?_
  (refine mix_step (by kernel_rfl) (by kernel_rfl) (fun K hK => ?_); go_simp; (try (simp only [↓IntWalk.iteOmega]; go_simp)); (first | (refine hK _ ?_; clear hK K) | (apply Exists.intro; refine ⟨fun _ => ?_, hK _ ?_⟩; (first | fail); clear hK K)))
  (refine mix_step (by kernel_rfl) (by kernel_rfl) (fun K hK => ?_); go_simp; (try (simp only [↓IntWalk.iteOmega]; go_simp)); (first | (refine hK _ ?_; clear hK K) | (apply Exists.intro; refine ⟨fun _ => ?_, hK _ ?_⟩; (first | fail); clear hK K)))
  (refine mix_step (by kernel_rfl) (by kernel_rfl) (fun K hK => ?_); go_simp; (try (simp only [↓IntWalk.iteOmega]; go_simp)); (first | (refine hK _ ?_; clear hK K) | (apply Exists.intro; refine ⟨fun _ => ?_, hK _ ?_⟩; (first | fail); clear hK K)))
  (refine mix_step (by kernel_rfl) (by kernel_rfl) (fun K hK => ?_); go_simp; (try (simp only [↓IntWalk.iteOmega]; go_simp)); (first | (refine hK _ ?_; clear hK K) | (apply Exists.intro; refine ⟨fun _ => ?_, hK _ ?_⟩; (first | fail); clear hK K)))
  (refine mix_step (by kernel_rfl) (by kernel_rfl) (fun K hK => ?_); go_simp; (try (simp only [↓IntWalk.iteOmega]; go_simp)); (first | (refine hK _ ?_; clear hK K) | (apply Exists.intro; refine ⟨fun _ => ?_, hK _ ?_⟩; (first | fail); clear hK K)))
  (refine mix_step (by kernel_rfl) (by kernel_rfl) (fun K hK => ?_); go_simp; (try (simp only [↓IntWalk.iteOmega]; go_simp)); (first | (refine hK _ ?_; clear hK K) | (apply Exists.intro; refine ⟨fun _ => ?_, hK _ ?_⟩; (first | fail); clear hK K)))
  (refine mix_step (by kernel_rfl) (by kernel_rfl) (fun K hK => ?_); go_simp; (try (simp only [↓IntWalk.iteOmega]; go_simp)); (first | (refine hK _ ?_; clear hK K) | (apply Exists.intro; refine ⟨fun _ => ?_, hK _ ?_⟩; (first | fail); clear hK K)))
  refine mix_special _ 62 rfl rfl (stable_row _ _ _ _) (owes_buildSlice (cells := #[U32 n]) rfl (by simp) Try.underlying39 (sz := 1) (z := .int .u32 0) (by kernel_rfl) (by decide) (by decide) (by kernel_rfl)) ?_
  refine mix_special _ 63 rfl rfl (stable_app1 _ _ _) (owes_append_nil (B := W5.heap.size) (t := 39) (e := 28) (v := U32 n) (bytes := 4) rfl rfl (by simp) (by simp) Try.underlying39 hi.out hz.out hz1.out hz2.out (by decide) hz3.out rfl) ?_
  refine mix_nil ?_
  rintro ⟨dq, osq⟩ u62 - u63 ⟨g, cap, rfl, hown⟩
  have hbq := below_regrown W5 dq osq
  have HS6 : Hid (∀ j, j < w.heap.size → j ≠ J → (grow (redrawn W5 dq) osq).heap[j]? = w.heap[j]?) := fun j hj hjJ => (hbq.block j (by omega)).trans (HS5.out j hj hjJ)
  have HJ6 := Lib.hid (HJ5.out.kept hbq)
  have HM6 := Lib.hid (HM5.out.kept hbq)
  have RT6 := Lib.hid (RT5.out.kept hbq)
  have HP6 := Lib.hid (HP5.out.kept hbq)
  have hbW6 := hbW5.trans (hbq.mono hBW5)
  have HO := Lib.hid hown
  generalize grow (redrawn W5 dq) osq = W6 at *
  clear k1 k2 hbq hown
  refine (show wpList _ _ _ _ _ _ from ?_)
  simp only [List.drop, Act.put, List.setIfInBounds_toArray, List.set]
  go_wp2_with ((with_reducible refine at_store 39 (.tmp 65) (.tmp 63) ?_); refine wpList_store_cell rfl 39 (.tmp 65) (.tmp 63) rfl J 0 _ rfl rfl 42 _ HJ6.out (by simp) (by kernel_rfl) rfl B hBJ ?_)
  intro W7 hJ7 hoth7 hsz7 hb7
  have hgW : W5.heap.size ≤ g := (HO.out.lt g rfl).1
  have hJ7 : RowIs W7 J 42 #[.slice (some ⟨g, 0, none⟩) 1 cap, .map (some M)] := hJ7
  have hfin : JoinIs B J W7 [⟨n, cnt, [], M + 1 + 1, M + 1⟩] := by
    have hO7 := own_same HO.out (w' := W7) (fun k hk => hoth7 k (by
      have h1 : g = k := by simpa [Value.ownBlock] using hk
      have h2 := HJ5.out.lt
      have h3 := hgW
      intro e
      rw [← h1] at e
      rw [e] at h3
      exact absurd h2 (Nat.not_lt.2 h3)))
    refine ⟨_, _, hJ7, hBJ, ⟨rfl, ?_⟩, .inr ⟨M, rfl, hBM, HM6.out.same (hoth7 _ (row_map HJ6.out HM6.out).symm), ?_⟩, ?_, by simp, by simp, by simp⟩
    · rcases hO7.2 with h | ⟨g', cap', cur, a, b, c⟩
      · exact .inl h
      · exact .inr ⟨g', cap', cur, a, Nat.le_trans hBW5 b, c⟩
    · intro t ht
      simp only [List.mem_singleton] at ht
      subst ht
      show M + 1 ≠ M
      omega
    · intro t ht
      simp only [List.mem_singleton] at ht
      subst ht
      exact ⟨by show B ≤ M + 1 + 1; omega, by show B ≤ M + 1; omega, (hoth7 _ (row_row RT6.out HJ6.out (by decide))).trans RT6.out, HP6.out.same (hoth7 _ (row_map HJ6.out HP6.out).symm)⟩
  have HF := Lib.hid hfin
  have HS7 : Hid (∀ j, j < w.heap.size → j ≠ J → W7.heap[j]? = w.heap[j]?) := fun j hj hjJ => (hoth7 j hjJ).trans (HS6.out j hj hjJ)
  have hbW7 := hbW6.trans hb7
  clear hfin hJ7 hoth7 hsz7 hb7
  go_wp2_with fail
  go_ret
  exact ⟨_, _, rfl, HF.out, hbW7, HS7.out⟩
end Go.Proofs.Ytdkgjbakbnhmaaa
