/- tun.Joiner: what it keeps; drop. By an AI agent. -/
import Derived.Test.YtdkgjbakbnhmaaaDelete
import Derived.Deep.DeepCutAuto
namespace Go.Proofs.Ytdkgjbakbnhmaaa
open Go.RowKit Go.Sort Grow

/-- a text of which some pieces came, and where it lies -/
structure Tx where
  n : Nat
  cnt : Nat
  parts : List (Nat × ByteArray)
  tb : Nat
  pb : Nat

def Tx.kv (t : Tx) : Value × Value := (U32 t.n, .pointer (some ⟨t.tb, 0, none⟩))
def pieceKV (p : Nat × ByteArray) : Value × Value := (.int .i64 (p.1 : Int), .string p.2)

def TxIs (B : Nat) (w : World) (t : Tx) : Prop :=
  B ≤ t.tb ∧ B ≤ t.pb ∧ RowIs w t.tb 64 #[.int .i64 (t.cnt : Int), .map (some t.pb)] ∧ MapIs w t.pb (t.parts.map pieceKV)

def JoinIs (B J : Nat) (w : World) (l : List Tx) : Prop :=
  ∃ ord mv, RowIs w J 42 #[ord, mv] ∧ B ≤ J ∧ w.ownsRow B 28 1 ord l.length (l.map fun t => U32 t.n) ∧
    ((mv = .map none ∧ l = [] ∧ ord = .slice none 0 0) ∨ ∃ M, mv = .map (some M) ∧ B ≤ M ∧ MapIs w M (l.map Tx.kv) ∧ ∀ t ∈ l, t.pb ≠ M) ∧
    (∀ t ∈ l, TxIs B w t) ∧ (l.map (·.n)).Nodup ∧ (l.map (·.tb)).Nodup ∧ (l.map (·.pb)).Nodup

theorem joinIs_new (w : World) (B : Nat) (hB : B ≤ w.heap.size) : JoinIs B w.heap.size (w.alloc (.cells #[.slice none 0 0, .map none] 42)) [] :=
  ⟨_, _, rowIs_new w _ _, hB, World.ownsRow_nil _ _ _ _, .inl ⟨rfl, rfl, rfl⟩, (by intro t ht; cases ht), List.nodup_nil, List.nodup_nil, List.nodup_nil⟩

/-- other types, other blocks -/
theorem row_row {w : World} {a b : Nat} {t t' : TypeId} {cs cs' : Array Value} (h : RowIs w a t cs) (h' : RowIs w b t' cs') (hne : t ≠ t') : a ≠ b := by
  rintro rfl
  have := h.symm.trans h'
  simp at this
  exact hne this.2
theorem row_map {w : World} {a b : Nat} {t : TypeId} {cs : Array Value} {l : List (Value × Value)} (h : RowIs w a t cs) (h' : MapIs w b l) : a ≠ b := by
  rintro rfl
  obtain ⟨es, clock, hb, _⟩ := h'
  have := h.symm.trans hb
  cases this
theorem row_own {w : World} {a B e n : Nat} {t : TypeId} {cs : Array Value} {v : Value} {xs : List Value} (h : RowIs w a t cs) (h' : w.ownsRow B e 1 v n xs) (hne : t ≠ e) : v.ownBlock ≠ some a := by
  rcases h'.2 with ⟨rfl, _⟩ | ⟨g, cap, cur, rfl, _, hg, _⟩
  · simp [Value.ownBlock]
  · simp only [Value.ownBlock, ne_eq, Option.some.injEq]
    exact (row_row h hg hne).symm
theorem map_own {w : World} {a B e n : Nat} {l : List (Value × Value)} {v : Value} {xs : List Value} (h : MapIs w a l) (h' : w.ownsRow B e 1 v n xs) : v.ownBlock ≠ some a := by
  rcases h'.2 with ⟨rfl, _⟩ | ⟨g, cap, cur, rfl, _, hg, _⟩
  · simp [Value.ownBlock]
  · simp only [Value.ownBlock, ne_eq, Option.some.injEq]
    exact row_map (show RowIs w g e cur from hg) h

/-- a row stays while other blocks turn -/
theorem own_same {w w' : World} {B e size n : Nat} {v : Value} {xs : List Value} (h : w.ownsRow B e size v n xs) (hs : ∀ k, v.ownBlock = some k → w'.heap[k]? = w.heap[k]?) : w'.ownsRow B e size v n xs := by
  refine ⟨h.1, ?_⟩
  rcases h.2 with h | ⟨g, cap, cur, rfl, hg, hc, h⟩
  · exact .inl h
  · exact .inr ⟨g, cap, cur, rfl, hg, (hs g rfl).trans hc, h⟩

theorem JoinIs.later {B J : Nat} {w w' : World} {l : List Tx} (h : JoinIs B J w l) (hb : Below w.heap.size w w') : JoinIs B J w' l := by
  obtain ⟨ord, mv, hJ, hBJ, hown, hm, ht, h1, h2, h3⟩ := h
  refine ⟨ord, mv, hJ.kept hb, hBJ, owns_later hown hb, ?_, fun t htl => ?_, h1, h2, h3⟩
  · rcases hm with h | ⟨M, a, b, c, d⟩
    · exact .inl h
    · exact .inr ⟨M, a, b, c.kept hb, d⟩
  · obtain ⟨a, b, c, d⟩ := ht t htl
    exact ⟨a, b, c.kept hb, d.kept hb⟩

/-- rows of other types stay -/
def Others (w w' : World) : Prop := ∀ b t cs, RowIs w b t cs → t ≠ 42 → t ≠ 64 → t ≠ 28 → RowIs w' b t cs
theorem Others.trans {a b c : World} (h : Others a b) (k : Others b c) : Others a c := fun x t cs hr h1 h2 h3 => k x t cs (h x t cs hr h1 h2 h3) h1 h2 h3
theorem Others.of_below {w w' : World} (h : Below w.heap.size w w') : Others w w' := fun _ _ _ hr _ _ _ => hr.kept h
/-- .. where only these turn -/
theorem Others.of_blocks {w w' : World} {J M g : Nat} {cs cs' : Array Value} {l : List (Value × Value)} (hJ : RowIs w J 42 cs) (hM : MapIs w M l) (hg : RowIs w g 28 cs')
    (h : ∀ j, j < w.heap.size → j ≠ M → j ≠ g → j ≠ J → w'.heap[j]? = w.heap[j]?) : Others w w' := fun _ _ _ hr h1 _ h3 =>
  (h _ hr.lt (row_map hr hM) (row_row hr hg h3) (row_row hr hJ h1)).trans hr

theorem isKey32 (n : Nat) : MapKept.IsKey (.int .u32) (U32 n) := by simp [MapKept.IsKey]
theorem isKey64 (n : Int) : MapKept.IsKey (.int .i64) (.int .i64 n) := by simp [MapKept.IsKey]

set_option maxRecDepth 20000 in
set_option maxHeartbeats 2000000 in
theorem drop_any (B J : Nat) (l1 l2 : List Tx) (t : Tx) (w : World) (h : JoinIs B J w (l1 ++ t :: l2)) (hl : (l1 ++ t :: l2).length ≤ 1000) :
    Calls Try.prog 18 #[.pointer (some ⟨J, 0, none⟩), U32 t.n] w fun e w' => e = .returned (.tuple #[]) ∧ JoinIs B J w' (l1 ++ l2) ∧ Below B w w' ∧ Others w w' := by
  have hlen : 0 < (l1 ++ t :: l2).length := by simp; omega
  obtain ⟨ord, mv, hJ, hBJ, hown, hm, ht, hn1, hn2, hn3⟩ := h
  obtain ⟨M, rfl, hBM, hM, hpM⟩ : ∃ M, mv = .map (some M) ∧ B ≤ M ∧ MapIs w M ((l1 ++ t :: l2).map Tx.kv) ∧ ∀ u ∈ l1 ++ t :: l2, u.pb ≠ M := by
    rcases hm with ⟨_, h, _⟩ | h
    · simp at h
    · exact h
  obtain ⟨g, cap, rfl, hBg, hg⟩ := hown.form hlen
  have hd1 : ∀ x ∈ l1.map (·.n), x ≠ t.n := fun x hx e => by
    subst e
    rw [List.map_append, List.map_cons] at hn1
    exact (List.nodup_append.1 hn1).2.2 _ hx _ (List.mem_cons_self ..) rfl
  have hd2 : ∀ x ∈ l2.map (·.n), x ≠ t.n := fun x hx e => by
    subst e
    rw [List.map_append, List.map_cons] at hn1
    exact (List.nodup_cons.1 (List.nodup_append.1 hn1).2.1).1 hx
  have hll : (l1 ++ t :: l2).length = (l1.map (·.n) ++ t.n :: l2.map (·.n)).length := by simp
  have hmm : (l1 ++ t :: l2).map (fun t => U32 t.n) = (l1.map (·.n) ++ t.n :: l2.map (·.n)).map U32 := by simp [Function.comp_def]
  have hll2 : (l1 ++ l2).length = (l1.map (·.n) ++ l2.map (·.n)).length := by simp
  have hmm2 : (l1 ++ l2).map (fun t => U32 t.n) = (l1.map (·.n) ++ l2.map (·.n)).map U32 := by simp [Function.comp_def]
  have hgJ : g ≠ J := fun e => row_own hJ hown (by decide) (by rw [e]; rfl)
  have HOT : Hid (∀ w', (∀ j, j < w.heap.size → j ≠ M → j ≠ g → j ≠ J → w'.heap[j]? = w.heap[j]?) → Others w w') := fun w' h => by
    obtain ⟨_, h1 | ⟨g', cap', cur, e, _, hgr, _⟩⟩ := hown
    · cases h1.1
    · obtain rfl : g = g' := by simp only [Value.slice.injEq, Option.some.injEq, Addr.mk.injEq] at e; exact e.1.1
      exact Others.of_blocks hJ hM hgr h
  have hgM : g ≠ M := fun e => map_own hM hown (by rw [e]; rfl)
  have hJM := row_map hJ hM
  have hMl := hM.lt
  have hJl := hJ.lt
  rw [hmm, hll] at hown
  rw [hll] at hJ
  have hz : (l1.map (·.n) ++ t.n :: l2.map (·.n)).length ≤ 1000000 := by rw [← hll]; omega
  have HT : Hid (∀ u ∈ l1 ++ l2, TxIs B w u ∧ u.pb ≠ M ∧ u.tb ≠ M ∧ u.tb ≠ J ∧ u.pb ≠ J ∧ u.tb ≠ g ∧ u.pb ≠ g ∧ u.tb < w.heap.size ∧ u.pb < w.heap.size) := fun u hu => by
    have hu' : u ∈ l1 ++ t :: l2 := by
      rcases List.mem_append.1 hu with h | h
      · exact List.mem_append_left _ h
      · exact List.mem_append_right _ (List.mem_cons_of_mem _ h)
    obtain ⟨a, b, c, d⟩ := ht u hu'
    exact ⟨⟨a, b, c, d⟩, hpM u hu', row_map c hM, row_row c hJ (by decide), (row_map hJ d).symm, fun e => row_own c hown (by decide) (by rw [e]; rfl), fun e => map_own d hown (by rw [e]; rfl), c.lt, d.lt⟩
  have hsub : (l1 ++ l2).Sublist (l1 ++ t :: l2) := List.Sublist.append_left (List.sublist_cons_self _ _) _
  have HN : Hid (((l1 ++ l2).map (·.n)).Nodup ∧ ((l1 ++ l2).map (·.tb)).Nodup ∧ ((l1 ++ l2).map (·.pb)).Nodup) := ⟨(hsub.map _).nodup hn1, (hsub.map _).nodup hn2, (hsub.map _).nodup hn3⟩
  have HD1 := Lib.hid hd1
  have HD2 := Lib.hid hd2
  have HL2 := Lib.hid hll2
  have HM2 := Lib.hid hmm2
  have HO := Lib.hid hown
  have HMp := Lib.hid hM
  have HJ := Lib.hid hJ
  have HMK : Hid ((∀ p ∈ l1.map Tx.kv, p.1 ≠ U32 t.n) ∧ (∀ p ∈ l2.map Tx.kv, p.1 ≠ U32 t.n) ∧ (∀ p ∈ l1.map Tx.kv ++ t.kv :: l2.map Tx.kv, MapKept.IsKey (.int .u32) p.1)) := by
    have key : ∀ (l : List Tx), (∀ x ∈ l.map (·.n), x ≠ t.n) → ∀ p ∈ l.map Tx.kv, p.1 ≠ U32 t.n := fun l hl p hp e => by
      obtain ⟨u, hu, rfl⟩ := List.mem_map.1 hp
      have e : U32 u.n = U32 t.n := e
      simp only [U32, Value.int.injEq, true_and] at e
      exact hl u.n (List.mem_map.2 ⟨u, hu, rfl⟩) (by omega)
    refine ⟨key l1 hd1, key l2 hd2, fun p hp => ?_⟩
    have : p ∈ (l1 ++ t :: l2).map Tx.kv := by simpa using hp
    obtain ⟨u, _, rfl⟩ := List.mem_map.1 this
    exact isKey32 _
  clear ht hn1 hn2 hn3 hd1 hd2 hll hmm hll2 hmm2 hown hM hJ hpM hsub hlen hl
  generalize l1.map (·.n) = ns1 at *
  generalize l2.map (·.n) = ns2 at *
  go_enter Try.func18, Try.ntmps18
  go_upto_region 1 with fail
  generalize hW : w.alloc _ = W
  have hbA : Below w.heap.size w W := by rw [← hW]; exact (Below.refl _ _).alloc (Nat.le_refl _) _
  have RC : Hid (RowIs W w.heap.size 28 #[U32 t.n]) := by show RowIs W w.heap.size 28 #[U32 t.n]; rw [← hW]; exact rowIs_new w _ _
  clear hW
  have HJ := Lib.hid (HJ.out.kept hbA)
  have HMp := Lib.hid (HMp.out.kept hbA)
  have HO := Lib.hid (owns_later HO.out hbA)
  have k1 := cell_regrown (show W.cell? ⟨J, 1, none⟩ = some (.map (some M)) from HJ.out.cell 1)
  have k2 := cell_regrown (show W.cell? ⟨w.heap.size, 0, none⟩ = some (U32 t.n) from RC.out.cell 0)
  refine wp_region_mix 5 (by kernel_rfl) (by kernel_rfl) (by kernel_rfl) ?_
  (refine mix_step (by kernel_rfl) (by kernel_rfl) (fun K hK => ?_); go_simp; (try (simp only [↓IntWalk.iteOmega]; go_simp)); (first | (refine hK _ ?_; clear hK K) | (apply Exists.intro; refine ⟨fun _ => ?_, hK _ ?_⟩; (first | fail); clear hK K)))
  (refine mix_step (by kernel_rfl) (by kernel_rfl) (fun K hK => ?_); go_simp; (try (simp only [↓IntWalk.iteOmega]; go_simp)); (first | (refine hK _ ?_; clear hK K) | (apply Exists.intro; refine ⟨fun _ => ?_, hK _ ?_⟩; (first | fail); clear hK K)))
  (refine mix_step (by kernel_rfl) (by kernel_rfl) (fun K hK => ?_); go_simp; (try (simp only [↓IntWalk.iteOmega]; go_simp)); (first | (refine hK _ ?_; clear hK K) | (apply Exists.intro; refine ⟨fun _ => ?_, hK _ ?_⟩; (first | fail); clear hK K)))
  (refine mix_step (by kernel_rfl) (by kernel_rfl) (fun K hK => ?_); go_simp; (try (simp only [↓IntWalk.iteOmega]; go_simp)); (first | (refine hK _ ?_; clear hK K) | (apply Exists.intro; refine ⟨fun _ => ?_, hK _ ?_⟩; (first | fail); clear hK K)))
  (refine mix_step (by kernel_rfl) (by kernel_rfl) (fun K hK => ?_); go_simp; (try (simp only [↓IntWalk.iteOmega]; go_simp)); (first | (refine hK _ ?_; clear hK K) | (apply Exists.intro; refine ⟨fun _ => ?_, hK _ ?_⟩; (first | fail); clear hK K)))
  refine mix_nil ?_
  rintro ⟨dq, osq⟩
  have hbq := below_regrown W dq osq
  have HJ := Lib.hid (HJ.out.kept hbq)
  have HMp := Lib.hid (HMp.out.kept hbq)
  have HO := Lib.hid (owns_later HO.out hbq)
  have RC := Lib.hid (RC.out.kept hbq)
  have hbW := hbA.trans (hbq.mono hbA.size)
  generalize grow (redrawn W dq) osq = W9 at *
  clear k1 k2 hbq hbA
  refine (show wpList _ _ _ _ _ _ from ?_)
  simp only [List.drop, Act.put, List.setIfInBounds_toArray, List.set]
  obtain ⟨W10, hdel, HM10, hoth, hsz10, hb10⟩ := run_delete_hit (P := Try.prog) (ty := 0) (t := 40) (kt := 28) (et := 60) (d := .int .u32) (k := U32 t.n) (v := .pointer (some ⟨t.tb, 0, none⟩)) (l1 := l1.map Tx.kv) (l2 := l2.map Tx.kv) Try.underlying40 Try.underlying28 (by simpa [Tx.kv] using HMp.out) (isKey32 _) HMK.out.2.2 HMK.out.1 HMK.out.2.1
  have HJ10 : Hid (RowIs W10 J 42 #[.slice (some ⟨g, 0, none⟩) (ns1 ++ t.n :: ns2).length cap, .map (some M)]) := (hoth J hJM).trans HJ.out
  have RC10 : Hid (RowIs W10 w.heap.size 28 #[U32 t.n]) := (hoth w.heap.size (by omega)).trans RC.out
  have HO10 := Lib.hid (own_same HO.out (w' := W10) (fun k hk => hoth k (by cases hk; exact hgM)))
  have c0 : W10.cell? ⟨J, 0, none⟩ = some (.slice (some ⟨g, 0, none⟩) (ns1 ++ t.n :: ns2).length cap) := HJ10.out.cell 0
  have DL := deleteU_any B g cap t.n w.heap.size ns1 ns2 W10 HD1.out HD2.out hz HO10.out (RC10.out.cell 0) (by omega)
  have HOTH10 : Hid (∀ j, j < w.heap.size → j ≠ M → W10.heap[j]? = w.heap[j]?) := fun j hj hjM => (hoth j hjM).trans (hbW.block j hj)
  have hbW10 := (hbW.mono (show B ≤ w.heap.size by omega)).trans (hb10 B hBM)
  have HM10 := Lib.hid HM10
  clear hoth hb10 HJ HMp HO RC hbW HO10 hz
  generalize (ns1 ++ t.n :: ns2).length = L0 at DL HJ10 c0
  generalize (ns1 ++ ns2).length = L1 at DL HL2
  generalize (ns1 ++ ns2).map U32 = R1 at DL HM2
  have DL := Lib.hid DL
  go_wp2_with fail
  refine DL.out.mono ?_
  rintro e W11 ⟨rfl, hO11, hoth11, hsz11, hb11⟩
  have HJ11 : Hid (RowIs W11 J 42 #[.slice (some ⟨g, 0, none⟩) L0 cap, .map (some M)]) := (hoth11 J (Ne.symm hgJ)).trans HJ10.out
  have HM11 := Lib.hid (HM10.out.same (hoth11 M (Ne.symm hgM)))
  have HO11 := Lib.hid hO11
  have HOTH11 : Hid (∀ j, j < w.heap.size → j ≠ M → j ≠ g → W11.heap[j]? = w.heap[j]?) := fun j hj hjM hjg => (hoth11 j hjg).trans (HOTH10.out j hj hjM)
  have hbW11 := hbW10.trans hb11
  clear hO11 hoth11 hb11 c0 hdel DL
  go_wp2_with ((with_reducible refine at_store 39 (.tmp 17) (.tmp 15) ?_); refine wpList_store_cell rfl 39 (.tmp 17) (.tmp 15) rfl J 0 _ rfl rfl 42 _ HJ11.out (by simp) (by kernel_rfl) rfl B hBJ ?_)
  intro W12 hJ12 hoth12 hsz12 hb12
  have HJ12 := Lib.hid hJ12
  have HM12 := Lib.hid (HM11.out.same (hoth12 M (Ne.symm hJM)))
  have HO12 := Lib.hid (own_same HO11.out (w' := W12) (fun k hk => hoth12 k (by cases hk; exact hgJ)))
  have HOTH12 : Hid (∀ j, j < w.heap.size → j ≠ M → j ≠ g → j ≠ J → W12.heap[j]? = w.heap[j]?) := fun j hj hjM hjg hjJ => (hoth12 j hjJ).trans (HOTH11.out j hj hjM hjg)
  have hbW12 := hbW11.trans hb12
  clear hJ12 hoth12 hb12
  have hfin : JoinIs B J W12 (l1 ++ l2) := by
    refine ⟨.slice (some ⟨g, 0, none⟩) L1 cap, .map (some M), HJ12.out, hBJ, by rw [HL2.out, HM2.out]; exact HO12.out, .inr ⟨M, rfl, hBM, by rw [List.map_append]; exact HM12.out, fun u hu => (HT.out u hu).2.1⟩, fun u hu => ?_, HN.out.1, HN.out.2.1, HN.out.2.2⟩
    obtain ⟨⟨a, b, c, d⟩, e1, e2, e3, e4, e5, e6, e7, e8⟩ := HT.out u hu
    exact ⟨a, b, (HOTH12.out _ e7 e2 e5 e3).trans c, d.same (HOTH12.out _ e8 e1 e6 e4)⟩
  have hfin := Lib.hid hfin
  have HOTF := Lib.hid (HOT.out W12 HOTH12.out)
  clear HJ12 HM12 HO12 HOTH12
  go_wp2_with fail
  refine bodyPost_end (v := .tuple #[]) (by kernel_rfl) rfl ⟨rfl, hfin.out, hbW12, HOTF.out⟩
end Go.Proofs.Ytdkgjbakbnhmaaa
