/- Fix, Tick. By an AI agent. -/
import Derived.Test.YtcdklbhfcfamnaaLearnL
import Derived.Deep.DeepCutAuto
namespace Go.Proofs.Ytcdklbhfcfamnaa
open Go.RowKit Go.MapKept Go.Maps Go.WideShapes Go.Sort Grow

set_option maxRecDepth 20000 in
set_option maxHeartbeats 4000000 in
theorem fix_put (B T M : Nat) (ageing : Int) (lims : List Int) (L L' : List Ent) (v : Int) (m : Mac6) (q : Int) (w : World) (h : TabIs B T M w ageing lims L) (hL' : ∀ e ∈ L', I64 e.v)
    (hmay : ∀ w', Below w.heap.size w w' → Calls Try.prog 27 #[.pointer (some ⟨T, 0, none⟩), .int .i64 v, .agg #[.int .u8 (m.a.toNat : Int), .int .u8 (m.b.toNat : Int), .int .u8 (m.c.toNat : Int), .int .u8 (m.d.toNat : Int), .int .u8 (m.e.toNat : Int), .int .u8 (m.f.toNat : Int)], .int .i64 q] w' fun e w'' => e = .returned (.int .i64 0) ∧ Below w'.heap.size w' w'')
    (hup : ∀ w', MapP Try.prog 65 w' M (L.map Ent.kv) → ∃ w'', (Instr.mapUpdate 61 (.map (some M)) (keyV v m) (placeV q 0 true)).run Try.prog w' = .ok () w'' ∧ MapP Try.prog 65 w'' M (L'.map Ent.kv) ∧ (∀ j, j ≠ M → w''.heap[j]? = w'.heap[j]?) ∧ w''.heap.size = w'.heap.size ∧ ∀ B, B ≤ M → Below B w' w'') :
    Calls Try.prog 17 #[.pointer (some ⟨T, 0, none⟩), .int .i64 v, .agg #[.int .u8 (m.a.toNat : Int), .int .u8 (m.b.toNat : Int), .int .u8 (m.c.toNat : Int), .int .u8 (m.d.toNat : Int), .int .u8 (m.e.toNat : Int), .int .u8 (m.f.toNat : Int)], .int .i64 q] w fun e w' => e = .returned (.int .i64 0) ∧ TabIs B T M w' ageing lims L' ∧ w.grownBy w' (some M) := by
  have HTAB := Lib.hid h
  have HUP := Lib.hid hup
  have HLV := Lib.hid hL'
  obtain ⟨la, lc, hT, hBT, hBM, ho, hM, hIV⟩ := h
  have hbW : Below w.heap.size w (w.alloc (.cells #[.int .u8 (m.a.toNat : Int), .int .u8 (m.b.toNat : Int), .int .u8 (m.c.toNat : Int), .int .u8 (m.d.toNat : Int), .int .u8 (m.e.toNat : Int), .int .u8 (m.f.toNat : Int)] 23)) := (Below.refl _ w).alloc (Nat.le_refl _) _
  have HR : Hid (RowIs (w.alloc (.cells #[.int .u8 (m.a.toNat : Int), .int .u8 (m.b.toNat : Int), .int .u8 (m.c.toNat : Int), .int .u8 (m.d.toNat : Int), .int .u8 (m.e.toNat : Int), .int .u8 (m.f.toNat : Int)] 23)) w.heap.size 23 #[.int .u8 (m.a.toNat : Int), .int .u8 (m.b.toNat : Int), .int .u8 (m.c.toNat : Int), .int .u8 (m.d.toNat : Int), .int .u8 (m.e.toNat : Int), .int .u8 (m.f.toNat : Int)]) := rowIs_new w 23 #[.int .u8 (m.a.toNat : Int), .int .u8 (m.b.toNat : Int), .int .u8 (m.c.toNat : Int), .int .u8 (m.d.toNat : Int), .int .u8 (m.e.toNat : Int), .int .u8 (m.f.toNat : Int)]
  have HT := Lib.hid hT
  have HM := Lib.hid hM
  have HMAY := Lib.hid (hmay _ hbW)
  clear hup hL' hT hM hmay ho hBT hBM hIV
  go_enter Try.func17, Try.ntmps17
  go_wp2_with ((with_reducible refine at_load 23 (.tmp 6) ?_); refine wpList_load_own rfl 23 (.tmp 6) rfl _ rfl _ _ _ HR.out Try.underlying23 rfl info_mac ?_)
  refine HMAY.out.mono ?_
  rintro e w1 ⟨rfl, hb1⟩
  have HR1 := Lib.hid (HR.out.kept hb1)
  have hbW := hbW.trans (hb1.mono hbW.size)
  clear hb1 HMAY HR
  go_upto_region 4 with fail
  have q3 := cell_regrown (show w1.cell? ⟨T, 2, none⟩ = some (.map (some M)) from (HT.out.kept hbW).cell 2)
  have HM4 := Lib.hid (HM.out.kept hbW)
  refine wp_region_mix 9 (by kernel_rfl) (by kernel_rfl) (by kernel_rfl) ?_
  (refine mix_step (by kernel_rfl) (by kernel_rfl) (fun K hK => ?_); go_simp; (try (simp only [↓IntWalk.iteOmega]; go_simp)); (first | (refine hK _ ?_; clear hK K) | (apply Exists.intro; refine ⟨fun _ => ?_, hK _ ?_⟩; (first | fail); clear hK K)))
  (refine mix_step (by kernel_rfl) (by kernel_rfl) (fun K hK => ?_); go_simp; (try (simp only [↓IntWalk.iteOmega]; go_simp)); (first | (refine hK _ ?_; clear hK K) | (apply Exists.intro; refine ⟨fun _ => ?_, hK _ ?_⟩; (first | fail); clear hK K)))
  (refine mix_step (by kernel_rfl) (by kernel_rfl) (fun K hK => ?_); go_simp; (try (simp only [↓IntWalk.iteOmega]; go_simp)); (first | (refine hK _ ?_; clear hK K) | (apply Exists.intro; refine ⟨fun _ => ?_, hK _ ?_⟩; (first | fail); clear hK K)))
  (refine mix_step (by kernel_rfl) (by kernel_rfl) (fun K hK => ?_); go_simp; (try (simp only [↓IntWalk.iteOmega]; go_simp)); (first | (refine hK _ ?_; clear hK K) | (apply Exists.intro; refine ⟨fun _ => ?_, hK _ ?_⟩; (first | fail); clear hK K)))
  (refine mix_step (by kernel_rfl) (by kernel_rfl) (fun K hK => ?_); go_simp; (try (simp only [↓IntWalk.iteOmega]; go_simp)); (first | (refine hK _ ?_; clear hK K) | (apply Exists.intro; refine ⟨fun _ => ?_, hK _ ?_⟩; (first | fail); clear hK K)))
  refine mix_exact (.agg #[.int .u8 (m.a.toNat : Int), .int .u8 (m.b.toNat : Int), .int .u8 (m.c.toNat : Int), .int .u8 (m.d.toNat : Int), .int .u8 (m.e.toNat : Int), .int .u8 (m.f.toNat : Int)]) rfl (exact_load_row rfl rfl (by simp) HR1.out Try.underlying23 rfl info_mac) ?_
  (refine mix_step (by kernel_rfl) (by kernel_rfl) (fun K hK => ?_); go_simp; (try (simp only [↓IntWalk.iteOmega]; go_simp)); (first | (refine hK _ ?_; clear hK K) | (apply Exists.intro; refine ⟨fun _ => ?_, hK _ ?_⟩; (first | fail); clear hK K)))
  (refine mix_step (by kernel_rfl) (by kernel_rfl) (fun K hK => ?_); go_simp; (try (simp only [↓IntWalk.iteOmega]; go_simp)); (first | (refine hK _ ?_; clear hK K) | (apply Exists.intro; refine ⟨fun _ => ?_, hK _ ?_⟩; (first | fail); clear hK K)))
  (refine mix_step (by kernel_rfl) (by kernel_rfl) (fun K hK => ?_); go_simp; (try (simp only [↓IntWalk.iteOmega]; go_simp)); (first | (refine hK _ ?_; clear hK K) | (apply Exists.intro; refine ⟨fun _ => ?_, hK _ ?_⟩; (first | fail); clear hK K)))
  refine mix_nil ?_
  rintro ⟨dr, osr⟩
  have hb8 := below_regrown w1 dr osr
  have hM5 := HM4.out.kept hb8
  have hbW5 := hbW.trans (hb8.mono hbW.size)
  clear hb8 q3
  generalize grow (redrawn w1 dr) osr = W5 at *
  refine (show wpList _ _ _ _ _ _ from ?_)
  simp only [List.drop, Act.put, List.setIfInBounds_toArray, List.set]
  obtain ⟨W6, hrun, hM6, hoth6, hsz6, hb6⟩ := HUP.out W5 hM5
  simp only [keyV, placeV] at hrun
  have hg6 : w.grownBy W6 (some M) := ⟨(hb6 0 (Nat.zero_le _)).os.trans hbW5.os, (hb6 0 (Nat.zero_le _)).tape.trans hbW5.tape, (hb6 0 (Nat.zero_le _)).output.trans hbW5.output, by rw [hsz6]; exact hbW5.size, fun k hk hne => (hoth6 k (fun e => hne (by rw [e]))).trans (hbW5.block k hk)⟩
  have HFIN := Lib.hid (tab_put HTAB.out hM6 HLV.out hg6)
  clear hM6 hoth6 hsz6 hb6 hM5
  go_wp2_with fail
  go_ret
  exact ⟨rfl, HFIN.out, hg6⟩

set_option maxRecDepth 20000 in
set_option maxHeartbeats 4000000 in
theorem tick1_any (b1 T : Nat) (ageing : Int) (c1 c2 : Value) (w : World) (e : Ent) (hb : w.cell? ⟨b1, 0, none⟩ = some (.pointer (some ⟨T, 0, none⟩))) (hT : RowIs w T 63 #[.int .i64 ageing, c1, c2]) :
    Calls Try.prog 31 #[.agg #[.int .i64 e.port, .int .i64 e.age, .bool e.fixed], .pointer (some ⟨b1, 0, none⟩)] w fun r W' => r = .returned (.bool (decide (ageing ≤ e.age))) ∧ Below w.heap.size w W' := by
  have hbA : Below w.heap.size w (w.alloc (.cells #[.int .i64 e.port, .int .i64 e.age, .bool e.fixed] 67)) := (Below.refl _ w).alloc (Nat.le_refl _) _
  have k1 : (w.alloc (.cells #[.int .i64 e.port, .int .i64 e.age, .bool e.fixed] 67)).cell? ⟨b1, 0, none⟩ = some (.pointer (some ⟨T, 0, none⟩)) := (hbA.cell (p := ⟨b1, 0, none⟩) (cell_lt hb)).trans hb
  have k2 : (w.alloc (.cells #[.int .i64 e.port, .int .i64 e.age, .bool e.fixed] 67)).cell? ⟨T, 0, none⟩ = some (.int .i64 ageing) := (hT.kept hbA).cell 0
  have k3 : (w.alloc (.cells #[.int .i64 e.port, .int .i64 e.age, .bool e.fixed] 67)).cell? ⟨w.heap.size, 1, none⟩ = some (.int .i64 e.age) := (rowIs_new w 67 #[.int .i64 e.port, .int .i64 e.age, .bool e.fixed]).cell 1
  clear hb hT
  go_enter Try.func31, Try.ntmps31
  go_upto_region 1 with fail
  generalize (w.alloc (.cells #[.int .i64 e.port, .int .i64 e.age, .bool e.fixed] 67)) = W at *
  have k1 := cell_regrown k1
  have k2 := cell_regrown k2
  have k3 := cell_regrown k3
  refine wp_region_mix 8 (by kernel_rfl) (by kernel_rfl) (by kernel_rfl) ?_
  (refine mix_step (by kernel_rfl) (by kernel_rfl) (fun K hK => ?_); go_simp; (try (simp only [↓IntWalk.iteOmega]; go_simp)); (first | (refine hK _ ?_; clear hK K) | (apply Exists.intro; refine ⟨fun _ => ?_, hK _ ?_⟩; (first | fail); clear hK K)))
  (refine mix_step (by kernel_rfl) (by kernel_rfl) (fun K hK => ?_); go_simp; (try (simp only [↓IntWalk.iteOmega]; go_simp)); (first | (refine hK _ ?_; clear hK K) | (apply Exists.intro; refine ⟨fun _ => ?_, hK _ ?_⟩; (first | fail); clear hK K)))
  (refine mix_step (by kernel_rfl) (by kernel_rfl) (fun K hK => ?_); go_simp; (try (simp only [↓IntWalk.iteOmega]; go_simp)); (first | (refine hK _ ?_; clear hK K) | (apply Exists.intro; refine ⟨fun _ => ?_, hK _ ?_⟩; (first | fail); clear hK K)))
  (refine mix_step (by kernel_rfl) (by kernel_rfl) (fun K hK => ?_); go_simp; (try (simp only [↓IntWalk.iteOmega]; go_simp)); (first | (refine hK _ ?_; clear hK K) | (apply Exists.intro; refine ⟨fun _ => ?_, hK _ ?_⟩; (first | fail); clear hK K)))
  (refine mix_step (by kernel_rfl) (by kernel_rfl) (fun K hK => ?_); go_simp; (try (simp only [↓IntWalk.iteOmega]; go_simp)); (first | (refine hK _ ?_; clear hK K) | (apply Exists.intro; refine ⟨fun _ => ?_, hK _ ?_⟩; (first | fail); clear hK K)))
  (refine mix_step (by kernel_rfl) (by kernel_rfl) (fun K hK => ?_); go_simp; (try (simp only [↓IntWalk.iteOmega]; go_simp)); (first | (refine hK _ ?_; clear hK K) | (apply Exists.intro; refine ⟨fun _ => ?_, hK _ ?_⟩; (first | fail); clear hK K)))
  (refine mix_step (by kernel_rfl) (by kernel_rfl) (fun K hK => ?_); go_simp; (try (simp only [↓IntWalk.iteOmega]; go_simp)); (first | (refine hK _ ?_; clear hK K) | (apply Exists.intro; refine ⟨fun _ => ?_, hK _ ?_⟩; (first | fail); clear hK K)))
  (refine mix_step (by kernel_rfl) (by kernel_rfl) (fun K hK => ?_); go_simp; (try (simp only [↓IntWalk.iteOmega]; go_simp)); (first | (refine hK _ ?_; clear hK K) | (apply Exists.intro; refine ⟨fun _ => ?_, hK _ ?_⟩; (first | fail); clear hK K)))
  refine mix_nil ?_
  rintro ⟨dr, osr⟩
  have hb8 := hbA.trans ((below_regrown W dr osr).mono hbA.size)
  clear k1 k2 k3
  generalize grow (redrawn W dr) osr = W5 at *
  refine (show wpList _ _ _ _ _ _ from ?_)
  simp only [List.drop, Act.put, List.setIfInBounds_toArray, List.set]
  go_wp2_with fail
  go_ret
  exact ⟨rfl, hb8⟩

def Ent.older (e : Ent) : Ent := ⟨e.v, e.m, e.port, e.age + 1, e.fixed⟩
def tickL (ageing : Int) (L : List Ent) : List Ent := (L.map Ent.older).filter (Ent.stays fun e => decide (ageing ≤ e.age))

set_option maxRecDepth 20000 in
set_option maxHeartbeats 4000000 in
theorem tick_any (B T M : Nat) (ageing : Int) (lims : List Int) (L : List Ent) (w : World) (h : TabIs B T M w ageing lims L) (hL : L.length ≤ 1000000) (hage : ∀ e ∈ L, 0 ≤ e.age ∧ e.age ≤ 1000000000) :
    Calls Try.prog 14 #[.pointer (some ⟨T, 0, none⟩)] w fun r w' => (∃ v, r = .returned v) ∧ TabIs B T M w' ageing lims (tickL ageing L) ∧ w.grownBy w' (some M) := by
  have HTAB := Lib.hid h
  obtain ⟨la, lc, hT, hBT, hBM, ho, hM, hIV⟩ := h
  have hbW : Below w.heap.size w (w.alloc (.cells #[.pointer (some ⟨T, 0, none⟩)] 26)) := (Below.refl _ w).alloc (Nat.le_refl _) _
  have HBX : Hid (RowIs (w.alloc (.cells #[.pointer (some ⟨T, 0, none⟩)] 26)) w.heap.size 26 #[.pointer (some ⟨T, 0, none⟩)]) := rowIs_new w _ _
  have HT := Lib.hid (hT.kept hbW)
  have HM := Lib.hid (hM.kept hbW)
  have HV := Lib.hid hIV
  have HAGE := Lib.hid hage
  have hMl := hM.lt
  have hTl := hT.lt
  have HTM : Hid (T ≠ M) := fun e => by
    obtain ⟨es, ck, h1, _⟩ := hM
    rw [← e, show w.heap[T]? = _ from hT] at h1
    cases h1
  clear hT hM ho hBT hBM hIV hage
  go_enter Try.func14, Try.ntmps14
  go_upto_region 1 with fail
  have hgA : w.grownBy (w.alloc (.cells #[.pointer (some ⟨T, 0, none⟩)] 26)) (some M) := grown_of_below ⟨rfl, rfl, rfl, Nat.le_refl _, fun _ _ _ => rfl⟩ hbW
  have hsA : w.heap.size < (w.alloc (.cells #[.pointer (some ⟨T, 0, none⟩)] 26)).heap.size := by simp
  clear hbW
  generalize (w.alloc (.cells #[.pointer (some ⟨T, 0, none⟩)] 26)) = W at *
  obtain ⟨o0, hrg, hit⟩ := run_range_mapP (P := Try.prog) (t := 61) Try.underlying61 HM.out
  have HIT := Lib.hid hit
  have c1 : W.cell? ⟨w.heap.size, 0, none⟩ = some (.pointer (some ⟨T, 0, none⟩)) := HBX.out.cell 0
  have c2 : W.cell? ⟨T, 2, none⟩ = some (.map (some M)) := HT.out.cell 2
  clear hit
  go_upto_region 2 with fail
  go_wp2_with fail
  have hg0 : W.grownBy (W.alloc o0) (some M) := grown_of_below ⟨rfl, rfl, rfl, Nat.le_refl _, fun _ _ _ => rfl⟩ ((Below.refl _ W).alloc (Nat.le_refl _) o0)
  clear hrg c1 c2
  generalize (W.alloc o0) = w0 at *
  go_loopw [2, 3] (fun _ _ wr => ∃ (done left : List Ent), Hid (IterAt Try.prog 65 wr W.heap.size M ((done.map Ent.older).map Ent.kv) (left.map Ent.kv)) ∧ Hid ((done ++ left).Perm L) ∧ W.grownBy wr (some M)) (fun _ _ wr => leftAt wr M W.heap.size)
  case atStart => exact ⟨[], L, HIT, by show List.Perm _ _; simp, hg0⟩
  case round =>
    rename_i wr
    obtain ⟨done, left, HI, HP, hgw⟩ := hrel
    have HBXr : Hid (RowIs wr w.heap.size 26 #[.pointer (some ⟨T, 0, none⟩)]) := (hgw.block _ hsA (fun e => by cases e; omega)).trans HBX.out
    have HTr : Hid (RowIs wr T 63 #[.int .i64 ageing, .slice la lims.length lc, .map (some M)]) := (hgw.block _ HT.out.lt (fun e => HTM.out (by cases e; rfl))).trans HT.out
    rcases run_nextP (P := Try.prog) HI.out with ⟨h0, hnx⟩ | ⟨p, left', w2, hpl, hnx, hE, hoth, hsz, hbl⟩
    · obtain rfl : left = [] := List.map_eq_nil_iff.1 h0
      clear h0
      have c1 : wr.cell? ⟨w.heap.size, 0, none⟩ = some (.pointer (some ⟨T, 0, none⟩)) := HBXr.out.cell 0
      have hP : done.Perm L := by simpa using HP.out
      have hI := HI.out.map
      rw [List.map_nil, List.append_nil] at hI
      have hML : MapP Try.prog 65 wr M ((L.map Ent.older).map Ent.kv) := hI.perm ((hP.map _).map _)
      have HG := Lib.hid (gone_any T M 31 (.pointer (some ⟨w.heap.size, 0, none⟩)) (fun e => decide (ageing ≤ e.age)) _ _ (L.map Ent.older) wr HTr.out hML (by rw [List.length_map]; exact hL) (by
        intro e he
        obtain ⟨e0, he0, rfl⟩ := List.mem_map.1 he
        exact HV.out e0 he0) (enters_of Try.func31 (by kernel_rfl) rfl) (fun W' e hg' => tick1_any w.heap.size T ageing _ _ W' e (RowIs.cell ((hg'.block _ HBXr.out.lt (fun e => by cases e; omega)).trans HBXr.out) 0) ((hg'.block _ HTr.out.lt (fun e => HTM.out (by cases e; rfl))).trans HTr.out)))
      have HGW := Lib.hid (show w.grownBy wr (some M) from ⟨hgw.os.trans hgA.os, hgw.tape.trans hgA.tape, hgw.output.trans hgA.output, Nat.le_trans hgA.size hgw.size, fun k hk hne => (hgw.block k (Nat.lt_of_lt_of_le hk hgA.size) hne).trans (hgA.block k hk hne)⟩)
      clear hP hI hML
      go_wp2_with fail
      refine HG.out.mono ?_
      rintro r w5 ⟨rfl, hm5, hg5⟩
      have hgF : w.grownBy w5 (some M) := ⟨hg5.os.trans HGW.out.os, hg5.tape.trans HGW.out.tape, hg5.output.trans HGW.out.output, Nat.le_trans HGW.out.size hg5.size, fun k hk hne => (hg5.block k (Nat.lt_of_lt_of_le hk HGW.out.size) hne).trans (HGW.out.block k hk hne)⟩
      have HFIN : Hid (TabIs B T M w5 ageing lims (tickL ageing L)) := tab_put HTAB.out hm5 (by
        intro e he
        obtain ⟨e0, he0, rfl⟩ := List.mem_map.1 (List.mem_filter.1 he).1
        exact HV.out e0 he0) hgF
      clear hm5 hg5
      go_wp2_with fail
      refine bodyPost_end (v := .tuple #[]) (by kernel_rfl) rfl ?_
      exact ⟨⟨_, rfl⟩, HFIN.out, hgF⟩
    · obtain ⟨e, L', hpe, rfl, hl'⟩ := perm_pick hpl
      have hen := run_entryP (P := Try.prog) hE
      simp only [Ent.kv, keyV, placeV] at hnx hen
      have HG2 : Hid (W.grownBy w2 (some M)) := grown_of_set hgw (.inl (Nat.le_refl _)) hoth (hbl 0 (Nat.zero_le _))
      have HE := Lib.hid hE
      have HPE := Lib.hid hpe
      have HPL := Lib.hid hpl
      have HL' := Lib.hid hl'
      have hsw2 : W.heap.size ≤ w2.heap.size := HG2.out.size
      clear hoth hbl hsz hE hpe hpl hl' hgw
      go_upto_region 5 with fail
      have hbA : Below w2.heap.size w2 ((w2.alloc (.cells #[.int .i64 e.v, .int .u8 (e.m.a.toNat : Int), .int .u8 (e.m.b.toNat : Int), .int .u8 (e.m.c.toNat : Int), .int .u8 (e.m.d.toNat : Int), .int .u8 (e.m.e.toNat : Int), .int .u8 (e.m.f.toNat : Int)] 65)).alloc (.cells #[.int .i64 e.port, .int .i64 e.age, .bool e.fixed] 67)) := ((Below.refl _ w2).alloc (Nat.le_refl _) _).alloc (by simp) _
      have RK : Hid (RowIs ((w2.alloc (.cells #[.int .i64 e.v, .int .u8 (e.m.a.toNat : Int), .int .u8 (e.m.b.toNat : Int), .int .u8 (e.m.c.toNat : Int), .int .u8 (e.m.d.toNat : Int), .int .u8 (e.m.e.toNat : Int), .int .u8 (e.m.f.toNat : Int)] 65)).alloc (.cells #[.int .i64 e.port, .int .i64 e.age, .bool e.fixed] 67)) w2.heap.size 65 #[.int .i64 e.v, .int .u8 (e.m.a.toNat : Int), .int .u8 (e.m.b.toNat : Int), .int .u8 (e.m.c.toNat : Int), .int .u8 (e.m.d.toNat : Int), .int .u8 (e.m.e.toNat : Int), .int .u8 (e.m.f.toNat : Int)]) := (rowIs_new w2 65 #[.int .i64 e.v, .int .u8 (e.m.a.toNat : Int), .int .u8 (e.m.b.toNat : Int), .int .u8 (e.m.c.toNat : Int), .int .u8 (e.m.d.toNat : Int), .int .u8 (e.m.e.toNat : Int), .int .u8 (e.m.f.toNat : Int)]).alloc _
      have RP : Hid (RowIs ((w2.alloc (.cells #[.int .i64 e.v, .int .u8 (e.m.a.toNat : Int), .int .u8 (e.m.b.toNat : Int), .int .u8 (e.m.c.toNat : Int), .int .u8 (e.m.d.toNat : Int), .int .u8 (e.m.e.toNat : Int), .int .u8 (e.m.f.toNat : Int)] 65)).alloc (.cells #[.int .i64 e.port, .int .i64 e.age, .bool e.fixed] 67)) (w2.heap.size + 1) 67 #[.int .i64 e.port, .int .i64 e.age, .bool e.fixed]) := by
        have h := rowIs_new (w2.alloc (.cells #[.int .i64 e.v, .int .u8 (e.m.a.toNat : Int), .int .u8 (e.m.b.toNat : Int), .int .u8 (e.m.c.toNat : Int), .int .u8 (e.m.d.toNat : Int), .int .u8 (e.m.e.toNat : Int), .int .u8 (e.m.f.toNat : Int)] 65)) 67 #[.int .i64 e.port, .int .i64 e.age, .bool e.fixed]
        rw [World.size_alloc] at h
        exact h
      have HE4 : Hid (IterAt Try.prog 65 ((w2.alloc (.cells #[.int .i64 e.v, .int .u8 (e.m.a.toNat : Int), .int .u8 (e.m.b.toNat : Int), .int .u8 (e.m.c.toNat : Int), .int .u8 (e.m.d.toNat : Int), .int .u8 (e.m.e.toNat : Int), .int .u8 (e.m.f.toNat : Int)] 65)).alloc (.cells #[.int .i64 e.port, .int .i64 e.age, .bool e.fixed] 67)) W.heap.size M (e.kv :: (done.map Ent.older).map Ent.kv) left') := HE.out.iter.later hbA
      have HG4 := Lib.hid (grown_of_below HG2.out hbA)
      clear hbA hnx hen
      generalize ((w2.alloc (.cells #[.int .i64 e.v, .int .u8 (e.m.a.toNat : Int), .int .u8 (e.m.b.toNat : Int), .int .u8 (e.m.c.toNat : Int), .int .u8 (e.m.d.toNat : Int), .int .u8 (e.m.e.toNat : Int), .int .u8 (e.m.f.toNat : Int)] 65)).alloc (.cells #[.int .i64 e.port, .int .i64 e.age, .bool e.fixed] 67)) = w4 at *
      have HP5 : Hid ((done ++ [e] ++ L').Perm L) := by
        refine List.Perm.trans ?_ HP.out
        rw [List.append_assoc]
        exact List.Perm.append_left done HPE.out.symm
      have HMEAS : Hid (left'.length < leftAt wr M W.heap.size) := by
        show _ < _
        rw [HI.out.left_eq, HPL.out.length_eq]
        simp
      have heL : e ∈ L := HP5.out.mem_iff.1 (by simp)
      have HHV : Hid (I64 e.v) := HV.out e heL
      have hag := HAGE.out e heL
      clear heL
      have hlts := Lib.hid HE4.out.lts
      have q2 : w4.cell? ⟨w2.heap.size + 1, 1, none⟩ = some (.int .i64 e.age) := RP.out.cell 1
      go_wp2_with ((with_reducible refine at_store 3 (.tmp 19) (.tmp 18) ?_); refine wpList_store_cell rfl 3 (.tmp 19) (.tmp 18) rfl (w2.heap.size + 1) 1 _ rfl rfl 67 _ RP.out (by simp) (by kernel_rfl) rfl W.heap.size (by omega) ?_)
      intro w5 hR5 hoth5 hsz5 hb5
      have RP5 := Lib.hid hR5
      have RK5 : Hid (RowIs w5 w2.heap.size 65 #[.int .i64 e.v, .int .u8 (e.m.a.toNat : Int), .int .u8 (e.m.b.toNat : Int), .int .u8 (e.m.c.toNat : Int), .int .u8 (e.m.d.toNat : Int), .int .u8 (e.m.e.toNat : Int), .int .u8 (e.m.f.toNat : Int)]) := (hoth5 _ (by omega)).trans RK.out
      have HE5 : Hid (IterAt Try.prog 65 w5 W.heap.size M (e.kv :: (done.map Ent.older).map Ent.kv) left') := HE4.out.same (hoth5 _ (by
        have := HG2.out.size
        omega)) (hoth5 _ (by omega))
      have HG5 := Lib.hid (grown_of_set HG4.out (.inl (Nat.le_succ_of_le hsw2)) hoth5 ⟨hb5.os, hb5.tape, hb5.output, hb5.size, fun _ h => absurd h (Nat.not_lt_zero _)⟩)
      have HBX5 : Hid (RowIs w5 w.heap.size 26 #[.pointer (some ⟨T, 0, none⟩)]) := (HG5.out.block _ hsA (fun e => by cases e; omega)).trans HBX.out
      have HT5 : Hid (RowIs w5 T 63 #[.int .i64 ageing, .slice la lims.length lc, .map (some M)]) := (HG5.out.block _ HT.out.lt (fun e => HTM.out (by cases e; rfl))).trans HT.out
      clear hR5 hoth5 hb5 q2 RP RK HE4 HG4 HG2 HE HI HBXr HTr
      go_upto_region 6 with fail
      have k1 := cell_regrown (show w5.cell? ⟨w.heap.size, 0, none⟩ = some (.pointer (some ⟨T, 0, none⟩)) from HBX5.out.cell 0)
      have k2 := cell_regrown (show w5.cell? ⟨T, 2, none⟩ = some (.map (some M)) from HT5.out.cell 2)
      refine wp_region_mix 6 (by kernel_rfl) (by kernel_rfl) (by kernel_rfl) ?_
      (refine mix_step (by kernel_rfl) (by kernel_rfl) (fun K hK => ?_); go_simp; (try (simp only [↓IntWalk.iteOmega]; go_simp)); (first | (refine hK _ ?_; clear hK K) | (apply Exists.intro; refine ⟨fun _ => ?_, hK _ ?_⟩; (first | fail); clear hK K)))
      (refine mix_step (by kernel_rfl) (by kernel_rfl) (fun K hK => ?_); go_simp; (try (simp only [↓IntWalk.iteOmega]; go_simp)); (first | (refine hK _ ?_; clear hK K) | (apply Exists.intro; refine ⟨fun _ => ?_, hK _ ?_⟩; (first | fail); clear hK K)))
      (refine mix_step (by kernel_rfl) (by kernel_rfl) (fun K hK => ?_); go_simp; (try (simp only [↓IntWalk.iteOmega]; go_simp)); (first | (refine hK _ ?_; clear hK K) | (apply Exists.intro; refine ⟨fun _ => ?_, hK _ ?_⟩; (first | fail); clear hK K)))
      (refine mix_step (by kernel_rfl) (by kernel_rfl) (fun K hK => ?_); go_simp; (try (simp only [↓IntWalk.iteOmega]; go_simp)); (first | (refine hK _ ?_; clear hK K) | (apply Exists.intro; refine ⟨fun _ => ?_, hK _ ?_⟩; (first | fail); clear hK K)))
      refine mix_exact (.agg #[.int .i64 e.v, .int .u8 (e.m.a.toNat : Int), .int .u8 (e.m.b.toNat : Int), .int .u8 (e.m.c.toNat : Int), .int .u8 (e.m.d.toNat : Int), .int .u8 (e.m.e.toNat : Int), .int .u8 (e.m.f.toNat : Int)]) rfl (exact_load_row rfl rfl (by simp) RK5.out Try.underlying65 rfl info_key) ?_
      refine mix_exact (.agg #[.int .i64 e.port, .int .i64 (e.age + 1), .bool e.fixed]) rfl (exact_load_row rfl rfl (by simp) RP5.out Try.underlying67 rfl info_place) ?_
      refine mix_nil ?_
      rintro ⟨dq, osq⟩
      have hbq := below_regrown w5 dq osq
      have HE6 := Lib.hid (HE5.out.later hbq)
      have HG6 := Lib.hid (grown_of_below HG5.out hbq)
      clear k1 k2 HE5 HG5 RK5 RP5 HT5 HBX5
      generalize grow (redrawn w5 dq) osq = w6 at *
      refine (show wpList _ _ _ _ _ _ from ?_)
      simp only [List.drop, Act.put, List.setIfInBounds_toArray, List.set]
      clear hbq
      obtain ⟨x, hx⟩ := keyOf_learn e.v HHV.out e.m
      obtain ⟨w7, hup, HI7, hoth7, hsz7, hb7⟩ := run_update_oldI learn_keyed (t := 61) Try.underlying61 HE6.out hx (placeV e.port (e.age + 1) e.fixed)
      simp only [keyV, placeV] at hup
      have HI7 : Hid (IterAt Try.prog 65 w7 W.heap.size M (((done ++ [e]).map Ent.older).map Ent.kv) (L'.map Ent.kv)) := by
        show IterAt _ _ _ _ _ _ _
        rw [List.map_append, List.map_append]
        exact (HI7.lperm HL'.out).kperm (List.perm_append_comm (l₁ := [e.older.kv]))
      have HG7 := Lib.hid (grown_of_set HG6.out (.inr rfl) hoth7 (hb7 0 (Nat.zero_le _)))
      have HLEN := Lib.hid HL'.out.length_eq
      clear hoth7 hsz7 hb7 hx
      go_wp2_with fail
      refine ⟨⟨done ++ [e], L', HI7, HP5, HG7.out⟩, ?_⟩
      rw [HI7.out.left_eq, ← HLEN.out]
      exact HMEAS.out
end Go.Proofs.Ytcdklbhfcfamnaa
