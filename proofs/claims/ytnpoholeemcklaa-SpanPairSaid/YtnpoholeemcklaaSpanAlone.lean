/- SpanAlone: the walk. By an AI agent. -/
import Derived.Test.YtnpoholeemcklaaSpanAlone0
namespace Go.Proofs.Ytnpoholeemcklaa
open Go.RowKit Go.WideShapes Go.ChangeAt Go.ChangeShapes Go.Sort Grow

def setN (s : SS) : Nat → SS
  | 0 => s
  | j + 1 => ((setN s j).setUp (j : Nat) (decide (j % 2 = 0))).1
theorem setN_al {s : SS} {id : Id8} {ma he de : Int} {k : Nat} (h : Al s id ma he de k 0 0 1 0 0) : ∀ j, j ≤ k → Al (setN s j) id ma he de k j 0 1 0 0
  | 0, _ => h
  | j + 1, hj => al_set (setN_al h j (by omega)) (by omega)
theorem setN_ok {s : SS} {n : Int} (h : s.Ok n) : ∀ j : Nat, (setN s j).Ok (n + 100 * j)
  | 0 => h.mono (by omega)
  | j + 1 => ((setN_ok h j).setUp _ _).mono (by omega)
def costsA (i : Nat) : List Int := (List.range i).map fun (j : Nat) => 10 + (j : Int)
theorem costsA_len (i : Nat) : (costsA i).length = i := by simp [costsA]
theorem costsA_succ (i : Nat) : costsA (i + 1) = costsA i ++ [10 + (i : Int)] := by simp [costsA, List.range_succ]
theorem costsA_ok (i : Nat) (hi : i ≤ 6) : anyBad (costsA i) = false := by
  unfold anyBad
  rw [List.all_eq_true.2]
  · rfl
  · intro x hx
    unfold costsA at hx
    obtain ⟨j, hj, rfl⟩ := List.mem_map.1 hx
    have := List.mem_range.1 hj
    unfold okLim
    exact decide_eq_true (by omega)
theorem ints_of_own {w : World} {base : Nat} {la : Option Addr} {lc : Nat} {zs : List Int} (h : w.ownsRow base 3 1 (.slice la zs.length lc) zs.length (zs.map I64v)) : IntsAt w la zs := by
  rcases h.2 with ⟨_, e0⟩ | ⟨g, c', cur, e1, hB', hgr, hle, hm, hcs, ht⟩
  · exact .inl (List.eq_nil_of_length_eq_zero e0)
  · simp only [Value.slice.injEq] at e1
    refine .inr ⟨g, 0, e1.1, fun i hi => ?_⟩
    have hR : RowIs w g 3 cur := hgr
    rw [Nat.zero_add, hR.cell]
    have h1 : (zs.map I64v)[i]? = some (I64v zs[i]) := by simp [hi]
    rw [← ht, List.getElem?_take_of_lt (by omega), Array.getElem?_toList] at h1
    rw [h1]
    simp [List.getD, hi, I64v]
theorem info_int : ∃ i z, Try.prog.info? 3 = some i ∧ i.zero = some z ∧ i.size = 1 ∧ i.bytes = 8 ∧ z.cells.size = 1 := by
  have h : (Try.prog.info? 3).map (fun i => (i.zero.map (·.cells.size), i.size, i.bytes)) = some (some 1, 1, 8) := by kernel_rfl
  obtain ⟨i, hi, h⟩ := Option.map_eq_some_iff.1 h
  simp only [Prod.mk.injEq] at h
  obtain ⟨z, hz, h18⟩ := Option.map_eq_some_iff.1 h.1
  exact ⟨i, z, hi, hz, h.2.1, h.2.2, h18⟩

set_option maxRecDepth 20000 in
set_option maxHeartbeats 8000000 in
theorem spanAlone_go (id : Id8) (n : Int) (hn : 0 ≤ n ∧ n ≤ 255) (ta tb tc : UInt8) (w : World) :
    Calls Try.prog 3 #[.agg #[.int .u8 ((id.f 0).toNat : Int), .int .u8 ((id.f 1).toNat : Int), .int .u8 ((id.f 2).toNat : Int), .int .u8 ((id.f 3).toNat : Int), .int .u8 ((id.f 4).toNat : Int), .int .u8 ((id.f 5).toNat : Int), .int .u8 ((id.f 6).toNat : Int), .int .u8 ((id.f 7).toNat : Int)], .int .u8 n, .agg #[.int .u8 (ta.toNat : Int), .int .u8 (tb.toNat : Int), .int .u8 (tc.toNat : Int)]] w fun e w' => e = .returned (.bool true) ∧ Below w.heap.size w w' := by
  have hta : (ta.toNat : Int) < 256 := by have := ta.toNat_lt; omega
  have htb : (tb.toNat : Int) < 256 := by have := tb.toNat_lt; omega
  have htc : (tc.toNat : Int) < 256 := by have := tc.toNat_lt; omega
  obtain ⟨hn1, hn2⟩ := hn
  obtain ⟨ti, tz, hi, hzz, hi1, hi2, hi3⟩ := info_int
  have HIN := Lib.hid hi
  have HZ := Lib.hid hzz
  clear hi hzz
  obtain ⟨K, hK⟩ : ∃ K : Nat, 1 + n % 6 = K := ⟨(1 + n % 6).toNat, by omega⟩
  have hK1 : 1 ≤ K ∧ K ≤ 6 := by omega
  have HK := Lib.hid hK
  clear hK
  obtain ⟨hKa, hKb⟩ := hK1
  go_enter Try.func3, Try.ntmps3
  go_upto_region 1 with fail
  generalize hW : (w.alloc _).alloc _ = W
  have hbW : Below w.heap.size w W := by rw [← hW]; exact BX2 w _ _
  have RD : Hid (RowIs W w.heap.size 23 #[.int .u8 ((id.f 0).toNat : Int), .int .u8 ((id.f 1).toNat : Int), .int .u8 ((id.f 2).toNat : Int), .int .u8 ((id.f 3).toNat : Int), .int .u8 ((id.f 4).toNat : Int), .int .u8 ((id.f 5).toNat : Int), .int .u8 ((id.f 6).toNat : Int), .int .u8 ((id.f 7).toNat : Int)]) := by subst hW; exact (rowIs_new w _ _).alloc _
  have RT : Hid (RowIs W (w.heap.size + 1) 24 #[.int .u8 (ta.toNat : Int), .int .u8 (tb.toNat : Int), .int .u8 (tc.toNat : Int)]) := by subst hW; exact rowIs_new1 w _ _ _
  clear hW
  go_wp2_with fail
  refine (awake_any _).mono ?_
  rintro e w1 ⟨rfl, hb1⟩
  have hbW1 := hbW.trans (hb1.mono hbW.size)
  have RD1 := Lib.hid (RD.out.kept hb1)
  have RT1 := Lib.hid (RT.out.kept hb1)
  clear RD RT hbW hb1
  go_upto_region 4 with fail
  rw [HK.out]
  go_wp2_with fail
  go_loopw [8, 9] (fun s8 s9 wr => ∃ (i : Nat) (la : Option Addr) (lc : Nat), i ≤ K ∧ s9 = .int .i64 i ∧ s8 = .slice la i lc ∧ Hid (wr.ownsRow w.heap.size 3 1 (.slice la i lc) i ((costsA i).map I64v)) ∧ Hid (RowIs wr w.heap.size 23 #[.int .u8 ((id.f 0).toNat : Int), .int .u8 ((id.f 1).toNat : Int), .int .u8 ((id.f 2).toNat : Int), .int .u8 ((id.f 3).toNat : Int), .int .u8 ((id.f 4).toNat : Int), .int .u8 ((id.f 5).toNat : Int), .int .u8 ((id.f 6).toNat : Int), .int .u8 ((id.f 7).toNat : Int)]) ∧ Hid (RowIs wr (w.heap.size + 1) 24 #[.int .u8 (ta.toNat : Int), .int .u8 (tb.toNat : Int), .int .u8 (tc.toNat : Int)]) ∧ Below w.heap.size w wr) (fun _ s9 _ => K - (intOf s9).toNat)
  case atStart => exact ⟨0, none, 0, Nat.zero_le _, rfl, rfl, World.ownsRow_nil _ _ _ _, RD1, RT1, hbW1⟩
  case round =>
    clear RD1 RT1 hbW1
    rename World => wr
    obtain ⟨i, la, lc, hi, rfl, rfl, HO, RD, RT, hbR⟩ := hrel
    by_cases hlt : i < K
    · have hbN : Below wr.heap.size wr (wr.alloc (.cells #[.int .i64 (10 + (i : Int))] 3)) := (Below.refl _ _).alloc (Nat.le_refl _) _
      have RB := Lib.hid (rowIs_new wr 3 #[.int .i64 (10 + (i : Int))])
      have HO2 := Lib.hid (ownsLater' HO.out hbN)
      have RD2 := Lib.hid (RD.out.kept hbN)
      have RT2 := Lib.hid (RT.out.kept hbN)
      have hbR2 := hbR.trans (hbN.mono hbR.size)
      have hszr : w.heap.size ≤ wr.heap.size := hbR.size
      clear hbN HO RD RT hbR
      go_wp2_with (at_builtin; refine wpList_append_own _ rfl (.tmp 32) (.tmp 35) 26 rfl w.heap.size 3 ti tz 1 8 Try.underlying26 HIN.out HZ.out hi1 hi2 hi3 (by decide) (.slice la i lc) i ((costsA i).map I64v) rfl HO2.out ⟨wr.heap.size, 0, none⟩ 1 1 [I64v (10 + (i : Int))] rfl ?c0 ?c1 ?c2 ?c3 ?c4 ?c5 ?_)
      case c0 => rfl
      case c1 =>
        intro j u hj
        first | (rw [addr_add, RB.out.cell j, ← Array.getElem?_toList]; exact hj) | exact hj
      case c2 => first | rfl | (intro u hu; simp at hu; rw [hu]; rfl)
      case c3 => simp [maxLen]; omega
      case c4 => omega
      case c5 => first | omega | (simp; omega)
      intro v' w4 ho4 hg4 _
      obtain ⟨g2, cap2, rfl, _, _⟩ := ho4.form (by omega)
      have RD4 := Lib.hid (RD2.out.grown hg4 (grown_ne HO2.out RD2.out (by decide)))
      have RT4 := Lib.hid (RT2.out.grown hg4 (grown_ne HO2.out RT2.out (by decide)))
      have hb4 : Below w.heap.size w w4 := hbR2.grown hg4 hbR2.size (fun k e1 => (HO2.out.lt k e1).1)
      have HO4 : Hid (w4.ownsRow w.heap.size 3 1 (.slice (some ⟨g2, 0, none⟩) (i + 1) cap2) (i + 1) ((costsA (i + 1)).map I64v)) := by
        show World.ownsRow _ _ _ _ _ _ _
        rw [costsA_succ, List.map_append]
        exact ho4
      clear ho4 hg4 HO2 RD2 RT2 hbR2 RB
      go_wp2_with fail
      refine ⟨⟨i + 1, some ⟨g2, 0, none⟩, cap2, by omega, by go_num, rfl, HO4, RD4, RT4, hb4⟩, by simp [intOf]; omega⟩
    · obtain rfl : i = K := by omega
      have k1 := cell_regrown (show wr.cell? ⟨w.heap.size + 1, 1, none⟩ = some (.int .u8 (tb.toNat : Int)) from RT.out.cell 1)
      have k2 := cell_regrown (show wr.cell? ⟨w.heap.size + 1, 2, none⟩ = some (.int .u8 (tc.toNat : Int)) from RT.out.cell 2)
      have x1 : IntKind.i64.wrap (tb.toNat : Int) = (tb.toNat : Int) := IntWalk.i64_in _ (by omega)
      have x2 : IntKind.i64.wrap (tc.toNat : Int) = (tc.toNat : Int) := IntWalk.i64_in _ (by omega)
      have x3 : (tb.toNat : Int).tmod 5 = (tb.toNat : Int) % 5 := Int.tmod_eq_emod_of_nonneg (by omega)
      have x4 : (tc.toNat : Int).tmod 8 = (tc.toNat : Int) % 8 := Int.tmod_eq_emod_of_nonneg (by omega)
      have x5 : IntKind.i64.wrap (1 + (tb.toNat : Int) % 5) = 1 + (tb.toNat : Int) % 5 := IntWalk.i64_in _ (by omega)
      have x6 : IntKind.i64.wrap (1 + (tc.toNat : Int) % 8) = 1 + (tc.toNat : Int) % 8 := IntWalk.i64_in _ (by omega)
      go_upto_region 9 with fail
      refine wp_region_mix 12 (by kernel_rfl) (by kernel_rfl) (by kernel_rfl) ?_
      (refine mix_step (by kernel_rfl) (by kernel_rfl) (fun K hK => ?_); go_simp; (try (simp only [↓IntWalk.iteOmega]; go_simp)); (first | (refine hK _ ?_; clear hK K) | (apply Exists.intro; refine ⟨fun _ => ?_, hK _ ?_⟩; (first | fail); clear hK K)))
      (refine mix_step (by kernel_rfl) (by kernel_rfl) (fun K hK => ?_); go_simp; (try (simp only [↓IntWalk.iteOmega]; go_simp)); (first | (refine hK _ ?_; clear hK K) | (apply Exists.intro; refine ⟨fun _ => ?_, hK _ ?_⟩; (first | fail); clear hK K)))
      (refine mix_step (by kernel_rfl) (by kernel_rfl) (fun K hK => ?_); go_simp; (try (simp only [↓IntWalk.iteOmega]; go_simp)); (first | (refine hK _ ?_; clear hK K) | (apply Exists.intro; refine ⟨fun _ => ?_, hK _ ?_⟩; (first | fail); clear hK K)))
      (refine mix_step (by kernel_rfl) (by kernel_rfl) (fun K hK => ?_); go_simp; (try (simp only [↓IntWalk.iteOmega]; go_simp)); (first | (refine hK _ ?_; clear hK K) | (apply Exists.intro; refine ⟨fun _ => ?_, hK _ ?_⟩; (first | fail); clear hK K)))
      (refine mix_step (by kernel_rfl) (by kernel_rfl) (fun K hK => ?_); go_simp; (try (simp only [↓IntWalk.iteOmega]; go_simp)); (first | (refine hK _ ?_; clear hK K) | (apply Exists.intro; refine ⟨fun _ => ?_, hK _ ?_⟩; (first | fail); clear hK K)))
      (refine mix_step (by kernel_rfl) (by kernel_rfl) (fun K hK => ?_); go_simp; (try (simp only [↓IntWalk.iteOmega]; go_simp)); (first | (refine hK _ ?_; clear hK K) | (apply Exists.intro; refine ⟨fun _ => ?_, hK _ ?_⟩; (first | fail); clear hK K)))
      (refine mix_step (by kernel_rfl) (by kernel_rfl) (fun K hK => ?_); go_simp; (try (simp only [↓IntWalk.iteOmega]; go_simp)); (first | (refine hK _ ?_; clear hK K) | (apply Exists.intro; refine ⟨fun _ => ?_, hK _ ?_⟩; (first | fail); clear hK K)))
      (refine mix_step (by kernel_rfl) (by kernel_rfl) (fun K hK => ?_); go_simp; (try (simp only [↓IntWalk.iteOmega]; go_simp)); (first | (refine hK _ ?_; clear hK K) | (apply Exists.intro; refine ⟨fun _ => ?_, hK _ ?_⟩; (first | fail); clear hK K)))
      (refine mix_step (by kernel_rfl) (by kernel_rfl) (fun K hK => ?_); go_simp; (try (simp only [↓IntWalk.iteOmega]; go_simp)); (first | (refine hK _ ?_; clear hK K) | (apply Exists.intro; refine ⟨fun _ => ?_, hK _ ?_⟩; (first | fail); clear hK K)))
      (refine mix_step (by kernel_rfl) (by kernel_rfl) (fun K hK => ?_); go_simp; (try (simp only [↓IntWalk.iteOmega]; go_simp)); (first | (refine hK _ ?_; clear hK K) | (apply Exists.intro; refine ⟨fun _ => ?_, hK _ ?_⟩; (first | fail); clear hK K)))
      (refine mix_step (by kernel_rfl) (by kernel_rfl) (fun K hK => ?_); go_simp; (try (simp only [↓IntWalk.iteOmega]; go_simp)); (first | (refine hK _ ?_; clear hK K) | (apply Exists.intro; refine ⟨fun _ => ?_, hK _ ?_⟩; (first | fail); clear hK K)))
      (refine mix_step (by kernel_rfl) (by kernel_rfl) (fun K hK => ?_); go_simp; (try (simp only [↓IntWalk.iteOmega]; go_simp)); (first | (refine hK _ ?_; clear hK K) | (apply Exists.intro; refine ⟨fun _ => ?_, hK _ ?_⟩; (first | fail); clear hK K)))
      refine mix_nil ?_
      rintro ⟨dq, osq⟩
      have hb2 := below_regrown wr dq osq
      refine (show wpList _ _ _ _ _ _ from ?_)
      simp only [List.drop, Act.put, List.setIfInBounds_toArray, List.set]
      clear k1 k2 x1 x2 x3 x4 x5 x6
      have HO2 := Lib.hid (ownsLater' HO.out hb2)
      have RD2 := Lib.hid (RD.out.kept hb2)
      have RT2 := Lib.hid (RT.out.kept hb2)
      have hbR2 := hbR.trans (hb2.mono hbR.size)
      clear HO RD RT hbR hb2
      generalize grow (redrawn wr dq) osq = w2 at *
      obtain ⟨H, hH⟩ : ∃ H : Nat, 1 + (tb.toNat : Int) % 5 = H := ⟨(1 + (tb.toNat : Int) % 5).toNat, by omega⟩
      obtain ⟨D, hD⟩ : ∃ D : Nat, 1 + (tc.toNat : Int) % 8 = D := ⟨(1 + (tc.toNat : Int) % 8).toNat, by omega⟩
      rw [hH, hD]
      have hH1 : 1 ≤ H ∧ H ≤ 5 := by omega
      have hD1 : 1 ≤ D ∧ D ≤ 8 := by omega
      obtain ⟨hHa, hHb⟩ := hH1
      obtain ⟨hDa, hDb⟩ := hD1
      clear hH hD htb htc
      obtain ⟨M, hM⟩ : ∃ M : Int, (2 * (H : Int) + 1 + (ta.toNat : Int) % 20) = M := ⟨_, rfl⟩
      have hM1 : 2 * (H : Int) < M ∧ M ≤ 40 := by omega
      obtain ⟨hMa, hMb⟩ := hM1
      obtain ⟨zs, hzs, hzl⟩ : ∃ zs : List Int, zs = costsA i ∧ zs.length = i := ⟨_, rfl, costsA_len i⟩
      have hok : newOk zs M H D = true := by
        unfold newOk rightT
        rw [hzs, costsA_ok i (by omega), costsA_len]
        simp only [Bool.not_false, Bool.and_true, Bool.and_eq_true, decide_eq_true_eq]
        omega
      have HNW := Lib.hid (new_good id la zs lc M H D w2 (by
        have h := HO2.out
        rw [← hzs] at h
        have h' : w2.ownsRow w.heap.size 3 1 (.slice la zs.length lc) zs.length (zs.map I64v) := by rw [hzl]; exact h
        exact ints_of_own h') hok)
      rw [hzl] at HNW
      have HAL := Lib.hid (al_fresh (id := id) (zs := zs) (ma := M) (he := H) (de := D))
      rw [hzl] at HAL
      have HOK := Lib.hid (SS.Ok.fresh (id := id) hok)
      have c0 : w2.cell? ⟨w.heap.size + 1, 0, none⟩ = some (.int .u8 (ta.toNat : Int)) := RT2.out.cell 0
      have HMM := Lib.hid hM
      clear hzs hzl hok hM HK
      go_wp2_with ((with_reducible refine at_load 23 (.tmp 3) ?_); refine wpList_load_own rfl 23 (.tmp 3) rfl (w.heap.size) rfl _ _ _ RD2.out Try.underlying23 rfl (by kernel_rfl) ?_)
      rw [HMM.out]
      refine HNW.out.mono ?_
      rintro e w3 ⟨S, g, cp, pbs, rfl, hSA, hb3⟩
      have HSA := Lib.hid hSA
      have hbf := hbR2.trans (hb3.mono hbR2.size)
      have hBB : w.heap.size ≤ w2.heap.size := hbR2.size
      clear hSA hb3 HNW c0 RD2 RT2 hbR2 HO2 HMM hta
      generalize (SS.fresh id zs M H D).found.1 = s0 at *
      generalize w2.heap.size = BB at *
      go_wp2_with fail
      go_loopw [14] (fun s14 wr => ∃ j : Nat, j ≤ i ∧ s14 = .int .i64 j ∧ Hid (SpAt BB S g cp pbs wr (setN s0 j)) ∧ Below BB w3 wr) (fun s14 _ => i - (intOf s14).toNat)
      case atStart => exact ⟨0, Nat.zero_le _, rfl, HSA, Below.refl _ _⟩
      case round =>
        clear HSA
        rename World => wx
        obtain ⟨j, hj, rfl, HW, hbR⟩ := hrel
        by_cases hlt2 : j < i
        · have HOKJ := Lib.hid (setN_ok HOK.out j)
          have hb : ((j : Int) % 2 == 0) = decide (j % 2 = 0) := by
            rw [Bool.eq_iff_iff]
            simp only [beq_iff_eq, decide_eq_true_eq]
            omega
          have HN : Hid (setN s0 (j + 1) = ((setN s0 j).setUp (j : Nat) ((j : Int) % 2 == 0)).1) := by
            show _ = _
            rw [hb]
            rfl
          clear hb
          have HST := Lib.hid (set_any BB S g cp pbs wx (setN s0 j) HW.out _ HOKJ.out (by omega) (j : Nat) (wf_nat j (by omega)) ((j : Int) % 2 == 0))
          go_wp2_with fail
          refine HST.out.mono ?_
          rintro e w5 ⟨v, rfl, _, hA5, hb5, _⟩
          rw [← HN.out] at hA5
          have HA5 := Lib.hid hA5
          have hbR5 := hbR.trans hb5
          clear hA5 hb5 HST HW hbR
          go_wp2_with fail
          refine ⟨⟨j + 1, by omega, by go_num, HA5, hbR5⟩, by simp [intOf]; omega⟩
        · obtain rfl : j = i := by omega
          have HALK := Lib.hid (setN_al HAL.out j (Nat.le_refl _))
          have HOKK := Lib.hid (setN_ok HOK.out j)
          generalize setN s0 j = sK at *
          have HTK := Lib.hid (fun m hm => al_ticks HALK.out hDa m hm)
          have hpl : pbs.length = j := HW.out.len.trans HALK.out.len
          have hplz : pbs.length ≤ 1000 := by omega
          clear hpl
          go_wp2_with fail
          go_loopw [15, 16] (fun s15 s16 wr => ∃ m : Nat, m ≤ 2 * D ∧ s16 = .int .i64 ((m : Nat) + 1) ∧ s15 = .int .i64 ((m / H * ((j + 1) / 2) : Nat) : Int) ∧ Hid (SpAt BB S g cp pbs wr (tickN sK m)) ∧ Below BB w3 wr) (fun _ s16 _ => 2 * D + 1 - (intOf s16).toNat)
          case atStart => exact ⟨0, Nat.zero_le _, rfl, by simp, HW, hbR⟩
          case round =>
            clear HW hbR
            rename World => wy
            obtain ⟨m, hm, rfl, rfl, HW, hbR⟩ := hrel
            have hE : (j + 1) / 2 ≤ 3 := by omega
            have hmH : m / H ≤ 16 := Nat.le_trans (Nat.div_le_self _ _) (by omega)
            have hmE : m / H * ((j + 1) / 2) ≤ 48 := Nat.mul_le_mul hmH hE
            by_cases hlt3 : m < 2 * D
            · have HALM := Lib.hid (HTK.out (m + 1) (by omega))
              have HTD := Lib.hid (al_told HALM.out hHa hHb)
              have HOKM := Lib.hid (tickN_ok HOKK.out m)
              have HN : Hid (tickN sK (m + 1) = (tickN sK m).tick.1) := rfl
              have HSUM : Hid (m / H * ((j + 1) / 2) + (tickN sK m).tick.2.length = (m + 1) / H * ((j + 1) / 2)) := by
                show _ = _
                rw [HTD.out, ← Nat.add_mul]
                congr 1
                have h0 := div_step H m hHa hHb
                have h1 : m / H ≤ (m + 1) / H := by
                  rw [h0]
                  exact Nat.le_add_right _ _
                exact Nat.add_sub_of_le h1
              have hmH2 : (m + 1) / H ≤ 16 := Nat.le_trans (Nat.div_le_self _ _) (by omega)
              have hmE2 : (m + 1) / H * ((j + 1) / 2) ≤ 48 := Nat.mul_le_mul hmH2 hE
              have HTI := Lib.hid (tick_any BB S g cp pbs wy (tickN sK m) HW.out _ HOKM.out (by omega))
              have hol : (tickN sK m).tick.2.length ≤ 48 := by have := HSUM.out; omega
              rw [← HN.out] at HTI
              generalize (tickN sK m).tick.2 = outs at *
              generalize m / H * ((j + 1) / 2) = tl0 at *
              generalize hsn : tickN sK (m + 1) = sn at *
              have HSN := Lib.hid hsn
              clear hsn
              go_wp2_with fail
              refine HTI.out.mono ?_
              rintro e w5 ⟨v, rfl, hO5, hA5, hb5, _⟩
              obtain ⟨la5, lc5, rfl, _⟩ := hO5
              have HA5 := Lib.hid hA5
              have hbR5 := hbR.trans hb5
              clear hA5 hb5 HTI HW hbR
              have hqd : ((m : Int) + 1) / (D : Int) = (((m + 1) / D : Nat) : Int) := by
                rw [Int.natCast_ediv]
                rfl
              have HQ : Hid (1 + ((m : Int) + 1) / (D : Int) = stA D (m + 1)) := by
                show _ = _
                rw [← stA_div D (m + 1) hDa hDb (by omega), hqd]
                omega
              have hqb : 0 ≤ ((m : Int) + 1) / (D : Int) ∧ ((m : Int) + 1) / (D : Int) ≤ 100 := by
                rw [hqd]
                have h2 : (m + 1) / D ≤ 100 := Nat.le_trans (Nat.div_le_self _ _) (by omega)
                exact ⟨Int.natCast_nonneg _, Int.ofNat_le.2 h2⟩
              obtain ⟨hqb1, hqb2⟩ := hqb
              have hqt : ((m : Int) + 1).tdiv (D : Int) = ((m : Int) + 1) / (D : Int) := Int.tdiv_eq_ediv_of_nonneg (by omega)
              clear hqd
              go_wp2_with fail
              go_loopw [17] (fun s17 wz => ∃ p : Nat, p ≤ j ∧ s17 = .int .i64 p ∧ w5 = wz) (fun s17 _ => j - (intOf s17).toNat)
              case atStart => exact ⟨0, Nat.zero_le _, rfl, rfl⟩
              case round =>
                obtain ⟨p, hp, rfl, rfl⟩ := hrel
                by_cases hpz : p < j
                · have HPP := Lib.hid (HALM.out.port p hpz)
                  have HSS := Lib.hid (stateAt_any BB S g cp pbs w5 sn HA5.out hplz (p : Int) (wf_nat p (by omega)))
                  have hsa : sn.stateAt (p : Int) = (sn.port p).state := by
                    have hh : sn.has (p : Nat) = true := by unfold SS.has; simp; rw [HALM.out.len]; exact hpz
                    unfold SS.stateAt
                    rw [if_pos hh, Int.toNat_natCast]
                  rw [hsa] at HSS
                  clear hsa
                  by_cases hev : p % 2 = 0
                  · have hst : (sn.port p).state = stA D (m + 1) := by
                      have hu : (sn.port p).up = true := by rw [HPP.out.2.1]; simp; omega
                      exact (HPP.out.2.2.1 hu).2.1
                    rw [hst, ← HQ.out] at HSS
                    have hb0 : ((p : Int) % 2 == 0) = true := by rw [beq_iff_eq]; omega
                    clear hst HPP hev
                    generalize ((m : Int) + 1) / (D : Int) = qq at *
                    go_wp2_with fail
                    refine HSS.out.mono ?_
                    rintro e w6 ⟨rfl, rfl⟩
                    go_wp2_with fail
                    refine ⟨⟨p + 1, by omega, by go_num, trivial⟩, by simp [intOf]; omega⟩
                  · have hst : (sn.port p).state = 0 := by
                      have hu : (sn.port p).up = false := by rw [HPP.out.2.1]; simp; omega
                      exact (HPP.out.2.2.2 hu).2
                    rw [hst] at HSS
                    have hb0 : ((p : Int) % 2 == 0) = false := by rw [beq_eq_false_iff_ne]; omega
                    clear hst HPP hev
                    go_wp2_with fail
                    refine HSS.out.mono ?_
                    rintro e w6 ⟨rfl, rfl⟩
                    go_wp2_with fail
                    refine ⟨⟨p + 1, by omega, by go_num, trivial⟩, by simp [intOf]; omega⟩
                · obtain rfl : p = j := by omega
                  go_wp2_with fail
                  refine ⟨⟨m + 1, by omega, by go_num, by rw [← HSUM.out]; go_num, by rw [HSN.out]; exact HA5, hbR5⟩, by simp [intOf]; omega⟩
            · obtain rfl : m = 2 * D := by omega
              have HALM := Lib.hid (HTK.out (2 * D) (Nat.le_refl _))
              generalize tickN sK (2 * D) = sF at *
              have HRT := Lib.hid (root_any BB S g cp pbs wy sF HW.out)
              rw [HALM.out.root] at HRT
              have HCH : Hid (sF.chg = (((j + 1) / 2 : Nat) : Int)) := by
                show _ = _
                rw [HALM.out.chg]
                unfold chA
                rw [if_neg (by omega)]
              go_wp2_with fail
              refine HRT.out.mono ?_
              rintro e w7 ⟨rfl, hb7⟩
              have RN : RowIs (w7.alloc (.cells #[.int .u8 0, .int .u8 0, .int .u8 0, .int .u8 0, .int .u8 0, .int .u8 0, .int .u8 0, .int .u8 0, .int .i64 0, .int .u8 0, .int .u8 0, .int .u8 0, .int .u8 0, .int .u8 0, .int .u8 0, .int .u8 0, .int .u8 0, .int .i64 0] 38)) w7.heap.size 38 #[.int .u8 0, .int .u8 0, .int .u8 0, .int .u8 0, .int .u8 0, .int .u8 0, .int .u8 0, .int .u8 0, .int .i64 0, .int .u8 0, .int .u8 0, .int .u8 0, .int .u8 0, .int .u8 0, .int .u8 0, .int .u8 0, .int .u8 0, .int .i64 0] := rowIs_new w7 _ _
              have hbN : Below w7.heap.size w7 (w7.alloc (.cells #[.int .u8 0, .int .u8 0, .int .u8 0, .int .u8 0, .int .u8 0, .int .u8 0, .int .u8 0, .int .u8 0, .int .i64 0, .int .u8 0, .int .u8 0, .int .u8 0, .int .u8 0, .int .u8 0, .int .u8 0, .int .u8 0, .int .u8 0, .int .i64 0] 38)) := (Below.refl _ _).alloc (Nat.le_refl _) _
              go_wp2_with ((with_reducible refine at_store 38 (.tmp 19) (.tmp 108) ?_); refine wpList_store_own rfl 38 (.tmp 19) (.tmp 108) rfl (w7.heap.size) _ rfl rfl _ _ RN (by kernel_rfl) rfl (by simp [Value.oneCell']) w7.heap.size (Nat.le_refl _) ?_)
              intro w8 hR8 ho8 hs8 hb8
              have hb8 := hb7.trans ((hbN.trans hb8).mono hb7.size)
              have HA8 := Lib.hid (HW.out.later hb8)
              have hbR8 := hbR.trans (hb8.mono (Nat.le_trans HW.out.hB (Nat.le_of_lt HW.out.row.lt)))
              clear RN hbN hR8 ho8 hs8 hb7 hb8 HW hbR HRT
              have HCC := Lib.hid (changes_any BB S g cp pbs w8 sF HA8.out)
              rw [HCH.out] at HCC
              have hbFin := hbf.trans (hbR8.mono hBB)
              have y1 : (2 * (D : Int)).tdiv (H : Int) = ((2 * D / H : Nat) : Int) := by
                rw [Int.tdiv_eq_ediv_of_nonneg (by omega), Int.natCast_ediv]
                rfl
              have y2 : ((j : Int) + 1).tdiv 2 = (((j + 1) / 2 : Nat) : Int) := by
                rw [Int.tdiv_eq_ediv_of_nonneg (by omega), Int.natCast_ediv]
                rfl
              have y3 : (2 * (D : Int)) / (H : Int) = ((2 * D / H : Nat) : Int) := by
                rw [Int.natCast_ediv]
                rfl
              have y4 : ((j : Int) + 1) / 2 = (((j + 1) / 2 : Nat) : Int) := by
                rw [Int.natCast_ediv]
                rfl
              have y5 : (((2 * D / H * ((j + 1) / 2) : Nat) : Int)) = ((2 * D / H : Nat) : Int) * (((j + 1) / 2 : Nat) : Int) := by simp
              clear HALM HCH
              generalize 2 * D / H = A at *
              generalize (j + 1) / 2 = E at *
              have hAE : A * E ≤ 48 := Nat.mul_le_mul hmH hE
              have z0 : ((A * E : Nat) : Int) ≤ 48 := by omega
              rw [y5] at z0
              have z1 : (0 : Int) ≤ (A : Int) * (E : Int) := Int.mul_nonneg (Int.natCast_nonneg _) (Int.natCast_nonneg _)
              have y6 : wrap64 ((A : Int) * (E : Int)) = (A : Int) * (E : Int) := by unfold wrap64; omega
              have y7 : wrap64 (A : Int) = (A : Int) := by unfold wrap64; omega
              (try rw [y5])
              clear hAE hmE y5 hE hmH
              go_wp2_with fail
              refine HCC.out.mono ?_
              rintro e w9 ⟨rfl, rfl⟩
              go_wp2_with fail
              go_ret
              exact ⟨rfl, hbFin⟩
set_option maxRecDepth 20000 in
theorem open_arr3u {w : World} {r : Reach} {base : Nat} {v : Value} (h : Value.okWide Try.prog w r base 24 v) : ∃ a b c : UInt8, v = .agg #[.int .u8 (a.toNat : Int), .int .u8 (b.toNat : Int), .int .u8 (c.toNat : Int)] := by
  obtain ⟨cs, rfl, hsz, hrow⟩ := okWide_array Try.underlying24 h
  have hts : Try.prog.cellTypes Try.prog.depth 24 = some [5, 5, 5] := by kernel_rfl
  have hs : cs.size = 3 := hsz.trans (by kernel_rfl)
  obtain ⟨a0, a1, a2, rfl⟩ : ∃ a0 a1 a2, cs = #[a0, a1, a2] := by
    obtain ⟨x⟩ := cs
    match x, hs with
    | [a0, a1, a2], _ => exact ⟨a0, a1, a2, rfl⟩
  obtain ⟨a0, rfl⟩ := cell_u8 Try.underlying5 (row_cell hrow hts rfl 0 (by decide) a0 rfl)
  obtain ⟨a1, rfl⟩ := cell_u8 Try.underlying5 (row_cell hrow hts rfl 1 (by decide) a1 rfl)
  obtain ⟨a2, rfl⟩ := cell_u8 Try.underlying5 (row_cell hrow hts rfl 2 (by decide) a2 rfl)
  exact ⟨a0, a1, a2, rfl⟩
theorem spanAlone_walk (f : Nat → UInt8) (n : Int) (hn : (Lit.int .u8 n).wf = true) (ta tb tc : UInt8) (w : World) :
    Calls Try.prog 3 #[.agg #[.int .u8 ((f 0).toNat : Int), .int .u8 ((f 1).toNat : Int), .int .u8 ((f 2).toNat : Int), .int .u8 ((f 3).toNat : Int), .int .u8 ((f 4).toNat : Int), .int .u8 ((f 5).toNat : Int), .int .u8 ((f 6).toNat : Int), .int .u8 ((f 7).toNat : Int)], .int .u8 n, .agg #[.int .u8 (ta.toNat : Int), .int .u8 (tb.toNat : Int), .int .u8 (tc.toNat : Int)]] w fun e w' => e = .returned (.bool true) ∧ Below w.heap.size w w' :=
  spanAlone_go (Id8.of f) n (by simp only [Lit.wf, Bool.and_eq_true, decide_eq_true_eq] at hn; exact hn) ta tb tc w
end Go.Proofs.Ytnpoholeemcklaa
