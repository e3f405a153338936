/- causeyref18.Forwards. By an AI agent. -/
import Derived.Test.YtcmokhpnooldgaaLq4
namespace Go.Proofs.Ytcmokhpnooldgaa
open Go.RowKit Go.WideShapes Go.Sort Grow

set_option maxRecDepth 20000 in
set_option maxHeartbeats 16000000 in
theorem refForw18 (v : NV) (N : LN) (w : World) (h : NetAt w v N) (hl : N.links.length ≤ 1000) (R : List Nat) (D q : List Int) (hS : Sol N R D q) (b pp : Nat) (hb : b < N.ids.length) (hpp : pp < (N.cs b).length) :
    Calls Try.prog 21 #[.agg #[.slice v.ai N.ids.length v.ci, .slice v.ac N.costs.length v.cc, .slice v.al N.links.length v.cl], .int .i64 b, .int .i64 pp] w fun e w' => e = .returned (.bool (forwB N D q b pp)) ∧ Below w.heap.size w w' := by
  have HS := Lib.hid hS
  have HOK := Lib.hid hS.ok
  have HLEN := Lib.hid hS.ok.len
  have hn16 := hS.ok.n16
  have HDL : Hid (D.length = N.ids.length) := hS.dist.len
  have hpp32 : pp ≤ 32 := by
    have h3 := hS.ok.cost (N.cs b) (LN.cs_mem (by have := hS.ok.len; omega))
    unfold okCosts at h3
    simp only [Bool.and_eq_true, decide_eq_true_eq] at h3
    omega
  clear hS hpp
  have HN := Lib.hid h
  clear h
  go_enter Try.func21, Try.ntmps21
  go_upto_region 1 with fail
  generalize hW : w.alloc _ = w1
  have hbW : Below w.heap.size w w1 := by rw [← hW]; exact (Below.refl _ _).alloc (Nat.le_refl _) _
  have R0 : Hid (RowIs w1 w.heap.size 26 #[.slice v.ai N.ids.length v.ci, .slice v.ac N.costs.length v.cc, .slice v.al N.links.length v.cl]) := by subst hW; exact rowIs_new w _ _
  clear hW
  have HCD := Lib.hid (refDists18 v N w1 (HN.out.kept hbW) hl HOK.out R HS.out.roots D HS.out.dist)
  go_wp2_with ((with_reducible refine at_load 26 (.tmp 3) ?_); refine wpList_load_own rfl 26 (.tmp 3) rfl w.heap.size rfl _ _ _ R0.out Try.underlying26 rfl (by kernel_rfl) ?_)
  refine HCD.out.mono ?_
  rintro e w2 ⟨⟨ad, dcap, rfl, hid⟩, hbk⟩
  have HK : Hid (∀ W, Below w2.heap.size w2 W → RowIs W w.heap.size 26 #[.slice v.ai N.ids.length v.ci, .slice v.ac N.costs.length v.cc, .slice v.al N.links.length v.cl] ∧ NetAt W v N ∧ IntsAt W ad D) := fun W hb => ⟨(R0.out.kept hbk).kept hb, (HN.out.kept (hbW.trans (hbk.mono hbW.size))).kept hb, hid.after hb⟩
  have HEND : Hid (∀ W, Below w2.heap.size w2 W → Below w.heap.size w W) := fun W hb => (hbW.trans (hbk.mono hbW.size)).trans (hb.mono (Nat.le_trans hbW.size hbk.size))
  have hbr : Below w2.heap.size w2 w2 := Below.refl _ _
  clear hid hbk HCD R0 hbW HN
  have hx0 : (0 : Int) ≤ (b : Int) := by omega
  have hx1 : (b : Int) < (N.ids.length : Int) := by omega
  go_wp2_with fail
  go_loopw [8, 9, 10, 11, 12, 13] (fun s8 _ _ _ _ _ wr => ∃ m : Nat, m ≤ N.links.length ∧ s8 = .int .i64 m ∧ Hid (∀ t d, t < 2 * m → N.turns[t]? = some d → ¬ (d.b = (b : Int) ∧ d.q = (pp : Int))) ∧ Below w2.heap.size w2 wr) (fun s8 _ _ _ _ _ _ => N.links.length - (intOf s8).toNat)
  case atStart => exact ⟨0, Nat.zero_le _, rfl, Lib.hid (fun t d ht => absurd ht (Nat.not_lt_zero _)), hbr⟩
  case round =>
    clear hbr
    rename World => wr
    obtain ⟨m, hm, rfl, HNO, hbr⟩ := hrel
    obtain ⟨hr0, hn0, hi0⟩ := HK.out wr hbr
    have R0' := Lib.hid hr0
    have HN' := Lib.hid hn0
    clear hr0 hn0 hi0
    by_cases hlt : m < N.links.length
    · as_aux_lemma =>
      obtain ⟨qb, off, eal, hbl, hrg⟩ := HN'.out.lkr hlt
      have HRG := Lib.hid hrg
      have hmem : N.lk m ∈ N.dirs := List.mem_of_getElem? (dirs_get hlt).1
      have h1 := HOK.out.from_lt hmem
      have h2 := HOK.out.to_lt hmem
      have hc1 := HOK.out.cost_le hmem
      have hc2 := HOK.out.cost_le (dirs_turn hmem)
      obtain ⟨i, ei⟩ := Int.eq_ofNat_of_zero_le h1.1
      obtain ⟨p, ep⟩ := Int.eq_ofNat_of_zero_le h1.2.2.1
      obtain ⟨j, ej⟩ := Int.eq_ofNat_of_zero_le h2.1
      obtain ⟨qq, eq⟩ := Int.eq_ofNat_of_zero_le h2.2.2.1
      have c2 : wr.cell? ⟨w.heap.size, 2, none⟩ = some (.slice (some ⟨qb, off, none⟩) N.links.length v.cl) := by rw [← eal]; exact R0'.out.cell 2
      have HD1 : Hid (N.turns[2 * m + 0]? = some (N.lk m).turn) := (turns_get hlt).1
      have HD2 : Hid (N.turns[2 * m + 1]? = some (N.lk m)) := (turns_get hlt).2
      have HM1 : Hid ((N.lk m).turn ∈ N.dirs) := dirs_turn hmem
      have HM2 : Hid (N.lk m ∈ N.dirs) := hmem
      generalize N.lk m = x at *
      obtain ⟨xa, xp, xb, xq⟩ := x
      simp only at ei ep ej eq
      subst ei ep ej eq
      have hi : i < N.ids.length := by simpa [Lk.i] using h1.2.1
      have hj : j < N.ids.length := by simpa [Lk.j] using h2.2.1
      have hpl : ∀ k, k < N.ids.length → (N.cs k).length ≤ 32 := fun k hk => by
        have h3 := HOK.out.cost (N.cs k) (LN.cs_mem (by have := HLEN.out; omega))
        unfold okCosts at h3
        simp only [Bool.and_eq_true, decide_eq_true_eq] at h3
        exact h3.1
      have hppb : p ≤ 32 := by have h3 : p < (N.cs i).length := (by simpa [Lk.i] using h1.2.2.2); have := hpl i hi; omega
      have hpqqb : qq ≤ 32 := by have h3 : qq < (N.cs j).length := (by simpa [Lk.j] using h2.2.2.2); have := hpl j hj; omega
      have hx2 : (0 : Int) ≤ (m : Int) := by omega
      have hx3 : (m : Int) < (N.links.length : Int) := by omega
      clear h1 h2 hc1 hc2 hmem eal hrg hpl
      have R6 := Lib.hid (rowIs_new wr 37 #[.int .i64 0, .int .i64 0, .int .i64 0, .int .i64 0])
      go_wp2_with (first
        | ((with_reducible refine at_load 37 (.tmp 26) ?_); refine wpList_load_mid18 rfl 37 (.tmp 26) rfl qb (off + m * 4) rfl (Lk.vals ⟨i, p, j, qq⟩) _ HRG.out Try.underlying37 rfl (by kernel_rfl) ?_)
        | ((with_reducible refine at_store 37 (.tmp 9) (.tmp 27) ?_); refine wpList_store_own rfl 37 (.tmp 9) (.tmp 27) rfl wr.heap.size _ rfl rfl _ _ R6.out (by kernel_rfl) rfl (by simp [Lk.vals, Value.oneCell']) wr.heap.size (Nat.le_refl _) ?_))
      intro wl hRl hol hsl hbl'
      have hbx : Below wr.heap.size wr wl := ((Below.refl _ _).alloc (Nat.le_refl _) _).trans hbl'
      have RL : Hid (RowIs wl wr.heap.size 37 #[.int .i64 i, .int .i64 p, .int .i64 j, .int .i64 qq]) := hRl
      have hbr4 := hbr.trans (hbx.mono hbr.size)
      clear hRl hol hsl hbl' hbx R6 HRG c2 R0' HN' hbr
      generalize wr.heap.size = lb at *
      go_wp2_with fail
      go_loopw [10, 11, 12, 13] (fun s10 _ _ _ wr => ∃ e : Nat, e ≤ 2 ∧ s10 = .int .i64 e ∧ Hid (∀ t d, t < 2 * m + e → N.turns[t]? = some d → ¬ (d.b = (b : Int) ∧ d.q = (pp : Int))) ∧ Hid (RowIs wr lb 37 #[.int .i64 i, .int .i64 p, .int .i64 j, .int .i64 qq]) ∧ Below w2.heap.size w2 wr) (fun s10 _ _ _ _ => 2 - (intOf s10).toNat)
      case atStart => exact ⟨0, by omega, rfl, HNO, RL, hbr4⟩
      case round =>
        clear RL hbr4 wl HNO
        rename World => wr
        obtain ⟨e, he, rfl, HNO, RL, hbr⟩ := hrel
        obtain ⟨hr0, hn0, hi0⟩ := HK.out wr hbr
        have R0' := Lib.hid hr0
        have HN' := Lib.hid hn0
        have HID := Lib.hid hi0
        clear hr0 hn0 hi0
        rcases (show e = 0 ∨ e = 1 ∨ e = 2 by omega) with rfl | rfl | rfl
        · as_aux_lemma =>
          have k0 : wr.cell? ⟨lb, 0, none⟩ = some (.int .i64 i) := RL.out.cell 0
          have k1 : wr.cell? ⟨lb, 1, none⟩ = some (.int .i64 p) := RL.out.cell 1
          have k2 : wr.cell? ⟨lb, 2, none⟩ = some (.int .i64 j) := RL.out.cell 2
          have k3 : wr.cell? ⟨lb, 3, none⟩ = some (.int .i64 qq) := RL.out.cell 3
          have hw0 : IntKind.i64.wrap 0 = 0 := rfl
          have hw1 : IntKind.i64.wrap 1 = 1 := rfl
          have hw2 : IntKind.i64.wrap 2 = 2 := rfl
          have hw3 : IntKind.i64.wrap 3 = 3 := rfl
          by_cases hm1 : i = b
          case neg =>
            have HNM : Hid (∀ t d, t < 2 * m + (0 + 1) → N.turns[t]? = some d → ¬ (d.b = (b : Int) ∧ d.q = (pp : Int))) := fun t d ht hd hm => by
              rcases Nat.lt_or_eq_of_le (Nat.le_of_lt_succ (show t < 2 * m + 0 + 1 by omega)) with h1 | h1
              · exact HNO.out t d h1 hd hm
              · subst h1
                have hd' := HD1.out.symm.trans hd
                cases hd'
                exact hm1 (by have : ((i : Nat) : Int) = (b : Int) := hm.1; omega)
            have e1 : (((i : Nat) : Int) == (b : Int)) = false := by rw [beq_eq_false_iff_ne]; omega
            clear hm1
            go_wp2_with fail
            exact ⟨⟨0 + 1, by omega, by go_num, HNM, RL, hbr⟩, by simp [intOf]⟩
          case pos =>
            have hm1' : b = i := hm1.symm
            subst hm1'
            clear hm1
            by_cases hm2 : p = pp
            case neg =>
              have HNM : Hid (∀ t d, t < 2 * m + (0 + 1) → N.turns[t]? = some d → ¬ (d.b = (b : Int) ∧ d.q = (pp : Int))) := fun t d ht hd hm => by
                rcases Nat.lt_or_eq_of_le (Nat.le_of_lt_succ (show t < 2 * m + 0 + 1 by omega)) with h1 | h1
                · exact HNO.out t d h1 hd hm
                · subst h1
                  have hd' := HD1.out.symm.trans hd
                  cases hd'
                  exact hm2 (by have : ((p : Nat) : Int) = (pp : Int) := hm.2; omega)
              have e2 : (((p : Nat) : Int) == (pp : Int)) = false := by rw [beq_eq_false_iff_ne]; omega
              clear hm2
              go_wp2_with fail
              exact ⟨⟨0 + 1, by omega, by go_num, HNM, RL, hbr⟩, by simp [intOf]⟩
            case pos =>
              have hm2' : pp = p := hm2.symm
              subst hm2'
              clear hm2
              have HFB : Hid (forwB N D q b pp = ((tellV N D b pp).better (tellV N D j qq) || (q.getD b 0 == (pp : Int)))) := forwB_some HOK.out D q (show ((⟨j, qq, b, pp⟩ : Lk)) ∈ N.dirs from HM1.out)
              have HT1 : Hid (tellV N D b pp = ⟨.zero, D.getD b 0, N.id b, (pp : Int) + 1⟩) := rfl
              have HT2 : Hid (tellV N D j qq = ⟨.zero, D.getD j 0, N.id j, (qq : Int) + 1⟩) := rfl
              rw [HT1.out, HT2.out] at HFB
              have hob := hpqqb
              clear HNO HD1 HD2 HM1 HM2 HT1 HT2 hpqqb
              go_upto_region 11 with fail
              clear k0 k1 k2 k3
              obtain ⟨db, doff, ed, hdc⟩ := ints_cell HID.out (show j < D.length by rw [HDL.out]; exact hj)
              obtain ⟨db', doff', ed', hdc'⟩ := ints_cell HID.out (show b < D.length by rw [HDL.out]; exact hb)
              rw [ed] at ed'
              simp only [Option.some.injEq, Addr.mk.injEq, and_true] at ed'
              obtain ⟨rfl, rfl⟩ := ed'
              subst ed
              obtain ⟨ib, ioff, eai, hbl, hrg⟩ := HN'.out.idr hj
              obtain ⟨ib', ioff', eai', hbl', hrg'⟩ := HN'.out.idr hb
              rw [eai] at eai'
              simp only [Option.some.injEq, Addr.mk.injEq, and_true] at eai'
              obtain ⟨rfl, rfl⟩ := eai'
              have HRG := Lib.hid hrg
              have HRB := Lib.hid hrg'
              have c0 : wr.cell? ⟨w.heap.size, 0, none⟩ = some (.slice (some ⟨ib, ioff, none⟩) N.ids.length v.ci) := by rw [← eai]; exact R0'.out.cell 0
              have c5 : wr.cell? ⟨lb, 3, none⟩ = some (.int .i64 qq) := RL.out.cell 3
              have hxo1 : (0 : Int) ≤ (j : Int) := by omega
              have hxo2 : (j : Int) < (N.ids.length : Int) := by omega
              have hwa : IntKind.i64.wrap ((pp : Int) + 1) = (pp : Int) + 1 := by rw [IntKind.wrap_i64]; omega
              have hwb : IntKind.i64.wrap ((qq : Int) + 1) = (qq : Int) + 1 := by rw [IntKind.wrap_i64]; omega
              have HPX : Hid (∀ W, Below wr.heap.size wr W → Calls Try.prog 20 #[.agg #[.slice v.ai N.ids.length v.ci, .slice v.ac N.costs.length v.cc, .slice v.al N.links.length v.cl], .int .i64 b] W fun e w' => e = .returned (.int .i64 (q.getD b 0)) ∧ Below W.heap.size W w') := fun W hb2 => refPort18 v N W (HN'.out.kept hb2) hl R D q HS.out b hb
              generalize q.getD b 0 = qb2 at *
              generalize D.getD j 0 = x at *
              generalize D.getD b 0 = y at *
              generalize N.id j = io at *
              generalize N.id b = iw at *
              have f0 := cell_regrown c0
              have f1 := cell_regrown hdc'
              clear eai hrg hrg' hbl' hob
              refine wp_region_mix 13 (by kernel_rfl) (by kernel_rfl) (by kernel_rfl) ?_
              (refine mix_step (by kernel_rfl) (by kernel_rfl) (fun K hK => ?_); go_simp; (try (simp only [↓IntWalk.iteOmega]; go_simp)); (first | (refine hK _ ?_; clear hK K) | (apply Exists.intro; refine ⟨fun _ => ?_, hK _ ?_⟩; (first | fail); clear hK K)))
              (refine mix_step (by kernel_rfl) (by kernel_rfl) (fun K hK => ?_); go_simp; (try (simp only [↓IntWalk.iteOmega]; go_simp)); (first | (refine hK _ ?_; clear hK K) | (apply Exists.intro; refine ⟨fun _ => ?_, hK _ ?_⟩; (first | fail); clear hK K)))
              (refine mix_step (by kernel_rfl) (by kernel_rfl) (fun K hK => ?_); go_simp; (try (simp only [↓IntWalk.iteOmega]; go_simp)); (first | (refine hK _ ?_; clear hK K) | (apply Exists.intro; refine ⟨fun _ => ?_, hK _ ?_⟩; (first | fail); clear hK K)))
              (refine mix_step (by kernel_rfl) (by kernel_rfl) (fun K hK => ?_); go_simp; (try (simp only [↓IntWalk.iteOmega]; go_simp)); (first | (refine hK _ ?_; clear hK K) | (apply Exists.intro; refine ⟨fun _ => ?_, hK _ ?_⟩; (first | fail); clear hK K)))
              (refine mix_step (by kernel_rfl) (by kernel_rfl) (fun K hK => ?_); go_simp; (try (simp only [↓IntWalk.iteOmega]; go_simp)); (first | (refine hK _ ?_; clear hK K) | (apply Exists.intro; refine ⟨fun _ => ?_, hK _ ?_⟩; (first | fail); clear hK K)))
              (refine mix_step (by kernel_rfl) (by kernel_rfl) (fun K hK => ?_); go_simp; (try (simp only [↓IntWalk.iteOmega]; go_simp)); (first | (refine hK _ ?_; clear hK K) | (apply Exists.intro; refine ⟨fun _ => ?_, hK _ ?_⟩; (first | fail); clear hK K)))
              (refine mix_step (by kernel_rfl) (by kernel_rfl) (fun K hK => ?_); go_simp; (try (simp only [↓IntWalk.iteOmega]; go_simp)); (first | (refine hK _ ?_; clear hK K) | (apply Exists.intro; refine ⟨fun _ => ?_, hK _ ?_⟩; (first | fail); clear hK K)))
              (refine mix_step (by kernel_rfl) (by kernel_rfl) (fun K hK => ?_); go_simp; (try (simp only [↓IntWalk.iteOmega]; go_simp)); (first | (refine hK _ ?_; clear hK K) | (apply Exists.intro; refine ⟨fun _ => ?_, hK _ ?_⟩; (first | fail); clear hK K)))
              refine mix_exact (.agg #[.int .u8 ((iw.f 0).toNat : Int), .int .u8 ((iw.f 1).toNat : Int), .int .u8 ((iw.f 2).toNat : Int), .int .u8 ((iw.f 3).toNat : Int), .int .u8 ((iw.f 4).toNat : Int), .int .u8 ((iw.f 5).toNat : Int), .int .u8 ((iw.f 6).toNat : Int), .int .u8 ((iw.f 7).toNat : Int)]) rfl (exact_load_range (sub := Id8.vals iw) rfl rfl (by simp) HRB.out hbl Try.underlying44 rfl (by kernel_rfl)) ?_
              (refine mix_step (by kernel_rfl) (by kernel_rfl) (fun K hK => ?_); go_simp; (try (simp only [↓IntWalk.iteOmega]; go_simp)); (first | (refine hK _ ?_; clear hK K) | (apply Exists.intro; refine ⟨fun _ => ?_, hK _ ?_⟩; (first | fail); clear hK K)))
              (refine mix_step (by kernel_rfl) (by kernel_rfl) (fun K hK => ?_); go_simp; (try (simp only [↓IntWalk.iteOmega]; go_simp)); (first | (refine hK _ ?_; clear hK K) | (apply Exists.intro; refine ⟨fun _ => ?_, hK _ ?_⟩; (first | fail); clear hK K)))
              refine mix_exact (.agg #[.int .u8 0, .int .u8 0, .int .u8 0, .int .u8 0, .int .u8 0, .int .u8 0, .int .u8 0, .int .u8 0, .int .i64 y, .int .u8 ((iw.f 0).toNat : Int), .int .u8 ((iw.f 1).toNat : Int), .int .u8 ((iw.f 2).toNat : Int), .int .u8 ((iw.f 3).toNat : Int), .int .u8 ((iw.f 4).toNat : Int), .int .u8 ((iw.f 5).toNat : Int), .int .u8 ((iw.f 6).toNat : Int), .int .u8 ((iw.f 7).toNat : Int), .int .i64 ((pp : Int) + 1)]) rfl (exact_build3 rfl (.int .i64 y) (.agg #[.int .u8 ((iw.f 0).toNat : Int), .int .u8 ((iw.f 1).toNat : Int), .int .u8 ((iw.f 2).toNat : Int), .int .u8 ((iw.f 3).toNat : Int), .int .u8 ((iw.f 4).toNat : Int), .int .u8 ((iw.f 5).toNat : Int), .int .u8 ((iw.f 6).toNat : Int), .int .u8 ((iw.f 7).toNat : Int)]) (.int .i64 ((pp : Int) + 1)) _ rfl rfl rfl (by simp) (by simp) (by simp) (run_build_rv _ _ _)) ?_
              refine mix_special (NewAt wr.heap.size 81 #[.int .u8 0, .int .u8 0, .int .u8 0, .int .u8 0, .int .u8 0, .int .u8 0, .int .u8 0, .int .u8 0, .int .i64 0, .int .u8 0, .int .u8 0, .int .u8 0, .int .u8 0, .int .u8 0, .int .u8 0, .int .u8 0, .int .u8 0, .int .i64 0]) 12 rfl rfl (stable_new _ _ _) (owes_alloc (cs := #[.int .u8 0, .int .u8 0, .int .u8 0, .int .u8 0, .int .u8 0, .int .u8 0, .int .u8 0, .int .u8 0, .int .i64 0, .int .u8 0, .int .u8 0, .int .u8 0, .int .u8 0, .int .u8 0, .int .u8 0, .int .u8 0, .int .u8 0, .int .i64 0]) rfl (by kernel_rfl)) ?_
              refine mix_nil ?_
              rintro ⟨dq, osq⟩
              have hb5 := below_regrown wr dq osq
              rintro u12 ⟨g12, rfl, hB12, hR12⟩
              have R12 := Lib.hid hR12
              have hs5 : wr.heap.size ≤ (grow (redrawn wr dq) osq).heap.size := hb5.size
              clear hR12 f0 f1 hdc' HRB
              refine (show wpList _ _ _ _ _ _ from ?_)
              simp only [List.drop, Act.put, List.setIfInBounds_toArray, List.set]
              generalize hW5 : grow (redrawn wr dq) osq = w5 at *
              clear hW5
              go_wp2_with ((with_reducible refine at_store 81 (.tmp 12) (.tmp 63) ?_); refine wpList_store_own rfl 81 (.tmp 12) (.tmp 63) rfl g12 _ rfl rfl _ _ R12.out (by kernel_rfl) rfl (by simp [Value.oneCell']) wr.heap.size hB12 ?_)
              intro w6 hR6 ho6 hs6 hb6
              have R12 : Hid (RowIs w6 g12 81 #[.int .u8 0, .int .u8 0, .int .u8 0, .int .u8 0, .int .u8 0, .int .u8 0, .int .u8 0, .int .u8 0, .int .i64 y, .int .u8 ((iw.f 0).toNat : Int), .int .u8 ((iw.f 1).toNat : Int), .int .u8 ((iw.f 2).toNat : Int), .int .u8 ((iw.f 3).toNat : Int), .int .u8 ((iw.f 4).toNat : Int), .int .u8 ((iw.f 5).toNat : Int), .int .u8 ((iw.f 6).toNat : Int), .int .u8 ((iw.f 7).toNat : Int), .int .i64 ((pp : Int) + 1)]) := hR6
              have hb56 := hb5.trans hb6
              have f0 := cell_regrown ((hb56.cell (p := ⟨w.heap.size, 0, none⟩) (block_lt_of_cell c0)).trans c0)
              have f1 := cell_regrown ((hb56.cell (p := ⟨db, doff + j, none⟩) (block_lt_of_cell hdc)).trans hdc)
              have f2 := cell_regrown ((hb56.cell (p := ⟨lb, 3, none⟩) (block_lt_of_cell c5)).trans c5)
              have HRG := Lib.hid (range_later HRG.out hbl hb56)
              have hbl6 : ib < w6.heap.size := Nat.lt_of_lt_of_le hbl hb56.size
              clear hR6 ho6 hs6 hb6 hb5 c0 c5 hdc hs5 hB12
              go_upto_region 12 with fail
              refine wp_region_mix 17 (by kernel_rfl) (by kernel_rfl) (by kernel_rfl) ?_
              (refine mix_step (by kernel_rfl) (by kernel_rfl) (fun K hK => ?_); go_simp; (try (simp only [↓IntWalk.iteOmega]; go_simp)); (first | (refine hK _ ?_; clear hK K) | (apply Exists.intro; refine ⟨fun _ => ?_, hK _ ?_⟩; (first | fail); clear hK K)))
              (refine mix_step (by kernel_rfl) (by kernel_rfl) (fun K hK => ?_); go_simp; (try (simp only [↓IntWalk.iteOmega]; go_simp)); (first | (refine hK _ ?_; clear hK K) | (apply Exists.intro; refine ⟨fun _ => ?_, hK _ ?_⟩; (first | fail); clear hK K)))
              (refine mix_step (by kernel_rfl) (by kernel_rfl) (fun K hK => ?_); go_simp; (try (simp only [↓IntWalk.iteOmega]; go_simp)); (first | (refine hK _ ?_; clear hK K) | (apply Exists.intro; refine ⟨fun _ => ?_, hK _ ?_⟩; (first | fail); clear hK K)))
              (refine mix_step (by kernel_rfl) (by kernel_rfl) (fun K hK => ?_); go_simp; (try (simp only [↓IntWalk.iteOmega]; go_simp)); (first | (refine hK _ ?_; clear hK K) | (apply Exists.intro; refine ⟨fun _ => ?_, hK _ ?_⟩; (first | fail); clear hK K)))
              (refine mix_step (by kernel_rfl) (by kernel_rfl) (fun K hK => ?_); go_simp; (try (simp only [↓IntWalk.iteOmega]; go_simp)); (first | (refine hK _ ?_; clear hK K) | (apply Exists.intro; refine ⟨fun _ => ?_, hK _ ?_⟩; (first | fail); clear hK K)))
              (refine mix_step (by kernel_rfl) (by kernel_rfl) (fun K hK => ?_); go_simp; (try (simp only [↓IntWalk.iteOmega]; go_simp)); (first | (refine hK _ ?_; clear hK K) | (apply Exists.intro; refine ⟨fun _ => ?_, hK _ ?_⟩; (first | fail); clear hK K)))
              (refine mix_step (by kernel_rfl) (by kernel_rfl) (fun K hK => ?_); go_simp; (try (simp only [↓IntWalk.iteOmega]; go_simp)); (first | (refine hK _ ?_; clear hK K) | (apply Exists.intro; refine ⟨fun _ => ?_, hK _ ?_⟩; (first | fail); clear hK K)))
              (refine mix_step (by kernel_rfl) (by kernel_rfl) (fun K hK => ?_); go_simp; (try (simp only [↓IntWalk.iteOmega]; go_simp)); (first | (refine hK _ ?_; clear hK K) | (apply Exists.intro; refine ⟨fun _ => ?_, hK _ ?_⟩; (first | fail); clear hK K)))
              refine mix_exact (.agg #[.int .u8 ((io.f 0).toNat : Int), .int .u8 ((io.f 1).toNat : Int), .int .u8 ((io.f 2).toNat : Int), .int .u8 ((io.f 3).toNat : Int), .int .u8 ((io.f 4).toNat : Int), .int .u8 ((io.f 5).toNat : Int), .int .u8 ((io.f 6).toNat : Int), .int .u8 ((io.f 7).toNat : Int)]) rfl (exact_load_range (sub := Id8.vals io) rfl rfl (by simp) HRG.out hbl6 Try.underlying44 rfl (by kernel_rfl)) ?_
              (refine mix_step (by kernel_rfl) (by kernel_rfl) (fun K hK => ?_); go_simp; (try (simp only [↓IntWalk.iteOmega]; go_simp)); (first | (refine hK _ ?_; clear hK K) | (apply Exists.intro; refine ⟨fun _ => ?_, hK _ ?_⟩; (first | fail); clear hK K)))
              (refine mix_step (by kernel_rfl) (by kernel_rfl) (fun K hK => ?_); go_simp; (try (simp only [↓IntWalk.iteOmega]; go_simp)); (first | (refine hK _ ?_; clear hK K) | (apply Exists.intro; refine ⟨fun _ => ?_, hK _ ?_⟩; (first | fail); clear hK K)))
              (refine mix_step (by kernel_rfl) (by kernel_rfl) (fun K hK => ?_); go_simp; (try (simp only [↓IntWalk.iteOmega]; go_simp)); (first | (refine hK _ ?_; clear hK K) | (apply Exists.intro; refine ⟨fun _ => ?_, hK _ ?_⟩; (first | fail); clear hK K)))
              (refine mix_step (by kernel_rfl) (by kernel_rfl) (fun K hK => ?_); go_simp; (try (simp only [↓IntWalk.iteOmega]; go_simp)); (first | (refine hK _ ?_; clear hK K) | (apply Exists.intro; refine ⟨fun _ => ?_, hK _ ?_⟩; (first | fail); clear hK K)))
              (refine mix_step (by kernel_rfl) (by kernel_rfl) (fun K hK => ?_); go_simp; (try (simp only [↓IntWalk.iteOmega]; go_simp)); (first | (refine hK _ ?_; clear hK K) | (apply Exists.intro; refine ⟨fun _ => ?_, hK _ ?_⟩; (first | fail); clear hK K)))
              (refine mix_step (by kernel_rfl) (by kernel_rfl) (fun K hK => ?_); go_simp; (try (simp only [↓IntWalk.iteOmega]; go_simp)); (first | (refine hK _ ?_; clear hK K) | (apply Exists.intro; refine ⟨fun _ => ?_, hK _ ?_⟩; (first | fail); clear hK K)))
              refine mix_exact (.agg #[.int .u8 0, .int .u8 0, .int .u8 0, .int .u8 0, .int .u8 0, .int .u8 0, .int .u8 0, .int .u8 0, .int .i64 x, .int .u8 ((io.f 0).toNat : Int), .int .u8 ((io.f 1).toNat : Int), .int .u8 ((io.f 2).toNat : Int), .int .u8 ((io.f 3).toNat : Int), .int .u8 ((io.f 4).toNat : Int), .int .u8 ((io.f 5).toNat : Int), .int .u8 ((io.f 6).toNat : Int), .int .u8 ((io.f 7).toNat : Int), .int .i64 ((qq : Int) + 1)]) rfl (exact_build3 rfl (.int .i64 x) (.agg #[.int .u8 ((io.f 0).toNat : Int), .int .u8 ((io.f 1).toNat : Int), .int .u8 ((io.f 2).toNat : Int), .int .u8 ((io.f 3).toNat : Int), .int .u8 ((io.f 4).toNat : Int), .int .u8 ((io.f 5).toNat : Int), .int .u8 ((io.f 6).toNat : Int), .int .u8 ((io.f 7).toNat : Int)]) (.int .i64 ((qq : Int) + 1)) _ rfl rfl rfl (by simp) (by simp) (by simp) (run_build_rv _ _ _)) ?_
              refine mix_special (NewAt w6.heap.size 81 #[.int .u8 0, .int .u8 0, .int .u8 0, .int .u8 0, .int .u8 0, .int .u8 0, .int .u8 0, .int .u8 0, .int .i64 0, .int .u8 0, .int .u8 0, .int .u8 0, .int .u8 0, .int .u8 0, .int .u8 0, .int .u8 0, .int .u8 0, .int .i64 0]) 13 rfl rfl (stable_new _ _ _) (owes_alloc (cs := #[.int .u8 0, .int .u8 0, .int .u8 0, .int .u8 0, .int .u8 0, .int .u8 0, .int .u8 0, .int .u8 0, .int .i64 0, .int .u8 0, .int .u8 0, .int .u8 0, .int .u8 0, .int .u8 0, .int .u8 0, .int .u8 0, .int .u8 0, .int .i64 0]) rfl (by kernel_rfl)) ?_
              refine mix_nil ?_
              rintro ⟨dq, osq⟩
              have hb7 := below_regrown w6 dq osq
              rintro u13 ⟨g13, rfl, hB13, hR13⟩
              have R13 := Lib.hid hR13
              have hg12 : g12 < w6.heap.size := R12.out.lt
              have R12 := Lib.hid (R12.out.kept hb7)
              have hb57 := hb56.trans (hb7.mono hb56.size)
              have hg1213 : g12 ≠ g13 := by omega
              have hB13' : wr.heap.size ≤ g13 := Nat.le_trans hb56.size hB13
              clear hR13 f0 f1 f2 HRG hb56 hb7
              refine (show wpList _ _ _ _ _ _ from ?_)
              simp only [List.drop, Act.put, List.setIfInBounds_toArray, List.set]
              generalize grow (redrawn w6 dq) osq = w7 at *
              go_wp2_with ((with_reducible refine at_store 81 (.tmp 13) (.tmp 79) ?_); refine wpList_store_own rfl 81 (.tmp 13) (.tmp 79) rfl g13 _ rfl rfl _ _ R13.out (by kernel_rfl) rfl (by simp [Value.oneCell']) wr.heap.size hB13' ?_)
              intro w8 hR8 ho8 hs8 hb8
              have R13 : Hid (RowIs w8 g13 81 #[.int .u8 0, .int .u8 0, .int .u8 0, .int .u8 0, .int .u8 0, .int .u8 0, .int .u8 0, .int .u8 0, .int .i64 x, .int .u8 ((io.f 0).toNat : Int), .int .u8 ((io.f 1).toNat : Int), .int .u8 ((io.f 2).toNat : Int), .int .u8 ((io.f 3).toNat : Int), .int .u8 ((io.f 4).toNat : Int), .int .u8 ((io.f 5).toNat : Int), .int .u8 ((io.f 6).toNat : Int), .int .u8 ((io.f 7).toNat : Int), .int .i64 ((qq : Int) + 1)]) := hR8
              have R12 := Lib.hid (rowIs_same R12.out (ho8 _ hg1213))
              have hb58 := hb57.trans hb8
              have R08 := Lib.hid (R0'.out.kept hb58)
              clear hR8 ho8 hs8 hb8 hb57
              have HCB := Lib.hid (refBetter_any (⟨.zero, y, iw, (pp : Int) + 1⟩ : SV) (⟨.zero, x, io, (qq : Int) + 1⟩ : SV) w8)
              generalize hbt : (⟨.zero, y, iw, (pp : Int) + 1⟩ : SV).better (⟨.zero, x, io, (qq : Int) + 1⟩ : SV) = bt at *
              clear hbt
              go_wp2_with (first
                | ((with_reducible refine at_load 81 (.tmp 12) ?_); refine wpList_load_own rfl 81 (.tmp 12) rfl g12 rfl _ _ _ R12.out Try.underlying81 rfl (by kernel_rfl) ?_)
                | ((with_reducible refine at_load 81 (.tmp 13) ?_); refine wpList_load_own rfl 81 (.tmp 13) rfl g13 rfl _ _ _ R13.out Try.underlying81 rfl (by kernel_rfl) ?_))
              refine HCB.out.mono ?_
              rintro e w9 ⟨rfl, hb9⟩
              have hb59 := hb58.trans (hb9.mono hb58.size)
              have R09 := Lib.hid (R08.out.kept hb9)
              clear hb9 hb58 HCB R12 R13 R08
              cases bt
              · have HP := Lib.hid (HPX.out w9 hb59)
                go_wp2_with ((with_reducible refine at_load 26 (.tmp 3) ?_); refine wpList_load_own rfl 26 (.tmp 3) rfl w.heap.size rfl _ _ _ R09.out Try.underlying26 rfl (by kernel_rfl) ?_)
                refine HP.out.mono ?_
                rintro e w10 ⟨rfl, hb10⟩
                have hbe := HEND.out w10 (hbr.trans ((hb59.trans (hb10.mono hb59.size)).mono hbr.size))
                clear hb10 HP
                go_wp2_with fail
                go_ret
                refine ⟨?_, hbe⟩
                rw [HFB.out]
                rfl
              · have hbe := HEND.out w9 (hbr.trans (hb59.mono hbr.size))
                go_wp2_with fail
                go_ret
                refine ⟨?_, hbe⟩
                rw [HFB.out]
                rfl
        · as_aux_lemma =>
          have k0 : wr.cell? ⟨lb, 0, none⟩ = some (.int .i64 i) := RL.out.cell 0
          have k1 : wr.cell? ⟨lb, 1, none⟩ = some (.int .i64 p) := RL.out.cell 1
          have k2 : wr.cell? ⟨lb, 2, none⟩ = some (.int .i64 j) := RL.out.cell 2
          have k3 : wr.cell? ⟨lb, 3, none⟩ = some (.int .i64 qq) := RL.out.cell 3
          have hw0 : IntKind.i64.wrap 0 = 0 := rfl
          have hw1 : IntKind.i64.wrap 1 = 1 := rfl
          have hw2 : IntKind.i64.wrap 2 = 2 := rfl
          have hw3 : IntKind.i64.wrap 3 = 3 := rfl
          by_cases hm1 : j = b
          case neg =>
            have HNM : Hid (∀ t d, t < 2 * m + (1 + 1) → N.turns[t]? = some d → ¬ (d.b = (b : Int) ∧ d.q = (pp : Int))) := fun t d ht hd hm => by
              rcases Nat.lt_or_eq_of_le (Nat.le_of_lt_succ (show t < 2 * m + 1 + 1 by omega)) with h1 | h1
              · exact HNO.out t d h1 hd hm
              · subst h1
                have hd' := HD2.out.symm.trans hd
                cases hd'
                exact hm1 (by have : ((j : Nat) : Int) = (b : Int) := hm.1; omega)
            have e1 : (((j : Nat) : Int) == (b : Int)) = false := by rw [beq_eq_false_iff_ne]; omega
            clear hm1
            go_wp2_with fail
            exact ⟨⟨1 + 1, by omega, by go_num, HNM, RL, hbr⟩, by simp [intOf]⟩
          case pos =>
            have hm1' : b = j := hm1.symm
            subst hm1'
            clear hm1
            by_cases hm2 : qq = pp
            case neg =>
              have HNM : Hid (∀ t d, t < 2 * m + (1 + 1) → N.turns[t]? = some d → ¬ (d.b = (b : Int) ∧ d.q = (pp : Int))) := fun t d ht hd hm => by
                rcases Nat.lt_or_eq_of_le (Nat.le_of_lt_succ (show t < 2 * m + 1 + 1 by omega)) with h1 | h1
                · exact HNO.out t d h1 hd hm
                · subst h1
                  have hd' := HD2.out.symm.trans hd
                  cases hd'
                  exact hm2 (by have : ((qq : Nat) : Int) = (pp : Int) := hm.2; omega)
              have e2 : (((qq : Nat) : Int) == (pp : Int)) = false := by rw [beq_eq_false_iff_ne]; omega
              clear hm2
              go_wp2_with fail
              exact ⟨⟨1 + 1, by omega, by go_num, HNM, RL, hbr⟩, by simp [intOf]⟩
            case pos =>
              have hm2' : pp = qq := hm2.symm
              subst hm2'
              clear hm2
              have HFB : Hid (forwB N D q b pp = ((tellV N D b pp).better (tellV N D i p) || (q.getD b 0 == (pp : Int)))) := forwB_some HOK.out D q (show ((⟨i, p, b, pp⟩ : Lk)) ∈ N.dirs from HM2.out)
              have HT1 : Hid (tellV N D b pp = ⟨.zero, D.getD b 0, N.id b, (pp : Int) + 1⟩) := rfl
              have HT2 : Hid (tellV N D i p = ⟨.zero, D.getD i 0, N.id i, (p : Int) + 1⟩) := rfl
              rw [HT1.out, HT2.out] at HFB
              have hob := hppb
              clear HNO HD1 HD2 HM1 HM2 HT1 HT2 hpqqb
              go_upto_region 11 with fail
              clear k0 k1 k2 k3
              obtain ⟨db, doff, ed, hdc⟩ := ints_cell HID.out (show i < D.length by rw [HDL.out]; exact hi)
              obtain ⟨db', doff', ed', hdc'⟩ := ints_cell HID.out (show b < D.length by rw [HDL.out]; exact hb)
              rw [ed] at ed'
              simp only [Option.some.injEq, Addr.mk.injEq, and_true] at ed'
              obtain ⟨rfl, rfl⟩ := ed'
              subst ed
              obtain ⟨ib, ioff, eai, hbl, hrg⟩ := HN'.out.idr hi
              obtain ⟨ib', ioff', eai', hbl', hrg'⟩ := HN'.out.idr hb
              rw [eai] at eai'
              simp only [Option.some.injEq, Addr.mk.injEq, and_true] at eai'
              obtain ⟨rfl, rfl⟩ := eai'
              have HRG := Lib.hid hrg
              have HRB := Lib.hid hrg'
              have c0 : wr.cell? ⟨w.heap.size, 0, none⟩ = some (.slice (some ⟨ib, ioff, none⟩) N.ids.length v.ci) := by rw [← eai]; exact R0'.out.cell 0
              have c5 : wr.cell? ⟨lb, 1, none⟩ = some (.int .i64 p) := RL.out.cell 1
              have hxo1 : (0 : Int) ≤ (i : Int) := by omega
              have hxo2 : (i : Int) < (N.ids.length : Int) := by omega
              have hwa : IntKind.i64.wrap ((pp : Int) + 1) = (pp : Int) + 1 := by rw [IntKind.wrap_i64]; omega
              have hwb : IntKind.i64.wrap ((p : Int) + 1) = (p : Int) + 1 := by rw [IntKind.wrap_i64]; omega
              have HPX : Hid (∀ W, Below wr.heap.size wr W → Calls Try.prog 20 #[.agg #[.slice v.ai N.ids.length v.ci, .slice v.ac N.costs.length v.cc, .slice v.al N.links.length v.cl], .int .i64 b] W fun e w' => e = .returned (.int .i64 (q.getD b 0)) ∧ Below W.heap.size W w') := fun W hb2 => refPort18 v N W (HN'.out.kept hb2) hl R D q HS.out b hb
              generalize q.getD b 0 = qb2 at *
              generalize D.getD i 0 = x at *
              generalize D.getD b 0 = y at *
              generalize N.id i = io at *
              generalize N.id b = iw at *
              have f0 := cell_regrown c0
              have f1 := cell_regrown hdc'
              clear eai hrg hrg' hbl' hob
              refine wp_region_mix 13 (by kernel_rfl) (by kernel_rfl) (by kernel_rfl) ?_
              (refine mix_step (by kernel_rfl) (by kernel_rfl) (fun K hK => ?_); go_simp; (try (simp only [↓IntWalk.iteOmega]; go_simp)); (first | (refine hK _ ?_; clear hK K) | (apply Exists.intro; refine ⟨fun _ => ?_, hK _ ?_⟩; (first | fail); clear hK K)))
              (refine mix_step (by kernel_rfl) (by kernel_rfl) (fun K hK => ?_); go_simp; (try (simp only [↓IntWalk.iteOmega]; go_simp)); (first | (refine hK _ ?_; clear hK K) | (apply Exists.intro; refine ⟨fun _ => ?_, hK _ ?_⟩; (first | fail); clear hK K)))
              (refine mix_step (by kernel_rfl) (by kernel_rfl) (fun K hK => ?_); go_simp; (try (simp only [↓IntWalk.iteOmega]; go_simp)); (first | (refine hK _ ?_; clear hK K) | (apply Exists.intro; refine ⟨fun _ => ?_, hK _ ?_⟩; (first | fail); clear hK K)))
              (refine mix_step (by kernel_rfl) (by kernel_rfl) (fun K hK => ?_); go_simp; (try (simp only [↓IntWalk.iteOmega]; go_simp)); (first | (refine hK _ ?_; clear hK K) | (apply Exists.intro; refine ⟨fun _ => ?_, hK _ ?_⟩; (first | fail); clear hK K)))
              (refine mix_step (by kernel_rfl) (by kernel_rfl) (fun K hK => ?_); go_simp; (try (simp only [↓IntWalk.iteOmega]; go_simp)); (first | (refine hK _ ?_; clear hK K) | (apply Exists.intro; refine ⟨fun _ => ?_, hK _ ?_⟩; (first | fail); clear hK K)))
              (refine mix_step (by kernel_rfl) (by kernel_rfl) (fun K hK => ?_); go_simp; (try (simp only [↓IntWalk.iteOmega]; go_simp)); (first | (refine hK _ ?_; clear hK K) | (apply Exists.intro; refine ⟨fun _ => ?_, hK _ ?_⟩; (first | fail); clear hK K)))
              (refine mix_step (by kernel_rfl) (by kernel_rfl) (fun K hK => ?_); go_simp; (try (simp only [↓IntWalk.iteOmega]; go_simp)); (first | (refine hK _ ?_; clear hK K) | (apply Exists.intro; refine ⟨fun _ => ?_, hK _ ?_⟩; (first | fail); clear hK K)))
              (refine mix_step (by kernel_rfl) (by kernel_rfl) (fun K hK => ?_); go_simp; (try (simp only [↓IntWalk.iteOmega]; go_simp)); (first | (refine hK _ ?_; clear hK K) | (apply Exists.intro; refine ⟨fun _ => ?_, hK _ ?_⟩; (first | fail); clear hK K)))
              refine mix_exact (.agg #[.int .u8 ((iw.f 0).toNat : Int), .int .u8 ((iw.f 1).toNat : Int), .int .u8 ((iw.f 2).toNat : Int), .int .u8 ((iw.f 3).toNat : Int), .int .u8 ((iw.f 4).toNat : Int), .int .u8 ((iw.f 5).toNat : Int), .int .u8 ((iw.f 6).toNat : Int), .int .u8 ((iw.f 7).toNat : Int)]) rfl (exact_load_range (sub := Id8.vals iw) rfl rfl (by simp) HRB.out hbl Try.underlying44 rfl (by kernel_rfl)) ?_
              (refine mix_step (by kernel_rfl) (by kernel_rfl) (fun K hK => ?_); go_simp; (try (simp only [↓IntWalk.iteOmega]; go_simp)); (first | (refine hK _ ?_; clear hK K) | (apply Exists.intro; refine ⟨fun _ => ?_, hK _ ?_⟩; (first | fail); clear hK K)))
              (refine mix_step (by kernel_rfl) (by kernel_rfl) (fun K hK => ?_); go_simp; (try (simp only [↓IntWalk.iteOmega]; go_simp)); (first | (refine hK _ ?_; clear hK K) | (apply Exists.intro; refine ⟨fun _ => ?_, hK _ ?_⟩; (first | fail); clear hK K)))
              refine mix_exact (.agg #[.int .u8 0, .int .u8 0, .int .u8 0, .int .u8 0, .int .u8 0, .int .u8 0, .int .u8 0, .int .u8 0, .int .i64 y, .int .u8 ((iw.f 0).toNat : Int), .int .u8 ((iw.f 1).toNat : Int), .int .u8 ((iw.f 2).toNat : Int), .int .u8 ((iw.f 3).toNat : Int), .int .u8 ((iw.f 4).toNat : Int), .int .u8 ((iw.f 5).toNat : Int), .int .u8 ((iw.f 6).toNat : Int), .int .u8 ((iw.f 7).toNat : Int), .int .i64 ((pp : Int) + 1)]) rfl (exact_build3 rfl (.int .i64 y) (.agg #[.int .u8 ((iw.f 0).toNat : Int), .int .u8 ((iw.f 1).toNat : Int), .int .u8 ((iw.f 2).toNat : Int), .int .u8 ((iw.f 3).toNat : Int), .int .u8 ((iw.f 4).toNat : Int), .int .u8 ((iw.f 5).toNat : Int), .int .u8 ((iw.f 6).toNat : Int), .int .u8 ((iw.f 7).toNat : Int)]) (.int .i64 ((pp : Int) + 1)) _ rfl rfl rfl (by simp) (by simp) (by simp) (run_build_rv _ _ _)) ?_
              refine mix_special (NewAt wr.heap.size 81 #[.int .u8 0, .int .u8 0, .int .u8 0, .int .u8 0, .int .u8 0, .int .u8 0, .int .u8 0, .int .u8 0, .int .i64 0, .int .u8 0, .int .u8 0, .int .u8 0, .int .u8 0, .int .u8 0, .int .u8 0, .int .u8 0, .int .u8 0, .int .i64 0]) 12 rfl rfl (stable_new _ _ _) (owes_alloc (cs := #[.int .u8 0, .int .u8 0, .int .u8 0, .int .u8 0, .int .u8 0, .int .u8 0, .int .u8 0, .int .u8 0, .int .i64 0, .int .u8 0, .int .u8 0, .int .u8 0, .int .u8 0, .int .u8 0, .int .u8 0, .int .u8 0, .int .u8 0, .int .i64 0]) rfl (by kernel_rfl)) ?_
              refine mix_nil ?_
              rintro ⟨dq, osq⟩
              have hb5 := below_regrown wr dq osq
              rintro u12 ⟨g12, rfl, hB12, hR12⟩
              have R12 := Lib.hid hR12
              have hs5 : wr.heap.size ≤ (grow (redrawn wr dq) osq).heap.size := hb5.size
              clear hR12 f0 f1 hdc' HRB
              refine (show wpList _ _ _ _ _ _ from ?_)
              simp only [List.drop, Act.put, List.setIfInBounds_toArray, List.set]
              generalize hW5 : grow (redrawn wr dq) osq = w5 at *
              clear hW5
              go_wp2_with ((with_reducible refine at_store 81 (.tmp 12) (.tmp 63) ?_); refine wpList_store_own rfl 81 (.tmp 12) (.tmp 63) rfl g12 _ rfl rfl _ _ R12.out (by kernel_rfl) rfl (by simp [Value.oneCell']) wr.heap.size hB12 ?_)
              intro w6 hR6 ho6 hs6 hb6
              have R12 : Hid (RowIs w6 g12 81 #[.int .u8 0, .int .u8 0, .int .u8 0, .int .u8 0, .int .u8 0, .int .u8 0, .int .u8 0, .int .u8 0, .int .i64 y, .int .u8 ((iw.f 0).toNat : Int), .int .u8 ((iw.f 1).toNat : Int), .int .u8 ((iw.f 2).toNat : Int), .int .u8 ((iw.f 3).toNat : Int), .int .u8 ((iw.f 4).toNat : Int), .int .u8 ((iw.f 5).toNat : Int), .int .u8 ((iw.f 6).toNat : Int), .int .u8 ((iw.f 7).toNat : Int), .int .i64 ((pp : Int) + 1)]) := hR6
              have hb56 := hb5.trans hb6
              have f0 := cell_regrown ((hb56.cell (p := ⟨w.heap.size, 0, none⟩) (block_lt_of_cell c0)).trans c0)
              have f1 := cell_regrown ((hb56.cell (p := ⟨db, doff + i, none⟩) (block_lt_of_cell hdc)).trans hdc)
              have f2 := cell_regrown ((hb56.cell (p := ⟨lb, 1, none⟩) (block_lt_of_cell c5)).trans c5)
              have HRG := Lib.hid (range_later HRG.out hbl hb56)
              have hbl6 : ib < w6.heap.size := Nat.lt_of_lt_of_le hbl hb56.size
              clear hR6 ho6 hs6 hb6 hb5 c0 c5 hdc hs5 hB12
              go_upto_region 12 with fail
              refine wp_region_mix 17 (by kernel_rfl) (by kernel_rfl) (by kernel_rfl) ?_
              (refine mix_step (by kernel_rfl) (by kernel_rfl) (fun K hK => ?_); go_simp; (try (simp only [↓IntWalk.iteOmega]; go_simp)); (first | (refine hK _ ?_; clear hK K) | (apply Exists.intro; refine ⟨fun _ => ?_, hK _ ?_⟩; (first | fail); clear hK K)))
              (refine mix_step (by kernel_rfl) (by kernel_rfl) (fun K hK => ?_); go_simp; (try (simp only [↓IntWalk.iteOmega]; go_simp)); (first | (refine hK _ ?_; clear hK K) | (apply Exists.intro; refine ⟨fun _ => ?_, hK _ ?_⟩; (first | fail); clear hK K)))
              (refine mix_step (by kernel_rfl) (by kernel_rfl) (fun K hK => ?_); go_simp; (try (simp only [↓IntWalk.iteOmega]; go_simp)); (first | (refine hK _ ?_; clear hK K) | (apply Exists.intro; refine ⟨fun _ => ?_, hK _ ?_⟩; (first | fail); clear hK K)))
              (refine mix_step (by kernel_rfl) (by kernel_rfl) (fun K hK => ?_); go_simp; (try (simp only [↓IntWalk.iteOmega]; go_simp)); (first | (refine hK _ ?_; clear hK K) | (apply Exists.intro; refine ⟨fun _ => ?_, hK _ ?_⟩; (first | fail); clear hK K)))
              (refine mix_step (by kernel_rfl) (by kernel_rfl) (fun K hK => ?_); go_simp; (try (simp only [↓IntWalk.iteOmega]; go_simp)); (first | (refine hK _ ?_; clear hK K) | (apply Exists.intro; refine ⟨fun _ => ?_, hK _ ?_⟩; (first | fail); clear hK K)))
              (refine mix_step (by kernel_rfl) (by kernel_rfl) (fun K hK => ?_); go_simp; (try (simp only [↓IntWalk.iteOmega]; go_simp)); (first | (refine hK _ ?_; clear hK K) | (apply Exists.intro; refine ⟨fun _ => ?_, hK _ ?_⟩; (first | fail); clear hK K)))
              (refine mix_step (by kernel_rfl) (by kernel_rfl) (fun K hK => ?_); go_simp; (try (simp only [↓IntWalk.iteOmega]; go_simp)); (first | (refine hK _ ?_; clear hK K) | (apply Exists.intro; refine ⟨fun _ => ?_, hK _ ?_⟩; (first | fail); clear hK K)))
              (refine mix_step (by kernel_rfl) (by kernel_rfl) (fun K hK => ?_); go_simp; (try (simp only [↓IntWalk.iteOmega]; go_simp)); (first | (refine hK _ ?_; clear hK K) | (apply Exists.intro; refine ⟨fun _ => ?_, hK _ ?_⟩; (first | fail); clear hK K)))
              refine mix_exact (.agg #[.int .u8 ((io.f 0).toNat : Int), .int .u8 ((io.f 1).toNat : Int), .int .u8 ((io.f 2).toNat : Int), .int .u8 ((io.f 3).toNat : Int), .int .u8 ((io.f 4).toNat : Int), .int .u8 ((io.f 5).toNat : Int), .int .u8 ((io.f 6).toNat : Int), .int .u8 ((io.f 7).toNat : Int)]) rfl (exact_load_range (sub := Id8.vals io) rfl rfl (by simp) HRG.out hbl6 Try.underlying44 rfl (by kernel_rfl)) ?_
              (refine mix_step (by kernel_rfl) (by kernel_rfl) (fun K hK => ?_); go_simp; (try (simp only [↓IntWalk.iteOmega]; go_simp)); (first | (refine hK _ ?_; clear hK K) | (apply Exists.intro; refine ⟨fun _ => ?_, hK _ ?_⟩; (first | fail); clear hK K)))
              (refine mix_step (by kernel_rfl) (by kernel_rfl) (fun K hK => ?_); go_simp; (try (simp only [↓IntWalk.iteOmega]; go_simp)); (first | (refine hK _ ?_; clear hK K) | (apply Exists.intro; refine ⟨fun _ => ?_, hK _ ?_⟩; (first | fail); clear hK K)))
              (refine mix_step (by kernel_rfl) (by kernel_rfl) (fun K hK => ?_); go_simp; (try (simp only [↓IntWalk.iteOmega]; go_simp)); (first | (refine hK _ ?_; clear hK K) | (apply Exists.intro; refine ⟨fun _ => ?_, hK _ ?_⟩; (first | fail); clear hK K)))
              (refine mix_step (by kernel_rfl) (by kernel_rfl) (fun K hK => ?_); go_simp; (try (simp only [↓IntWalk.iteOmega]; go_simp)); (first | (refine hK _ ?_; clear hK K) | (apply Exists.intro; refine ⟨fun _ => ?_, hK _ ?_⟩; (first | fail); clear hK K)))
              (refine mix_step (by kernel_rfl) (by kernel_rfl) (fun K hK => ?_); go_simp; (try (simp only [↓IntWalk.iteOmega]; go_simp)); (first | (refine hK _ ?_; clear hK K) | (apply Exists.intro; refine ⟨fun _ => ?_, hK _ ?_⟩; (first | fail); clear hK K)))
              (refine mix_step (by kernel_rfl) (by kernel_rfl) (fun K hK => ?_); go_simp; (try (simp only [↓IntWalk.iteOmega]; go_simp)); (first | (refine hK _ ?_; clear hK K) | (apply Exists.intro; refine ⟨fun _ => ?_, hK _ ?_⟩; (first | fail); clear hK K)))
              refine mix_exact (.agg #[.int .u8 0, .int .u8 0, .int .u8 0, .int .u8 0, .int .u8 0, .int .u8 0, .int .u8 0, .int .u8 0, .int .i64 x, .int .u8 ((io.f 0).toNat : Int), .int .u8 ((io.f 1).toNat : Int), .int .u8 ((io.f 2).toNat : Int), .int .u8 ((io.f 3).toNat : Int), .int .u8 ((io.f 4).toNat : Int), .int .u8 ((io.f 5).toNat : Int), .int .u8 ((io.f 6).toNat : Int), .int .u8 ((io.f 7).toNat : Int), .int .i64 ((p : Int) + 1)]) rfl (exact_build3 rfl (.int .i64 x) (.agg #[.int .u8 ((io.f 0).toNat : Int), .int .u8 ((io.f 1).toNat : Int), .int .u8 ((io.f 2).toNat : Int), .int .u8 ((io.f 3).toNat : Int), .int .u8 ((io.f 4).toNat : Int), .int .u8 ((io.f 5).toNat : Int), .int .u8 ((io.f 6).toNat : Int), .int .u8 ((io.f 7).toNat : Int)]) (.int .i64 ((p : Int) + 1)) _ rfl rfl rfl (by simp) (by simp) (by simp) (run_build_rv _ _ _)) ?_
              refine mix_special (NewAt w6.heap.size 81 #[.int .u8 0, .int .u8 0, .int .u8 0, .int .u8 0, .int .u8 0, .int .u8 0, .int .u8 0, .int .u8 0, .int .i64 0, .int .u8 0, .int .u8 0, .int .u8 0, .int .u8 0, .int .u8 0, .int .u8 0, .int .u8 0, .int .u8 0, .int .i64 0]) 13 rfl rfl (stable_new _ _ _) (owes_alloc (cs := #[.int .u8 0, .int .u8 0, .int .u8 0, .int .u8 0, .int .u8 0, .int .u8 0, .int .u8 0, .int .u8 0, .int .i64 0, .int .u8 0, .int .u8 0, .int .u8 0, .int .u8 0, .int .u8 0, .int .u8 0, .int .u8 0, .int .u8 0, .int .i64 0]) rfl (by kernel_rfl)) ?_
              refine mix_nil ?_
              rintro ⟨dq, osq⟩
              have hb7 := below_regrown w6 dq osq
              rintro u13 ⟨g13, rfl, hB13, hR13⟩
              have R13 := Lib.hid hR13
              have hg12 : g12 < w6.heap.size := R12.out.lt
              have R12 := Lib.hid (R12.out.kept hb7)
              have hb57 := hb56.trans (hb7.mono hb56.size)
              have hg1213 : g12 ≠ g13 := by omega
              have hB13' : wr.heap.size ≤ g13 := Nat.le_trans hb56.size hB13
              clear hR13 f0 f1 f2 HRG hb56 hb7
              refine (show wpList _ _ _ _ _ _ from ?_)
              simp only [List.drop, Act.put, List.setIfInBounds_toArray, List.set]
              generalize grow (redrawn w6 dq) osq = w7 at *
              go_wp2_with ((with_reducible refine at_store 81 (.tmp 13) (.tmp 79) ?_); refine wpList_store_own rfl 81 (.tmp 13) (.tmp 79) rfl g13 _ rfl rfl _ _ R13.out (by kernel_rfl) rfl (by simp [Value.oneCell']) wr.heap.size hB13' ?_)
              intro w8 hR8 ho8 hs8 hb8
              have R13 : Hid (RowIs w8 g13 81 #[.int .u8 0, .int .u8 0, .int .u8 0, .int .u8 0, .int .u8 0, .int .u8 0, .int .u8 0, .int .u8 0, .int .i64 x, .int .u8 ((io.f 0).toNat : Int), .int .u8 ((io.f 1).toNat : Int), .int .u8 ((io.f 2).toNat : Int), .int .u8 ((io.f 3).toNat : Int), .int .u8 ((io.f 4).toNat : Int), .int .u8 ((io.f 5).toNat : Int), .int .u8 ((io.f 6).toNat : Int), .int .u8 ((io.f 7).toNat : Int), .int .i64 ((p : Int) + 1)]) := hR8
              have R12 := Lib.hid (rowIs_same R12.out (ho8 _ hg1213))
              have hb58 := hb57.trans hb8
              have R08 := Lib.hid (R0'.out.kept hb58)
              clear hR8 ho8 hs8 hb8 hb57
              have HCB := Lib.hid (refBetter_any (⟨.zero, y, iw, (pp : Int) + 1⟩ : SV) (⟨.zero, x, io, (p : Int) + 1⟩ : SV) w8)
              generalize hbt : (⟨.zero, y, iw, (pp : Int) + 1⟩ : SV).better (⟨.zero, x, io, (p : Int) + 1⟩ : SV) = bt at *
              clear hbt
              go_wp2_with (first
                | ((with_reducible refine at_load 81 (.tmp 12) ?_); refine wpList_load_own rfl 81 (.tmp 12) rfl g12 rfl _ _ _ R12.out Try.underlying81 rfl (by kernel_rfl) ?_)
                | ((with_reducible refine at_load 81 (.tmp 13) ?_); refine wpList_load_own rfl 81 (.tmp 13) rfl g13 rfl _ _ _ R13.out Try.underlying81 rfl (by kernel_rfl) ?_))
              refine HCB.out.mono ?_
              rintro e w9 ⟨rfl, hb9⟩
              have hb59 := hb58.trans (hb9.mono hb58.size)
              have R09 := Lib.hid (R08.out.kept hb9)
              clear hb9 hb58 HCB R12 R13 R08
              cases bt
              · have HP := Lib.hid (HPX.out w9 hb59)
                go_wp2_with ((with_reducible refine at_load 26 (.tmp 3) ?_); refine wpList_load_own rfl 26 (.tmp 3) rfl w.heap.size rfl _ _ _ R09.out Try.underlying26 rfl (by kernel_rfl) ?_)
                refine HP.out.mono ?_
                rintro e w10 ⟨rfl, hb10⟩
                have hbe := HEND.out w10 (hbr.trans ((hb59.trans (hb10.mono hb59.size)).mono hbr.size))
                clear hb10 HP
                go_wp2_with fail
                go_ret
                refine ⟨?_, hbe⟩
                rw [HFB.out]
                rfl
              · have hbe := HEND.out w9 (hbr.trans (hb59.mono hbr.size))
                go_wp2_with fail
                go_ret
                refine ⟨?_, hbe⟩
                rw [HFB.out]
                rfl
        · have HNM : Hid (∀ t d, t < 2 * (m + 1) → N.turns[t]? = some d → ¬ (d.b = (b : Int) ∧ d.q = (pp : Int))) := fun t d ht => HNO.out t d (by omega)
          go_wp2_with fail
          exact ⟨⟨m + 1, by omega, by go_num, HNM, hbr⟩, by simp [intOf]; omega⟩
    · obtain rfl : m = N.links.length := by omega
      have c2 : wr.cell? ⟨w.heap.size, 2, none⟩ = some (.slice v.al N.links.length v.cl) := R0'.out.cell 2
      have hbe := HEND.out wr hbr
      have HFB : Hid (forwB N D q b pp = true) := forwB_none D q fun d hd hmt => by
        obtain ⟨t, ht, e⟩ := List.mem_iff_getElem.1 (mem_turns.2 hd)
        exact HNO.out t d (by rw [← turns_len]; exact ht) (by rw [List.getElem?_eq_getElem ht, e]) hmt
      clear HNO
      go_wp2_with fail
      go_ret
      refine ⟨?_, hbe⟩
      rw [HFB.out]
      rfl
end Go.Proofs.Ytcmokhpnooldgaa
