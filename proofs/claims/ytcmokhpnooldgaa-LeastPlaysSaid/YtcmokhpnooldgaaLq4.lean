/- causeyref18.Port. By an AI agent. -/
import Derived.Test.YtcmokhpnooldgaaLq3
namespace Go.Proofs.Ytcmokhpnooldgaa
open Go.RowKit Go.WideShapes Go.Sort Grow

/-- an answer: these numbers -/
def IntsQ (n : Nat) (zs : List Int) : Fact := fun w u => ∃ ao cap, u = .slice ao n cap ∧ IntsAt w ao zs
theorem stable_intsQ (n : Nat) (zs : List Int) : Stable Bel (IntsQ n zs) := fun _ _ _ hb ⟨ao, cap, h, hi⟩ => ⟨ao, cap, h, hi.after hb⟩
namespace Grow
section
variable {P : Program} {ops : Array Oper} {w0 : World} {a : Act} {S : List (Tmp × Fact)} {o : Oper}
/-- a struct built of three parts, by an equation of its own -/
theorem exact_build3 {t f1 f2 f3 : Nat} {y1 y2 y3 : Tmp} (ho : o.op = .build t #[(f1, .tmp y1), (f2, .tmp y2), (f3, .tmp y3)]) (v1 v2 v3 v : Value) (h1 : a.eval (.tmp y1) = v1) (h2 : a.eval (.tmp y2) = v2) (h3 : a.eval (.tmp y3) = v3)
    (hS1 : y1 ∉ S.map Prod.fst) (hS2 : y2 ∉ S.map Prod.fst) (hS3 : y3 ∉ S.map Prod.fst) (hv : ∀ w, (Instr.build t #[(f1, v1), (f2, v2), (f3, v3)]).run P w = .ok v w) : Owes Bel P ops w0 a S o (fun _ u => u = v) := by
  intro ρ w _ _ hk
  have m1 : y1 ∈ o.looksAt ops := by simp [Oper.looksAt, ho, Op.operands]
  have m2 : y2 ∈ o.looksAt ops := by simp [Oper.looksAt, ho, Op.operands]
  have m3 : y3 ∈ o.looksAt ops := by simp [Oper.looksAt, ho, Op.operands]
  have e1 := (hk _ m1 hS1).trans h1
  have e2 := (hk _ m2 hS2).trans h2
  have e3 := (hk _ m3 hS3).trans h3
  unfold gives execOp
  simp only [ho]
  rw [show Array.map (fun x => (x.fst, ρ.eval x.snd)) #[(f1, Operand.tmp y1), (f2, .tmp y2), (f3, .tmp y3)] = #[(f1, v1), (f2, v2), (f3, v3)] by simp [e1, e2, e3]]
  rw [Sem.run_bind, hv]
  exact ⟨Below.refl _ _, rfl⟩
end
end Grow
theorem run_build_rv (c p : Int) (b : Id8) (w : World) : (Instr.build 81 #[(1, .int .i64 c), (2, .agg #[.int .u8 ((b.f 0).toNat : Int), .int .u8 ((b.f 1).toNat : Int), .int .u8 ((b.f 2).toNat : Int), .int .u8 ((b.f 3).toNat : Int), .int .u8 ((b.f 4).toNat : Int), .int .u8 ((b.f 5).toNat : Int), .int .u8 ((b.f 6).toNat : Int), .int .u8 ((b.f 7).toNat : Int)]), (3, .int .i64 p)]).run Try.prog w = .ok (.agg #[.int .u8 0, .int .u8 0, .int .u8 0, .int .u8 0, .int .u8 0, .int .u8 0, .int .u8 0, .int .u8 0, .int .i64 c, .int .u8 ((b.f 0).toNat : Int), .int .u8 ((b.f 1).toNat : Int), .int .u8 ((b.f 2).toNat : Int), .int .u8 ((b.f 3).toNat : Int), .int .u8 ((b.f 4).toNat : Int), .int .u8 ((b.f 5).toNat : Int), .int .u8 ((b.f 6).toNat : Int), .int .u8 ((b.f 7).toNat : Int), .int .i64 p]) w := by
  go_simp
theorem Sol.bdq {N : LN} {R : List Nat} {D q : List Int} (h : Sol N R D q) {i : Nat} (hi : i < N.ids.length) : 0 ≤ D.getD i 0 ∧ D.getD i 0 ≤ 1000000 := by
  have hw := h.dist.walk i hi
  obtain ⟨l, c', hp, hle⟩ := hw.path h.ok
  have h3 := hp.short h.ok (h.roots.lt i hi)
  have h4 := h.dist.least i c' hi hp.walk
  have h5 := (hw.nonneg h.ok).1
  omega

set_option maxRecDepth 20000 in
set_option maxHeartbeats 16000000 in
theorem refPort18 (v : NV) (N : LN) (w : World) (h : NetAt w v N) (hl : N.links.length ≤ 1000) (R : List Nat) (D q : List Int) (hS : Sol N R D q) (b : Nat) (hb : b < N.ids.length) :
    Calls Try.prog 20 #[.agg #[.slice v.ai N.ids.length v.ci, .slice v.ac N.costs.length v.cc, .slice v.al N.links.length v.cl], .int .i64 b] w fun e w' => e = .returned (.int .i64 (q.getD b 0)) ∧ Below w.heap.size w w' := by
  have HS := Lib.hid hS
  have HOK := Lib.hid hS.ok
  have HLEN := Lib.hid hS.ok.len
  have hn16 := hS.ok.n16
  have HRL : Hid (R.length = N.ids.length) := hS.roots.len
  have HDL : Hid (D.length = N.ids.length) := hS.dist.len
  have HBD : Hid (∀ i, i < N.ids.length → 0 ≤ D.getD i 0 ∧ D.getD i 0 ≤ 1000000) := fun i hi => hS.bdq hi
  clear hS
  have HN := Lib.hid h
  clear h
  go_enter Try.func20, Try.ntmps20
  go_upto_region 1 with fail
  generalize hW : w.alloc _ = w1
  have hbW : Below w.heap.size w w1 := by rw [← hW]; exact (Below.refl _ _).alloc (Nat.le_refl _) _
  have R0 : Hid (RowIs w1 w.heap.size 26 #[.slice v.ai N.ids.length v.ci, .slice v.ac N.costs.length v.cc, .slice v.al N.links.length v.cl]) := by subst hW; exact rowIs_new w _ _
  clear hW
  have HCR : Hid (∀ W, Below w1.heap.size w1 W → Calls Try.prog 18 #[.agg #[.slice v.ai N.ids.length v.ci, .slice v.ac N.costs.length v.cc, .slice v.al N.links.length v.cl]] W fun e w' => (∃ ao cap, e = .returned (.slice ao N.ids.length cap) ∧ IntsAt w' ao (natI R)) ∧ Below W.heap.size W w') := fun W hb => refRoots18 v N W (HN.out.kept (hbW.trans (hb.mono hbW.size))) hl HOK.out R HS.out.roots
  have HCD : Hid (∀ W, Below w1.heap.size w1 W → Calls Try.prog 19 #[.agg #[.slice v.ai N.ids.length v.ci, .slice v.ac N.costs.length v.cc, .slice v.al N.links.length v.cl]] W fun e w' => (∃ ao cap, e = .returned (.slice ao N.ids.length cap) ∧ IntsAt w' ao D) ∧ Below W.heap.size W w') := fun W hb => refDists18 v N W (HN.out.kept (hbW.trans (hb.mono hbW.size))) hl HOK.out R HS.out.roots D HS.out.dist
  refine wp_region_mix 4 (by kernel_rfl) (by kernel_rfl) (by kernel_rfl) ?_
  refine mix_exact (.agg #[.slice v.ai N.ids.length v.ci, .slice v.ac N.costs.length v.cc, .slice v.al N.links.length v.cl]) rfl (exact_load_row rfl rfl (by simp) R0.out Try.underlying26 rfl (by kernel_rfl)) ?_
  refine mix_special (IntsQ N.ids.length (natI R)) 16 rfl rfl (stable_intsQ _ _) (owes_call (xs := [15]) (vs := [.agg #[.slice v.ai N.ids.length v.ci, .slice v.ac N.costs.length v.cc, .slice v.al N.links.length v.cl]]) rfl (by simp) rfl Try.func18 (by kernel_rfl) (by kernel_rfl) (fun w' hb => (HCR.out w' hb).mono (by
    rintro e w'' ⟨⟨ao, cap, rfl, h1⟩, hb'⟩
    exact ⟨_, rfl, hb', ao, cap, rfl, h1⟩))) ?_
  refine mix_exact (.agg #[.slice v.ai N.ids.length v.ci, .slice v.ac N.costs.length v.cc, .slice v.al N.links.length v.cl]) rfl (exact_load_row rfl rfl (by simp) R0.out Try.underlying26 rfl (by kernel_rfl)) ?_
  refine mix_special (IntsQ N.ids.length D) 18 rfl rfl (stable_intsQ _ _) (owes_call (xs := [17]) (vs := [.agg #[.slice v.ai N.ids.length v.ci, .slice v.ac N.costs.length v.cc, .slice v.al N.links.length v.cl]]) rfl (by simp) rfl Try.func19 (by kernel_rfl) (by kernel_rfl) (fun w' hb => (HCD.out w' hb).mono (by
    rintro e w'' ⟨⟨ao, cap, rfl, h1⟩, hb'⟩
    exact ⟨_, rfl, hb', ao, cap, rfl, h1⟩))) ?_
  refine mix_nil ?_
  rintro ⟨dq, osq⟩
  have hbk := below_regrown w1 dq osq
  rintro u16 ⟨ar, rcap, rfl, hir⟩ u18 ⟨ad, dcap, rfl, hid⟩
  have HIR := Lib.hid hir
  have HK : Hid (∀ W, Below (grow (redrawn w1 dq) osq).heap.size (grow (redrawn w1 dq) osq) W → RowIs W w.heap.size 26 #[.slice v.ai N.ids.length v.ci, .slice v.ac N.costs.length v.cc, .slice v.al N.links.length v.cl] ∧ NetAt W v N ∧ IntsAt W ad D) := fun W hb => ⟨(R0.out.kept hbk).kept hb, (HN.out.kept (hbW.trans (hbk.mono hbW.size))).kept hb, IntsAt.after hid hb⟩
  have HEND : Hid (∀ W, Below (grow (redrawn w1 dq) osq).heap.size (grow (redrawn w1 dq) osq) W → Below w.heap.size w W) := fun W hb => (hbW.trans (hbk.mono hbW.size)).trans (hb.mono (Nat.le_trans hbW.size hbk.size))
  clear hir hid hbk HCR HCD R0 hbW HN
  refine (show wpList _ _ _ _ _ _ from ?_)
  simp only [List.drop, Act.put, List.setIfInBounds_toArray, List.set]
  generalize grow (redrawn w1 dq) osq = w2 at *
  obtain ⟨rb, roff, er, hrc⟩ := ints_cell HIR.out (show b < (natI R).length by rw [natI_len, HRL.out]; exact hb)
  rw [natI_get (by rw [HRL.out]; exact hb)] at hrc
  subst er
  have hx0 : (0 : Int) ≤ (b : Int) := by omega
  have hx1 : (b : Int) < (N.ids.length : Int) := by omega
  by_cases hrb : R.getD b 0 = b
  · have hq := HS.out.ports.root b hb hrb
    have hbe := HEND.out w2 (Below.refl _ _)
    rw [hrb] at hrc
    have HQ := Lib.hid hq
    clear hq hrb
    go_wp2_with fail
    go_ret
    exact ⟨by rw [HQ.out]; rfl, hbe⟩
  have e0 : (((R.getD b 0 : Nat) : Int) == (b : Int)) = false := by rw [beq_eq_false_iff_ne]; omega
  have HPI := Lib.hid (port_is HS.out hb hrb)
  have hz32 : (N.cs b).length ≤ 32 := by
    have h3 := HOK.out.cost (N.cs b) (LN.cs_mem (by have := HLEN.out; omega))
    unfold okCosts at h3
    simp only [Bool.and_eq_true, decide_eq_true_eq] at h3
    exact h3.1
  clear hrb
  generalize R.getD b 0 = rb2 at *
  go_upto_region 6 with fail
  have RZ := Lib.hid (rowIs_new w2 81 #[.int .u8 0, .int .u8 0, .int .u8 0, .int .u8 0, .int .u8 0, .int .u8 0, .int .u8 0, .int .u8 0, .int .i64 0, .int .u8 0, .int .u8 0, .int .u8 0, .int .u8 0, .int .u8 0, .int .u8 0, .int .u8 0, .int .u8 0, .int .i64 0])
  have hbk : Below w2.heap.size w2 (w2.alloc (.cells #[.int .u8 0, .int .u8 0, .int .u8 0, .int .u8 0, .int .u8 0, .int .u8 0, .int .u8 0, .int .u8 0, .int .i64 0, .int .u8 0, .int .u8 0, .int .u8 0, .int .u8 0, .int .u8 0, .int .u8 0, .int .u8 0, .int .u8 0, .int .i64 0] 81)) := (Below.refl _ _).alloc (Nat.le_refl _) _
  have h0B : w.heap.size < w2.heap.size := (HK.out w2 (Below.refl _ _)).1.lt
  clear e0 hrc HIR
  generalize w2.alloc (.cells #[.int .u8 0, .int .u8 0, .int .u8 0, .int .u8 0, .int .u8 0, .int .u8 0, .int .u8 0, .int .u8 0, .int .i64 0, .int .u8 0, .int .u8 0, .int .u8 0, .int .u8 0, .int .u8 0, .int .u8 0, .int .u8 0, .int .u8 0, .int .i64 0] 81) = w3 at *
  generalize w2.heap.size = BB at *
  go_wp2_with fail
  go_loopw [7, 9, 10, 11, 12, 13, 14] (fun s7 s9 _ _ _ _ _ wr => ∃ pp : Nat, pp ≤ (N.cs b).length ∧ s9 = .int .i64 pp ∧ s7 = .int .i64 (portQ N D b pp).1 ∧ Hid (RowIs wr BB 81 (portQ N D b pp).2.cells) ∧ Below BB w2 wr) (fun _ s9 _ _ _ _ _ _ => (N.cs b).length - (intOf s9).toNat)
  case atStart => exact ⟨0, Nat.zero_le _, rfl, rfl, RZ, hbk⟩
  case round =>
    clear RZ hbk
    rename World => wr
    obtain ⟨pp, hpp, rfl, rfl, HBS, hbr⟩ := hrel
    have hbl0 : b < N.costs.length := by have := HLEN.out; omega
    obtain ⟨hr0, hn0, hi0⟩ := HK.out wr hbr
    obtain ⟨cb, coff, ca, cci, eac, hcel, hci⟩ := hn0.cs hbl0
    have c1 : wr.cell? ⟨w.heap.size, 1, none⟩ = some (.slice (some ⟨cb, coff, none⟩) N.costs.length v.cc) := by rw [← eac]; exact hr0.cell 1
    have hxb2 : (b : Int) < (N.costs.length : Int) := by omega
    clear hr0 hn0 hi0 eac hci
    by_cases hppl : pp < (N.cs b).length
    · have HSN : Hid (portQ N D b (pp + 1) = portIn N D b pp (portQ N D b pp) (2 * N.links.length)) := rfl
      have HPZ : Hid (portIn N D b pp (portQ N D b pp) (2 * 0) = portQ N D b pp) := rfl
      generalize portQ N D b pp = s0 at *
      go_wp2_with fail
      clear c1 hcel
      go_loopw [7, 10, 11, 12, 13, 14] (fun s7 s10 _ _ _ _ wr => ∃ m : Nat, m ≤ N.links.length ∧ s10 = .int .i64 m ∧ s7 = .int .i64 (portIn N D b pp s0 (2 * m)).1 ∧ Hid (RowIs wr BB 81 (portIn N D b pp s0 (2 * m)).2.cells) ∧ Below BB w2 wr) (fun _ s10 _ _ _ _ _ => N.links.length - (intOf s10).toNat)
      case atStart => exact ⟨0, Nat.zero_le _, rfl, by rw [HPZ.out], by rw [HPZ.out]; exact HBS, hbr⟩
      case round =>
        clear HBS hbr HPZ
        rename World => wr
        obtain ⟨m, hm, rfl, rfl, HBS, hbr⟩ := hrel
        obtain ⟨hr0, hn0, hi0⟩ := HK.out wr hbr
        have R0' := Lib.hid hr0
        have HN' := Lib.hid hn0
        have hgw2 : BB < wr.heap.size := HBS.out.lt
        have hgw : BB ≤ wr.heap.size := Nat.le_of_lt hgw2
        clear hr0 hn0 hi0
        by_cases hlt : m < N.links.length
        · as_aux_lemma =>
          obtain ⟨qb, off, eal, hbl, hrg⟩ := HN'.out.lkr hlt
          have HRG := Lib.hid hrg
          have hmem : N.lk m ∈ N.dirs := List.mem_of_getElem? (dirs_get hlt).1
          have h1 := HOK.out.from_lt hmem
          have h2 := HOK.out.to_lt hmem
          have hc1 := HOK.out.cost_le hmem
          have hc2 := HOK.out.cost_le (dirs_turn hmem)
          obtain ⟨i, ei⟩ := Int.eq_ofNat_of_zero_le h1.1
          obtain ⟨p, ep⟩ := Int.eq_ofNat_of_zero_le h1.2.2.1
          obtain ⟨j, ej⟩ := Int.eq_ofNat_of_zero_le h2.1
          obtain ⟨qq, eq⟩ := Int.eq_ofNat_of_zero_le h2.2.2.1
          have c2 : wr.cell? ⟨w.heap.size, 2, none⟩ = some (.slice (some ⟨qb, off, none⟩) N.links.length v.cl) := by rw [← eal]; exact R0'.out.cell 2
          have HD1 : Hid (portIn N D b pp s0 (2 * m + (0 + 1)) = stQf N D b pp (portIn N D b pp s0 (2 * m + 0)) (N.lk m).turn) := portIn_succ D b pp s0 (turns_get hlt).1
          have HD2 : Hid (portIn N D b pp s0 (2 * m + (1 + 1)) = stQf N D b pp (portIn N D b pp s0 (2 * m + 1)) (N.lk m)) := portIn_succ D b pp s0 (turns_get hlt).2
          generalize N.lk m = x at *
          obtain ⟨xa, xp, xb, xq⟩ := x
          simp only at ei ep ej eq
          subst ei ep ej eq
          have hi : i < N.ids.length := by simpa [Lk.i] using h1.2.1
          have hj : j < N.ids.length := by simpa [Lk.j] using h2.2.1
          have hpl : ∀ k, k < N.ids.length → (N.cs k).length ≤ 32 := fun k hk => by
            have h3 := HOK.out.cost (N.cs k) (LN.cs_mem (by have := HLEN.out; omega))
            unfold okCosts at h3
            simp only [Bool.and_eq_true, decide_eq_true_eq] at h3
            exact h3.1
          have hppb : p ≤ 32 := by have h3 : p < (N.cs i).length := (by simpa [Lk.i] using h1.2.2.2); have := hpl i hi; omega
          have hpqqb : qq ≤ 32 := by have h3 : qq < (N.cs j).length := (by simpa [Lk.j] using h2.2.2.2); have := hpl j hj; omega
          have hcstj : 1 ≤ (N.cs j).getD qq 0 ∧ (N.cs j).getD qq 0 ≤ 65535 := hc1
          have hcsti : 1 ≤ (N.cs i).getD p 0 ∧ (N.cs i).getD p 0 ≤ 65535 := hc2
          have hx2 : (0 : Int) ≤ (m : Int) := by omega
          have hx3 : (m : Int) < (N.links.length : Int) := by omega
          clear h1 h2 hc1 hc2 hmem eal hrg hpl
          have R6 := Lib.hid (rowIs_new wr 37 #[.int .i64 0, .int .i64 0, .int .i64 0, .int .i64 0])
          go_wp2_with (first
            | ((with_reducible refine at_load 37 (.tmp 46) ?_); refine wpList_load_mid18 rfl 37 (.tmp 46) rfl qb (off + m * 4) rfl (Lk.vals ⟨i, p, j, qq⟩) _ HRG.out Try.underlying37 rfl (by kernel_rfl) ?_)
            | ((with_reducible refine at_store 37 (.tmp 11) (.tmp 47) ?_); refine wpList_store_own rfl 37 (.tmp 11) (.tmp 47) rfl wr.heap.size _ rfl rfl _ _ R6.out (by kernel_rfl) rfl (by simp [Lk.vals, Value.oneCell']) wr.heap.size (Nat.le_refl _) ?_))
          intro wl hRl hol hsl hbl'
          have hbx : Below wr.heap.size wr wl := ((Below.refl _ _).alloc (Nat.le_refl _) _).trans hbl'
          have RL : Hid (RowIs wl wr.heap.size 37 #[.int .i64 i, .int .i64 p, .int .i64 j, .int .i64 qq]) := hRl
          have HB4 := Lib.hid (HBS.out.kept hbx)
          have hbr4 := hbr.trans (hbx.mono hgw)
          have hlB : wr.heap.size ≠ BB := by omega
          clear hRl hol hsl hbl' hbx R6 HRG c2 R0' HN' HBS hbr hgw hgw2
          generalize wr.heap.size = lb at *
          go_wp2_with fail
          go_loopw [7, 12, 13, 14] (fun s7 s12 _ _ wr => ∃ e : Nat, e ≤ 2 ∧ s12 = .int .i64 e ∧ s7 = .int .i64 (portIn N D b pp s0 (2 * m + e)).1 ∧ Hid (RowIs wr BB 81 (portIn N D b pp s0 (2 * m + e)).2.cells) ∧ Hid (RowIs wr lb 37 #[.int .i64 i, .int .i64 p, .int .i64 j, .int .i64 qq]) ∧ Below BB w2 wr) (fun _ s12 _ _ _ => 2 - (intOf s12).toNat)
          case atStart => exact ⟨0, by omega, rfl, rfl, HB4, RL, hbr4⟩
          case round =>
            clear HB4 RL hbr4 wl
            rename World => wr
            obtain ⟨e, he, rfl, rfl, HBS, RL, hbr⟩ := hrel
            obtain ⟨hr0, hn0, hi0⟩ := HK.out wr hbr
            have R0' := Lib.hid hr0
            have HN' := Lib.hid hn0
            have HID := Lib.hid hi0
            obtain ⟨cb, coff, ca, cci, eac, hcel, hci⟩ := hn0.cs hbl0
            have HCI := Lib.hid hci
            have c1 : wr.cell? ⟨w.heap.size, 1, none⟩ = some (.slice (some ⟨cb, coff, none⟩) N.costs.length v.cc) := by rw [← eac]; exact hr0.cell 1
            have hgw2 : BB < wr.heap.size := HBS.out.lt
            have hgw : BB ≤ wr.heap.size := Nat.le_of_lt hgw2
            have hlw : lb < wr.heap.size := RL.out.lt
            clear hr0 hn0 hi0 hci eac
            rcases (show e = 0 ∨ e = 1 ∨ e = 2 by omega) with rfl | rfl | rfl
            · as_aux_lemma =>
              have HD : Hid (portIn N D b pp s0 (2 * m + (0 + 1)) = stQf N D b pp (portIn N D b pp s0 (2 * m + 0)) ⟨j, qq, i, p⟩) := HD1
              have hxo0 : (0 : Int) ≤ (i : Int) := by omega
              have k0 : wr.cell? ⟨lb, 0, none⟩ = some (.int .i64 i) := RL.out.cell 0
              have k1 : wr.cell? ⟨lb, 1, none⟩ = some (.int .i64 p) := RL.out.cell 1
              have k2 : wr.cell? ⟨lb, 2, none⟩ = some (.int .i64 j) := RL.out.cell 2
              have k3 : wr.cell? ⟨lb, 3, none⟩ = some (.int .i64 qq) := RL.out.cell 3
              have hw0 : IntKind.i64.wrap 0 = 0 := rfl
              have hw1 : IntKind.i64.wrap 1 = 1 := rfl
              have hw2 : IntKind.i64.wrap 2 = 2 := rfl
              have hw3 : IntKind.i64.wrap 3 = 3 := rfl
              by_cases hm1 : i = b
              case neg =>
                have HSE : Hid (portIn N D b pp s0 (2 * m + (0 + 1)) = portIn N D b pp s0 (2 * m + 0)) := by
                  show _ = _
                  have h := HD.out
                  rw [show stQf N D b pp (portIn N D b pp s0 (2 * m + 0)) ⟨j, qq, i, p⟩ = portIn N D b pp s0 (2 * m + 0) from if_neg (fun x => hm1 (by have : ((i : Nat) : Int) = (b : Int) := x.1; omega))] at h
                  exact h
                have e1 : (((i : Nat) : Int) == (b : Int)) = false := by rw [beq_eq_false_iff_ne]; omega
                go_wp2_with fail
                exact ⟨⟨0 + 1, by omega, by go_num, (congrArg (fun s => Value.int .i64 (Prod.fst s)) HSE.out).symm, by rw [HSE.out]; exact HBS, RL, hbr⟩, by simp [intOf]⟩
              case pos =>
                have hm1' : b = i := hm1.symm
                subst hm1'
                clear hm1
                by_cases hm2 : p = pp
                case neg =>
                  have HSE : Hid (portIn N D b pp s0 (2 * m + (0 + 1)) = portIn N D b pp s0 (2 * m + 0)) := by
                    show _ = _
                    have h := HD.out
                    rw [show stQf N D b pp (portIn N D b pp s0 (2 * m + 0)) ⟨j, qq, b, p⟩ = portIn N D b pp s0 (2 * m + 0) from if_neg (fun x => hm2 (by have : ((p : Nat) : Int) = (pp : Int) := x.2; omega))] at h
                    exact h
                  have e2 : (((p : Nat) : Int) == (pp : Int)) = false := by rw [beq_eq_false_iff_ne]; omega
                  clear hm2
                  go_wp2_with fail
                  exact ⟨⟨0 + 1, by omega, by go_num, (congrArg (fun s => Value.int .i64 (Prod.fst s)) HSE.out).symm, by rw [HSE.out]; exact HBS, RL, hbr⟩, by simp [intOf]⟩
                case pos =>
                  have hm2' : pp = p := hm2.symm
                  subst hm2'
                  clear hm2
                  have HST : Hid (portIn N D b pp s0 (2 * m + (0 + 1)) = stQ N D (portIn N D b pp s0 (2 * m + 0)) ⟨j, qq, b, pp⟩) := by
                    show _ = _
                    have h := HD.out
                    rw [show stQf N D b pp (portIn N D b pp s0 (2 * m + 0)) ⟨j, qq, b, pp⟩ = stQ N D (portIn N D b pp s0 (2 * m + 0)) ⟨j, qq, b, pp⟩ from if_pos ⟨rfl, rfl⟩] at h
                    exact h
                  have HQD : Hid ((⟨j, qq, b, pp⟩ : Lk).q = (pp : Int)) := rfl
                  have HV : Hid (hear0 N D ⟨j, qq, b, pp⟩ = ⟨.zero, D.getD j 0 + (N.cs b).getD pp 0, N.id j, (qq : Int) + 1⟩) := rfl
                  have hcb := hcsti
                  have hob := hpqqb
                  clear hcsti hcstj hppb hpqqb
                  go_upto_region 18 with fail
                  clear k0 k1 k2 k3
                  have hdb := HBD.out j hj
                  obtain ⟨db, doff, ed, hdc⟩ := ints_cell HID.out (show j < D.length by rw [HDL.out]; exact hj)
                  subst ed
                  obtain ⟨ib, ioff, eai, hbl, hrg⟩ := HN'.out.idr hj
                  have HRG := Lib.hid hrg
                  obtain ⟨b2, off2, e2, hcq⟩ := ints_cell HCI.out hppl
                  subst e2
                  have f0 := cell_regrown (show wr.cell? ⟨w.heap.size, 0, none⟩ = some (.slice (some ⟨ib, ioff, none⟩) N.ids.length v.ci) by rw [← eai]; exact R0'.out.cell 0)
                  have f1 := cell_regrown c1
                  have f2 := cell_regrown hcel
                  have f3 := cell_regrown hdc
                  have f4 := cell_regrown hcq
                  have f5 := cell_regrown (show wr.cell? ⟨lb, 3, none⟩ = some (.int .i64 qq) from RL.out.cell 3)
                  have hxo1 : (0 : Int) ≤ (j : Int) := by omega
                  have hxo2 : (j : Int) < (N.ids.length : Int) := by omega
                  have hxo3 : (0 : Int) ≤ (pp : Int) := by omega
                  have hxo4 : (pp : Int) < ((N.cs b).length : Int) := by omega
                  have hwa : IntKind.i64.wrap (D.getD j 0 + (N.cs b).getD pp 0) = D.getD j 0 + (N.cs b).getD pp 0 := by rw [IntKind.wrap_i64]; omega
                  have hwb : IntKind.i64.wrap ((qq : Int) + 1) = (qq : Int) + 1 := by rw [IntKind.wrap_i64]; omega
                  have HSQ : Hid (stQ N D (portIn N D b pp s0 (2 * m + 0)) ⟨j, qq, b, pp⟩ = if (portIn N D b pp s0 (2 * m + 0)).1 < 0 ∨ (hear0 N D ⟨j, qq, b, pp⟩).better (portIn N D b pp s0 (2 * m + 0)).2 = true then ((pp : Int), hear0 N D ⟨j, qq, b, pp⟩) else portIn N D b pp s0 (2 * m + 0)) := by
                    show _ = _
                    unfold stQ
                    rw [HQD.out]
                  rw [HV.out] at HSQ
                  generalize hst2 : stQ N D (portIn N D b pp s0 (2 * m + 0)) ⟨j, qq, b, pp⟩ = st2 at *
                  clear hst2
                  generalize portIn N D b pp s0 (2 * m + 0) = st at *
                  replace HBS : Hid (RowIs wr BB 81 #[.int .u8 ((st.2.r.f 0).toNat : Int), .int .u8 ((st.2.r.f 1).toNat : Int), .int .u8 ((st.2.r.f 2).toNat : Int), .int .u8 ((st.2.r.f 3).toNat : Int), .int .u8 ((st.2.r.f 4).toNat : Int), .int .u8 ((st.2.r.f 5).toNat : Int), .int .u8 ((st.2.r.f 6).toNat : Int), .int .u8 ((st.2.r.f 7).toNat : Int), .int .i64 st.2.c, .int .u8 ((st.2.b.f 0).toNat : Int), .int .u8 ((st.2.b.f 1).toNat : Int), .int .u8 ((st.2.b.f 2).toNat : Int), .int .u8 ((st.2.b.f 3).toNat : Int), .int .u8 ((st.2.b.f 4).toNat : Int), .int .u8 ((st.2.b.f 5).toNat : Int), .int .u8 ((st.2.b.f 6).toNat : Int), .int .u8 ((st.2.b.f 7).toNat : Int), .int .i64 st.2.p]) := HBS
                  generalize D.getD j 0 = x at *
                  generalize (N.cs b).getD pp 0 = c at *
                  generalize N.id j = io at *
                  clear eai hrg HD HV HQD hcb hob hdb c1 hcel hdc hcq
                  refine wp_region_mix 26 (by kernel_rfl) (by kernel_rfl) (by kernel_rfl) ?_
                  (refine mix_step (by kernel_rfl) (by kernel_rfl) (fun K hK => ?_); go_simp; (try (simp only [↓IntWalk.iteOmega]; go_simp)); (first | (refine hK _ ?_; clear hK K) | (apply Exists.intro; refine ⟨fun _ => ?_, hK _ ?_⟩; (first | fail); clear hK K)))
                  (refine mix_step (by kernel_rfl) (by kernel_rfl) (fun K hK => ?_); go_simp; (try (simp only [↓IntWalk.iteOmega]; go_simp)); (first | (refine hK _ ?_; clear hK K) | (apply Exists.intro; refine ⟨fun _ => ?_, hK _ ?_⟩; (first | fail); clear hK K)))
                  (refine mix_step (by kernel_rfl) (by kernel_rfl) (fun K hK => ?_); go_simp; (try (simp only [↓IntWalk.iteOmega]; go_simp)); (first | (refine hK _ ?_; clear hK K) | (apply Exists.intro; refine ⟨fun _ => ?_, hK _ ?_⟩; (first | fail); clear hK K)))
                  (refine mix_step (by kernel_rfl) (by kernel_rfl) (fun K hK => ?_); go_simp; (try (simp only [↓IntWalk.iteOmega]; go_simp)); (first | (refine hK _ ?_; clear hK K) | (apply Exists.intro; refine ⟨fun _ => ?_, hK _ ?_⟩; (first | fail); clear hK K)))
                  (refine mix_step (by kernel_rfl) (by kernel_rfl) (fun K hK => ?_); go_simp; (try (simp only [↓IntWalk.iteOmega]; go_simp)); (first | (refine hK _ ?_; clear hK K) | (apply Exists.intro; refine ⟨fun _ => ?_, hK _ ?_⟩; (first | fail); clear hK K)))
                  (refine mix_step (by kernel_rfl) (by kernel_rfl) (fun K hK => ?_); go_simp; (try (simp only [↓IntWalk.iteOmega]; go_simp)); (first | (refine hK _ ?_; clear hK K) | (apply Exists.intro; refine ⟨fun _ => ?_, hK _ ?_⟩; (first | fail); clear hK K)))
                  (refine mix_step (by kernel_rfl) (by kernel_rfl) (fun K hK => ?_); go_simp; (try (simp only [↓IntWalk.iteOmega]; go_simp)); (first | (refine hK _ ?_; clear hK K) | (apply Exists.intro; refine ⟨fun _ => ?_, hK _ ?_⟩; (first | fail); clear hK K)))
                  (refine mix_step (by kernel_rfl) (by kernel_rfl) (fun K hK => ?_); go_simp; (try (simp only [↓IntWalk.iteOmega]; go_simp)); (first | (refine hK _ ?_; clear hK K) | (apply Exists.intro; refine ⟨fun _ => ?_, hK _ ?_⟩; (first | fail); clear hK K)))
                  (refine mix_step (by kernel_rfl) (by kernel_rfl) (fun K hK => ?_); go_simp; (try (simp only [↓IntWalk.iteOmega]; go_simp)); (first | (refine hK _ ?_; clear hK K) | (apply Exists.intro; refine ⟨fun _ => ?_, hK _ ?_⟩; (first | fail); clear hK K)))
                  (refine mix_step (by kernel_rfl) (by kernel_rfl) (fun K hK => ?_); go_simp; (try (simp only [↓IntWalk.iteOmega]; go_simp)); (first | (refine hK _ ?_; clear hK K) | (apply Exists.intro; refine ⟨fun _ => ?_, hK _ ?_⟩; (first | fail); clear hK K)))
                  (refine mix_step (by kernel_rfl) (by kernel_rfl) (fun K hK => ?_); go_simp; (try (simp only [↓IntWalk.iteOmega]; go_simp)); (first | (refine hK _ ?_; clear hK K) | (apply Exists.intro; refine ⟨fun _ => ?_, hK _ ?_⟩; (first | fail); clear hK K)))
                  (refine mix_step (by kernel_rfl) (by kernel_rfl) (fun K hK => ?_); go_simp; (try (simp only [↓IntWalk.iteOmega]; go_simp)); (first | (refine hK _ ?_; clear hK K) | (apply Exists.intro; refine ⟨fun _ => ?_, hK _ ?_⟩; (first | fail); clear hK K)))
                  (refine mix_step (by kernel_rfl) (by kernel_rfl) (fun K hK => ?_); go_simp; (try (simp only [↓IntWalk.iteOmega]; go_simp)); (first | (refine hK _ ?_; clear hK K) | (apply Exists.intro; refine ⟨fun _ => ?_, hK _ ?_⟩; (first | fail); clear hK K)))
                  (refine mix_step (by kernel_rfl) (by kernel_rfl) (fun K hK => ?_); go_simp; (try (simp only [↓IntWalk.iteOmega]; go_simp)); (first | (refine hK _ ?_; clear hK K) | (apply Exists.intro; refine ⟨fun _ => ?_, hK _ ?_⟩; (first | fail); clear hK K)))
                  (refine mix_step (by kernel_rfl) (by kernel_rfl) (fun K hK => ?_); go_simp; (try (simp only [↓IntWalk.iteOmega]; go_simp)); (first | (refine hK _ ?_; clear hK K) | (apply Exists.intro; refine ⟨fun _ => ?_, hK _ ?_⟩; (first | fail); clear hK K)))
                  (refine mix_step (by kernel_rfl) (by kernel_rfl) (fun K hK => ?_); go_simp; (try (simp only [↓IntWalk.iteOmega]; go_simp)); (first | (refine hK _ ?_; clear hK K) | (apply Exists.intro; refine ⟨fun _ => ?_, hK _ ?_⟩; (first | fail); clear hK K)))
                  (refine mix_step (by kernel_rfl) (by kernel_rfl) (fun K hK => ?_); go_simp; (try (simp only [↓IntWalk.iteOmega]; go_simp)); (first | (refine hK _ ?_; clear hK K) | (apply Exists.intro; refine ⟨fun _ => ?_, hK _ ?_⟩; (first | fail); clear hK K)))
                  refine mix_exact (.agg #[.int .u8 ((io.f 0).toNat : Int), .int .u8 ((io.f 1).toNat : Int), .int .u8 ((io.f 2).toNat : Int), .int .u8 ((io.f 3).toNat : Int), .int .u8 ((io.f 4).toNat : Int), .int .u8 ((io.f 5).toNat : Int), .int .u8 ((io.f 6).toNat : Int), .int .u8 ((io.f 7).toNat : Int)]) rfl (exact_load_range (sub := Id8.vals io) rfl rfl (by simp) HRG.out hbl Try.underlying44 rfl (by kernel_rfl)) ?_
                  (refine mix_step (by kernel_rfl) (by kernel_rfl) (fun K hK => ?_); go_simp; (try (simp only [↓IntWalk.iteOmega]; go_simp)); (first | (refine hK _ ?_; clear hK K) | (apply Exists.intro; refine ⟨fun _ => ?_, hK _ ?_⟩; (first | fail); clear hK K)))
                  (refine mix_step (by kernel_rfl) (by kernel_rfl) (fun K hK => ?_); go_simp; (try (simp only [↓IntWalk.iteOmega]; go_simp)); (first | (refine hK _ ?_; clear hK K) | (apply Exists.intro; refine ⟨fun _ => ?_, hK _ ?_⟩; (first | fail); clear hK K)))
                  (refine mix_step (by kernel_rfl) (by kernel_rfl) (fun K hK => ?_); go_simp; (try (simp only [↓IntWalk.iteOmega]; go_simp)); (first | (refine hK _ ?_; clear hK K) | (apply Exists.intro; refine ⟨fun _ => ?_, hK _ ?_⟩; (first | fail); clear hK K)))
                  (refine mix_step (by kernel_rfl) (by kernel_rfl) (fun K hK => ?_); go_simp; (try (simp only [↓IntWalk.iteOmega]; go_simp)); (first | (refine hK _ ?_; clear hK K) | (apply Exists.intro; refine ⟨fun _ => ?_, hK _ ?_⟩; (first | fail); clear hK K)))
                  (refine mix_step (by kernel_rfl) (by kernel_rfl) (fun K hK => ?_); go_simp; (try (simp only [↓IntWalk.iteOmega]; go_simp)); (first | (refine hK _ ?_; clear hK K) | (apply Exists.intro; refine ⟨fun _ => ?_, hK _ ?_⟩; (first | fail); clear hK K)))
                  (refine mix_step (by kernel_rfl) (by kernel_rfl) (fun K hK => ?_); go_simp; (try (simp only [↓IntWalk.iteOmega]; go_simp)); (first | (refine hK _ ?_; clear hK K) | (apply Exists.intro; refine ⟨fun _ => ?_, hK _ ?_⟩; (first | fail); clear hK K)))
                  refine mix_exact (.agg #[.int .u8 0, .int .u8 0, .int .u8 0, .int .u8 0, .int .u8 0, .int .u8 0, .int .u8 0, .int .u8 0, .int .i64 (x + c), .int .u8 ((io.f 0).toNat : Int), .int .u8 ((io.f 1).toNat : Int), .int .u8 ((io.f 2).toNat : Int), .int .u8 ((io.f 3).toNat : Int), .int .u8 ((io.f 4).toNat : Int), .int .u8 ((io.f 5).toNat : Int), .int .u8 ((io.f 6).toNat : Int), .int .u8 ((io.f 7).toNat : Int), .int .i64 ((qq : Int) + 1)]) rfl (exact_build3 rfl (.int .i64 (x + c)) (.agg #[.int .u8 ((io.f 0).toNat : Int), .int .u8 ((io.f 1).toNat : Int), .int .u8 ((io.f 2).toNat : Int), .int .u8 ((io.f 3).toNat : Int), .int .u8 ((io.f 4).toNat : Int), .int .u8 ((io.f 5).toNat : Int), .int .u8 ((io.f 6).toNat : Int), .int .u8 ((io.f 7).toNat : Int)]) (.int .i64 ((qq : Int) + 1)) _ rfl rfl rfl (by simp) (by simp) (by simp) (run_build_rv _ _ _)) ?_
                  refine mix_special (NewAt wr.heap.size 81 #[.int .u8 0, .int .u8 0, .int .u8 0, .int .u8 0, .int .u8 0, .int .u8 0, .int .u8 0, .int .u8 0, .int .i64 0, .int .u8 0, .int .u8 0, .int .u8 0, .int .u8 0, .int .u8 0, .int .u8 0, .int .u8 0, .int .u8 0, .int .i64 0]) 14 rfl rfl (stable_new _ _ _) (owes_alloc (cs := #[.int .u8 0, .int .u8 0, .int .u8 0, .int .u8 0, .int .u8 0, .int .u8 0, .int .u8 0, .int .u8 0, .int .i64 0, .int .u8 0, .int .u8 0, .int .u8 0, .int .u8 0, .int .u8 0, .int .u8 0, .int .u8 0, .int .u8 0, .int .i64 0]) rfl (by kernel_rfl)) ?_
                  refine mix_nil ?_
                  rintro ⟨dq, osq⟩
                  have hb5 := below_regrown wr dq osq
                  rintro u14 ⟨g14, rfl, hB14, hR14⟩
                  have R14 := Lib.hid hR14
                  replace RL := Lib.hid (RL.out.kept hb5)
                  replace HBS := Lib.hid (HBS.out.kept hb5)
                  replace hbr := hbr.trans (hb5.mono hgw)
                  have hne : BB ≠ g14 := by have := hgw2; omega
                  have hnl : lb ≠ g14 := by have := hlw; omega
                  clear hR14 hb5 f0 f1 f2 f3 f4 f5 hbl HRG R0' HN' HID HCI
                  refine (show wpList _ _ _ _ _ _ from ?_)
                  simp only [List.drop, Act.put, List.setIfInBounds_toArray, List.set]
                  generalize grow (redrawn wr dq) osq = w5 at *
                  go_wp2_with ((with_reducible refine at_store 81 (.tmp 14) (.tmp 96) ?_); refine wpList_store_own rfl 81 (.tmp 14) (.tmp 96) rfl g14 _ rfl rfl _ _ R14.out (by kernel_rfl) rfl (by simp [Value.oneCell']) BB (by omega) ?_)
                  intro w6 hR6 ho6 hs6 hb6
                  have R14 : Hid (RowIs w6 g14 81 #[.int .u8 0, .int .u8 0, .int .u8 0, .int .u8 0, .int .u8 0, .int .u8 0, .int .u8 0, .int .u8 0, .int .i64 (x + c), .int .u8 ((io.f 0).toNat : Int), .int .u8 ((io.f 1).toNat : Int), .int .u8 ((io.f 2).toNat : Int), .int .u8 ((io.f 3).toNat : Int), .int .u8 ((io.f 4).toNat : Int), .int .u8 ((io.f 5).toNat : Int), .int .u8 ((io.f 6).toNat : Int), .int .u8 ((io.f 7).toNat : Int), .int .i64 ((qq : Int) + 1)]) := hR6
                  replace RL := Lib.hid (rowIs_same RL.out (ho6 _ hnl))
                  replace HBS := Lib.hid (rowIs_same HBS.out (ho6 _ hne))
                  replace hbr := hbr.trans hb6
                  clear hR6 ho6 hs6 hb6
                  have hgw6 : BB < w6.heap.size := HBS.out.lt
                  by_cases hneg : st.1 < 0
                  · rw [if_pos (.inl hneg)] at HSQ
                    have d0 : decide (st.1 < 0) = true := decide_eq_true hneg
                    go_wp2_with (first
                      | ((with_reducible refine at_load 81 (.tmp 14) ?_); refine wpList_load_own rfl 81 (.tmp 14) rfl g14 rfl _ _ _ R14.out Try.underlying81 rfl (by kernel_rfl) ?_)
                      | ((with_reducible refine at_store 81 (.tmp 8) (.tmp 105) ?_); refine wpList_store_own rfl 81 (.tmp 8) (.tmp 105) rfl BB _ rfl rfl _ _ HBS.out (by kernel_rfl) rfl (by simp [Value.oneCell']) BB (Nat.le_refl _) ?_))
                    intro w8 hR8 ho8 hs8 hb8
                    replace RL := Lib.hid (rowIs_same RL.out (ho8 _ hlB))
                    replace hbr := hbr.trans hb8
                    have HB8 := Lib.hid hR8
                    clear hR8 ho8 hs8 hb8 HBS R14
                    go_wp2_with fail
                    exact ⟨⟨0 + 1, by omega, by go_num, by rw [HST.out, HSQ.out], by rw [HST.out, HSQ.out]; exact HB8, RL, hbr⟩, by simp [intOf]⟩
                  · have d0 : decide (st.1 < 0) = false := decide_eq_false hneg
                    have HCB := Lib.hid (refBetter_any (⟨.zero, x + c, io, (qq : Int) + 1⟩ : SV) st.2 w6)
                    generalize hbt : (⟨.zero, x + c, io, (qq : Int) + 1⟩ : SV).better st.2 = bt at *
                    clear hbt
                    cases bt
                    · rw [if_neg (fun hh => hh.elim hneg (fun h => by cases h))] at HSQ
                      go_wp2_with (first
                        | ((with_reducible refine at_load 81 (.tmp 14) ?_); refine wpList_load_own rfl 81 (.tmp 14) rfl g14 rfl _ _ _ R14.out Try.underlying81 rfl (by kernel_rfl) ?_)
                        | ((with_reducible refine at_load 81 (.tmp 8) ?_); refine wpList_load_own rfl 81 (.tmp 8) rfl BB rfl _ _ _ HBS.out Try.underlying81 rfl (by kernel_rfl) ?_))
                      refine HCB.out.mono ?_
                      rintro e w7 ⟨rfl, hbk⟩
                      replace RL := Lib.hid (RL.out.kept hbk)
                      replace HBS := Lib.hid (HBS.out.kept hbk)
                      replace R14 := Lib.hid (R14.out.kept hbk)
                      replace hbr := hbr.trans (hbk.mono (Nat.le_of_lt hgw6))
                      clear hbk HCB
                      go_wp2_with fail
                      exact ⟨⟨0 + 1, by omega, by go_num, by rw [HST.out, HSQ.out], by rw [HST.out, HSQ.out]; exact HBS, RL, hbr⟩, by simp [intOf]⟩
                    · rw [if_pos (.inr rfl)] at HSQ
                      go_wp2_with (first
                        | ((with_reducible refine at_load 81 (.tmp 14) ?_); refine wpList_load_own rfl 81 (.tmp 14) rfl g14 rfl _ _ _ R14.out Try.underlying81 rfl (by kernel_rfl) ?_)
                        | ((with_reducible refine at_load 81 (.tmp 8) ?_); refine wpList_load_own rfl 81 (.tmp 8) rfl BB rfl _ _ _ HBS.out Try.underlying81 rfl (by kernel_rfl) ?_))
                      refine HCB.out.mono ?_
                      rintro e w7 ⟨rfl, hbk⟩
                      replace RL := Lib.hid (RL.out.kept hbk)
                      replace HBS := Lib.hid (HBS.out.kept hbk)
                      replace R14 := Lib.hid (R14.out.kept hbk)
                      replace hbr := hbr.trans (hbk.mono (Nat.le_of_lt hgw6))
                      clear hbk HCB
                      go_wp2_with (first
                        | ((with_reducible refine at_load 81 (.tmp 14) ?_); refine wpList_load_own rfl 81 (.tmp 14) rfl g14 rfl _ _ _ R14.out Try.underlying81 rfl (by kernel_rfl) ?_)
                        | ((with_reducible refine at_store 81 (.tmp 8) (.tmp 105) ?_); refine wpList_store_own rfl 81 (.tmp 8) (.tmp 105) rfl BB _ rfl rfl _ _ HBS.out (by kernel_rfl) rfl (by simp [Value.oneCell']) BB (Nat.le_refl _) ?_))
                      intro w8 hR8 ho8 hs8 hb8
                      replace RL := Lib.hid (rowIs_same RL.out (ho8 _ hlB))
                      replace hbr := hbr.trans hb8
                      have HB8 := Lib.hid hR8
                      clear hR8 ho8 hs8 hb8 HBS R14
                      go_wp2_with fail
                      exact ⟨⟨0 + 1, by omega, by go_num, by rw [HST.out, HSQ.out], by rw [HST.out, HSQ.out]; exact HB8, RL, hbr⟩, by simp [intOf]⟩
            · as_aux_lemma =>
              have HD : Hid (portIn N D b pp s0 (2 * m + (1 + 1)) = stQf N D b pp (portIn N D b pp s0 (2 * m + 1)) ⟨i, p, j, qq⟩) := HD2
              have hxo0 : (0 : Int) ≤ (j : Int) := by omega
              have k0 : wr.cell? ⟨lb, 0, none⟩ = some (.int .i64 i) := RL.out.cell 0
              have k1 : wr.cell? ⟨lb, 1, none⟩ = some (.int .i64 p) := RL.out.cell 1
              have k2 : wr.cell? ⟨lb, 2, none⟩ = some (.int .i64 j) := RL.out.cell 2
              have k3 : wr.cell? ⟨lb, 3, none⟩ = some (.int .i64 qq) := RL.out.cell 3
              have hw0 : IntKind.i64.wrap 0 = 0 := rfl
              have hw1 : IntKind.i64.wrap 1 = 1 := rfl
              have hw2 : IntKind.i64.wrap 2 = 2 := rfl
              have hw3 : IntKind.i64.wrap 3 = 3 := rfl
              by_cases hm1 : j = b
              case neg =>
                have HSE : Hid (portIn N D b pp s0 (2 * m + (1 + 1)) = portIn N D b pp s0 (2 * m + 1)) := by
                  show _ = _
                  have h := HD.out
                  rw [show stQf N D b pp (portIn N D b pp s0 (2 * m + 1)) ⟨i, p, j, qq⟩ = portIn N D b pp s0 (2 * m + 1) from if_neg (fun x => hm1 (by have : ((j : Nat) : Int) = (b : Int) := x.1; omega))] at h
                  exact h
                have e1 : (((j : Nat) : Int) == (b : Int)) = false := by rw [beq_eq_false_iff_ne]; omega
                go_wp2_with fail
                exact ⟨⟨1 + 1, by omega, by go_num, (congrArg (fun s => Value.int .i64 (Prod.fst s)) HSE.out).symm, by rw [HSE.out]; exact HBS, RL, hbr⟩, by simp [intOf]⟩
              case pos =>
                have hm1' : b = j := hm1.symm
                subst hm1'
                clear hm1
                by_cases hm2 : qq = pp
                case neg =>
                  have HSE : Hid (portIn N D b pp s0 (2 * m + (1 + 1)) = portIn N D b pp s0 (2 * m + 1)) := by
                    show _ = _
                    have h := HD.out
                    rw [show stQf N D b pp (portIn N D b pp s0 (2 * m + 1)) ⟨i, p, b, qq⟩ = portIn N D b pp s0 (2 * m + 1) from if_neg (fun x => hm2 (by have : ((qq : Nat) : Int) = (pp : Int) := x.2; omega))] at h
                    exact h
                  have e2 : (((qq : Nat) : Int) == (pp : Int)) = false := by rw [beq_eq_false_iff_ne]; omega
                  clear hm2
                  go_wp2_with fail
                  exact ⟨⟨1 + 1, by omega, by go_num, (congrArg (fun s => Value.int .i64 (Prod.fst s)) HSE.out).symm, by rw [HSE.out]; exact HBS, RL, hbr⟩, by simp [intOf]⟩
                case pos =>
                  have hm2' : pp = qq := hm2.symm
                  subst hm2'
                  clear hm2
                  have HST : Hid (portIn N D b pp s0 (2 * m + (1 + 1)) = stQ N D (portIn N D b pp s0 (2 * m + 1)) ⟨i, p, b, pp⟩) := by
                    show _ = _
                    have h := HD.out
                    rw [show stQf N D b pp (portIn N D b pp s0 (2 * m + 1)) ⟨i, p, b, pp⟩ = stQ N D (portIn N D b pp s0 (2 * m + 1)) ⟨i, p, b, pp⟩ from if_pos ⟨rfl, rfl⟩] at h
                    exact h
                  have HQD : Hid ((⟨i, p, b, pp⟩ : Lk).q = (pp : Int)) := rfl
                  have HV : Hid (hear0 N D ⟨i, p, b, pp⟩ = ⟨.zero, D.getD i 0 + (N.cs b).getD pp 0, N.id i, (p : Int) + 1⟩) := rfl
                  have hcb := hcstj
                  have hob := hppb
                  clear hcsti hcstj hppb hpqqb
                  go_upto_region 18 with fail
                  clear k0 k1 k2 k3
                  have hdb := HBD.out i hi
                  obtain ⟨db, doff, ed, hdc⟩ := ints_cell HID.out (show i < D.length by rw [HDL.out]; exact hi)
                  subst ed
                  obtain ⟨ib, ioff, eai, hbl, hrg⟩ := HN'.out.idr hi
                  have HRG := Lib.hid hrg
                  obtain ⟨b2, off2, e2, hcq⟩ := ints_cell HCI.out hppl
                  subst e2
                  have f0 := cell_regrown (show wr.cell? ⟨w.heap.size, 0, none⟩ = some (.slice (some ⟨ib, ioff, none⟩) N.ids.length v.ci) by rw [← eai]; exact R0'.out.cell 0)
                  have f1 := cell_regrown c1
                  have f2 := cell_regrown hcel
                  have f3 := cell_regrown hdc
                  have f4 := cell_regrown hcq
                  have f5 := cell_regrown (show wr.cell? ⟨lb, 1, none⟩ = some (.int .i64 p) from RL.out.cell 1)
                  have hxo1 : (0 : Int) ≤ (i : Int) := by omega
                  have hxo2 : (i : Int) < (N.ids.length : Int) := by omega
                  have hxo3 : (0 : Int) ≤ (pp : Int) := by omega
                  have hxo4 : (pp : Int) < ((N.cs b).length : Int) := by omega
                  have hwa : IntKind.i64.wrap (D.getD i 0 + (N.cs b).getD pp 0) = D.getD i 0 + (N.cs b).getD pp 0 := by rw [IntKind.wrap_i64]; omega
                  have hwb : IntKind.i64.wrap ((p : Int) + 1) = (p : Int) + 1 := by rw [IntKind.wrap_i64]; omega
                  have HSQ : Hid (stQ N D (portIn N D b pp s0 (2 * m + 1)) ⟨i, p, b, pp⟩ = if (portIn N D b pp s0 (2 * m + 1)).1 < 0 ∨ (hear0 N D ⟨i, p, b, pp⟩).better (portIn N D b pp s0 (2 * m + 1)).2 = true then ((pp : Int), hear0 N D ⟨i, p, b, pp⟩) else portIn N D b pp s0 (2 * m + 1)) := by
                    show _ = _
                    unfold stQ
                    rw [HQD.out]
                  rw [HV.out] at HSQ
                  generalize hst2 : stQ N D (portIn N D b pp s0 (2 * m + 1)) ⟨i, p, b, pp⟩ = st2 at *
                  clear hst2
                  generalize portIn N D b pp s0 (2 * m + 1) = st at *
                  replace HBS : Hid (RowIs wr BB 81 #[.int .u8 ((st.2.r.f 0).toNat : Int), .int .u8 ((st.2.r.f 1).toNat : Int), .int .u8 ((st.2.r.f 2).toNat : Int), .int .u8 ((st.2.r.f 3).toNat : Int), .int .u8 ((st.2.r.f 4).toNat : Int), .int .u8 ((st.2.r.f 5).toNat : Int), .int .u8 ((st.2.r.f 6).toNat : Int), .int .u8 ((st.2.r.f 7).toNat : Int), .int .i64 st.2.c, .int .u8 ((st.2.b.f 0).toNat : Int), .int .u8 ((st.2.b.f 1).toNat : Int), .int .u8 ((st.2.b.f 2).toNat : Int), .int .u8 ((st.2.b.f 3).toNat : Int), .int .u8 ((st.2.b.f 4).toNat : Int), .int .u8 ((st.2.b.f 5).toNat : Int), .int .u8 ((st.2.b.f 6).toNat : Int), .int .u8 ((st.2.b.f 7).toNat : Int), .int .i64 st.2.p]) := HBS
                  generalize D.getD i 0 = x at *
                  generalize (N.cs b).getD pp 0 = c at *
                  generalize N.id i = io at *
                  clear eai hrg HD HV HQD hcb hob hdb c1 hcel hdc hcq
                  refine wp_region_mix 26 (by kernel_rfl) (by kernel_rfl) (by kernel_rfl) ?_
                  (refine mix_step (by kernel_rfl) (by kernel_rfl) (fun K hK => ?_); go_simp; (try (simp only [↓IntWalk.iteOmega]; go_simp)); (first | (refine hK _ ?_; clear hK K) | (apply Exists.intro; refine ⟨fun _ => ?_, hK _ ?_⟩; (first | fail); clear hK K)))
                  (refine mix_step (by kernel_rfl) (by kernel_rfl) (fun K hK => ?_); go_simp; (try (simp only [↓IntWalk.iteOmega]; go_simp)); (first | (refine hK _ ?_; clear hK K) | (apply Exists.intro; refine ⟨fun _ => ?_, hK _ ?_⟩; (first | fail); clear hK K)))
                  (refine mix_step (by kernel_rfl) (by kernel_rfl) (fun K hK => ?_); go_simp; (try (simp only [↓IntWalk.iteOmega]; go_simp)); (first | (refine hK _ ?_; clear hK K) | (apply Exists.intro; refine ⟨fun _ => ?_, hK _ ?_⟩; (first | fail); clear hK K)))
                  (refine mix_step (by kernel_rfl) (by kernel_rfl) (fun K hK => ?_); go_simp; (try (simp only [↓IntWalk.iteOmega]; go_simp)); (first | (refine hK _ ?_; clear hK K) | (apply Exists.intro; refine ⟨fun _ => ?_, hK _ ?_⟩; (first | fail); clear hK K)))
                  (refine mix_step (by kernel_rfl) (by kernel_rfl) (fun K hK => ?_); go_simp; (try (simp only [↓IntWalk.iteOmega]; go_simp)); (first | (refine hK _ ?_; clear hK K) | (apply Exists.intro; refine ⟨fun _ => ?_, hK _ ?_⟩; (first | fail); clear hK K)))
                  (refine mix_step (by kernel_rfl) (by kernel_rfl) (fun K hK => ?_); go_simp; (try (simp only [↓IntWalk.iteOmega]; go_simp)); (first | (refine hK _ ?_; clear hK K) | (apply Exists.intro; refine ⟨fun _ => ?_, hK _ ?_⟩; (first | fail); clear hK K)))
                  (refine mix_step (by kernel_rfl) (by kernel_rfl) (fun K hK => ?_); go_simp; (try (simp only [↓IntWalk.iteOmega]; go_simp)); (first | (refine hK _ ?_; clear hK K) | (apply Exists.intro; refine ⟨fun _ => ?_, hK _ ?_⟩; (first | fail); clear hK K)))
                  (refine mix_step (by kernel_rfl) (by kernel_rfl) (fun K hK => ?_); go_simp; (try (simp only [↓IntWalk.iteOmega]; go_simp)); (first | (refine hK _ ?_; clear hK K) | (apply Exists.intro; refine ⟨fun _ => ?_, hK _ ?_⟩; (first | fail); clear hK K)))
                  (refine mix_step (by kernel_rfl) (by kernel_rfl) (fun K hK => ?_); go_simp; (try (simp only [↓IntWalk.iteOmega]; go_simp)); (first | (refine hK _ ?_; clear hK K) | (apply Exists.intro; refine ⟨fun _ => ?_, hK _ ?_⟩; (first | fail); clear hK K)))
                  (refine mix_step (by kernel_rfl) (by kernel_rfl) (fun K hK => ?_); go_simp; (try (simp only [↓IntWalk.iteOmega]; go_simp)); (first | (refine hK _ ?_; clear hK K) | (apply Exists.intro; refine ⟨fun _ => ?_, hK _ ?_⟩; (first | fail); clear hK K)))
                  (refine mix_step (by kernel_rfl) (by kernel_rfl) (fun K hK => ?_); go_simp; (try (simp only [↓IntWalk.iteOmega]; go_simp)); (first | (refine hK _ ?_; clear hK K) | (apply Exists.intro; refine ⟨fun _ => ?_, hK _ ?_⟩; (first | fail); clear hK K)))
                  (refine mix_step (by kernel_rfl) (by kernel_rfl) (fun K hK => ?_); go_simp; (try (simp only [↓IntWalk.iteOmega]; go_simp)); (first | (refine hK _ ?_; clear hK K) | (apply Exists.intro; refine ⟨fun _ => ?_, hK _ ?_⟩; (first | fail); clear hK K)))
                  (refine mix_step (by kernel_rfl) (by kernel_rfl) (fun K hK => ?_); go_simp; (try (simp only [↓IntWalk.iteOmega]; go_simp)); (first | (refine hK _ ?_; clear hK K) | (apply Exists.intro; refine ⟨fun _ => ?_, hK _ ?_⟩; (first | fail); clear hK K)))
                  (refine mix_step (by kernel_rfl) (by kernel_rfl) (fun K hK => ?_); go_simp; (try (simp only [↓IntWalk.iteOmega]; go_simp)); (first | (refine hK _ ?_; clear hK K) | (apply Exists.intro; refine ⟨fun _ => ?_, hK _ ?_⟩; (first | fail); clear hK K)))
                  (refine mix_step (by kernel_rfl) (by kernel_rfl) (fun K hK => ?_); go_simp; (try (simp only [↓IntWalk.iteOmega]; go_simp)); (first | (refine hK _ ?_; clear hK K) | (apply Exists.intro; refine ⟨fun _ => ?_, hK _ ?_⟩; (first | fail); clear hK K)))
                  (refine mix_step (by kernel_rfl) (by kernel_rfl) (fun K hK => ?_); go_simp; (try (simp only [↓IntWalk.iteOmega]; go_simp)); (first | (refine hK _ ?_; clear hK K) | (apply Exists.intro; refine ⟨fun _ => ?_, hK _ ?_⟩; (first | fail); clear hK K)))
                  (refine mix_step (by kernel_rfl) (by kernel_rfl) (fun K hK => ?_); go_simp; (try (simp only [↓IntWalk.iteOmega]; go_simp)); (first | (refine hK _ ?_; clear hK K) | (apply Exists.intro; refine ⟨fun _ => ?_, hK _ ?_⟩; (first | fail); clear hK K)))
                  refine mix_exact (.agg #[.int .u8 ((io.f 0).toNat : Int), .int .u8 ((io.f 1).toNat : Int), .int .u8 ((io.f 2).toNat : Int), .int .u8 ((io.f 3).toNat : Int), .int .u8 ((io.f 4).toNat : Int), .int .u8 ((io.f 5).toNat : Int), .int .u8 ((io.f 6).toNat : Int), .int .u8 ((io.f 7).toNat : Int)]) rfl (exact_load_range (sub := Id8.vals io) rfl rfl (by simp) HRG.out hbl Try.underlying44 rfl (by kernel_rfl)) ?_
                  (refine mix_step (by kernel_rfl) (by kernel_rfl) (fun K hK => ?_); go_simp; (try (simp only [↓IntWalk.iteOmega]; go_simp)); (first | (refine hK _ ?_; clear hK K) | (apply Exists.intro; refine ⟨fun _ => ?_, hK _ ?_⟩; (first | fail); clear hK K)))
                  (refine mix_step (by kernel_rfl) (by kernel_rfl) (fun K hK => ?_); go_simp; (try (simp only [↓IntWalk.iteOmega]; go_simp)); (first | (refine hK _ ?_; clear hK K) | (apply Exists.intro; refine ⟨fun _ => ?_, hK _ ?_⟩; (first | fail); clear hK K)))
                  (refine mix_step (by kernel_rfl) (by kernel_rfl) (fun K hK => ?_); go_simp; (try (simp only [↓IntWalk.iteOmega]; go_simp)); (first | (refine hK _ ?_; clear hK K) | (apply Exists.intro; refine ⟨fun _ => ?_, hK _ ?_⟩; (first | fail); clear hK K)))
                  (refine mix_step (by kernel_rfl) (by kernel_rfl) (fun K hK => ?_); go_simp; (try (simp only [↓IntWalk.iteOmega]; go_simp)); (first | (refine hK _ ?_; clear hK K) | (apply Exists.intro; refine ⟨fun _ => ?_, hK _ ?_⟩; (first | fail); clear hK K)))
                  (refine mix_step (by kernel_rfl) (by kernel_rfl) (fun K hK => ?_); go_simp; (try (simp only [↓IntWalk.iteOmega]; go_simp)); (first | (refine hK _ ?_; clear hK K) | (apply Exists.intro; refine ⟨fun _ => ?_, hK _ ?_⟩; (first | fail); clear hK K)))
                  (refine mix_step (by kernel_rfl) (by kernel_rfl) (fun K hK => ?_); go_simp; (try (simp only [↓IntWalk.iteOmega]; go_simp)); (first | (refine hK _ ?_; clear hK K) | (apply Exists.intro; refine ⟨fun _ => ?_, hK _ ?_⟩; (first | fail); clear hK K)))
                  refine mix_exact (.agg #[.int .u8 0, .int .u8 0, .int .u8 0, .int .u8 0, .int .u8 0, .int .u8 0, .int .u8 0, .int .u8 0, .int .i64 (x + c), .int .u8 ((io.f 0).toNat : Int), .int .u8 ((io.f 1).toNat : Int), .int .u8 ((io.f 2).toNat : Int), .int .u8 ((io.f 3).toNat : Int), .int .u8 ((io.f 4).toNat : Int), .int .u8 ((io.f 5).toNat : Int), .int .u8 ((io.f 6).toNat : Int), .int .u8 ((io.f 7).toNat : Int), .int .i64 ((p : Int) + 1)]) rfl (exact_build3 rfl (.int .i64 (x + c)) (.agg #[.int .u8 ((io.f 0).toNat : Int), .int .u8 ((io.f 1).toNat : Int), .int .u8 ((io.f 2).toNat : Int), .int .u8 ((io.f 3).toNat : Int), .int .u8 ((io.f 4).toNat : Int), .int .u8 ((io.f 5).toNat : Int), .int .u8 ((io.f 6).toNat : Int), .int .u8 ((io.f 7).toNat : Int)]) (.int .i64 ((p : Int) + 1)) _ rfl rfl rfl (by simp) (by simp) (by simp) (run_build_rv _ _ _)) ?_
                  refine mix_special (NewAt wr.heap.size 81 #[.int .u8 0, .int .u8 0, .int .u8 0, .int .u8 0, .int .u8 0, .int .u8 0, .int .u8 0, .int .u8 0, .int .i64 0, .int .u8 0, .int .u8 0, .int .u8 0, .int .u8 0, .int .u8 0, .int .u8 0, .int .u8 0, .int .u8 0, .int .i64 0]) 14 rfl rfl (stable_new _ _ _) (owes_alloc (cs := #[.int .u8 0, .int .u8 0, .int .u8 0, .int .u8 0, .int .u8 0, .int .u8 0, .int .u8 0, .int .u8 0, .int .i64 0, .int .u8 0, .int .u8 0, .int .u8 0, .int .u8 0, .int .u8 0, .int .u8 0, .int .u8 0, .int .u8 0, .int .i64 0]) rfl (by kernel_rfl)) ?_
                  refine mix_nil ?_
                  rintro ⟨dq, osq⟩
                  have hb5 := below_regrown wr dq osq
                  rintro u14 ⟨g14, rfl, hB14, hR14⟩
                  have R14 := Lib.hid hR14
                  replace RL := Lib.hid (RL.out.kept hb5)
                  replace HBS := Lib.hid (HBS.out.kept hb5)
                  replace hbr := hbr.trans (hb5.mono hgw)
                  have hne : BB ≠ g14 := by have := hgw2; omega
                  have hnl : lb ≠ g14 := by have := hlw; omega
                  clear hR14 hb5 f0 f1 f2 f3 f4 f5 hbl HRG R0' HN' HID HCI
                  refine (show wpList _ _ _ _ _ _ from ?_)
                  simp only [List.drop, Act.put, List.setIfInBounds_toArray, List.set]
                  generalize grow (redrawn wr dq) osq = w5 at *
                  go_wp2_with ((with_reducible refine at_store 81 (.tmp 14) (.tmp 96) ?_); refine wpList_store_own rfl 81 (.tmp 14) (.tmp 96) rfl g14 _ rfl rfl _ _ R14.out (by kernel_rfl) rfl (by simp [Value.oneCell']) BB (by omega) ?_)
                  intro w6 hR6 ho6 hs6 hb6
                  have R14 : Hid (RowIs w6 g14 81 #[.int .u8 0, .int .u8 0, .int .u8 0, .int .u8 0, .int .u8 0, .int .u8 0, .int .u8 0, .int .u8 0, .int .i64 (x + c), .int .u8 ((io.f 0).toNat : Int), .int .u8 ((io.f 1).toNat : Int), .int .u8 ((io.f 2).toNat : Int), .int .u8 ((io.f 3).toNat : Int), .int .u8 ((io.f 4).toNat : Int), .int .u8 ((io.f 5).toNat : Int), .int .u8 ((io.f 6).toNat : Int), .int .u8 ((io.f 7).toNat : Int), .int .i64 ((p : Int) + 1)]) := hR6
                  replace RL := Lib.hid (rowIs_same RL.out (ho6 _ hnl))
                  replace HBS := Lib.hid (rowIs_same HBS.out (ho6 _ hne))
                  replace hbr := hbr.trans hb6
                  clear hR6 ho6 hs6 hb6
                  have hgw6 : BB < w6.heap.size := HBS.out.lt
                  by_cases hneg : st.1 < 0
                  · rw [if_pos (.inl hneg)] at HSQ
                    have d0 : decide (st.1 < 0) = true := decide_eq_true hneg
                    go_wp2_with (first
                      | ((with_reducible refine at_load 81 (.tmp 14) ?_); refine wpList_load_own rfl 81 (.tmp 14) rfl g14 rfl _ _ _ R14.out Try.underlying81 rfl (by kernel_rfl) ?_)
                      | ((with_reducible refine at_store 81 (.tmp 8) (.tmp 105) ?_); refine wpList_store_own rfl 81 (.tmp 8) (.tmp 105) rfl BB _ rfl rfl _ _ HBS.out (by kernel_rfl) rfl (by simp [Value.oneCell']) BB (Nat.le_refl _) ?_))
                    intro w8 hR8 ho8 hs8 hb8
                    replace RL := Lib.hid (rowIs_same RL.out (ho8 _ hlB))
                    replace hbr := hbr.trans hb8
                    have HB8 := Lib.hid hR8
                    clear hR8 ho8 hs8 hb8 HBS R14
                    go_wp2_with fail
                    exact ⟨⟨1 + 1, by omega, by go_num, by rw [HST.out, HSQ.out], by rw [HST.out, HSQ.out]; exact HB8, RL, hbr⟩, by simp [intOf]⟩
                  · have d0 : decide (st.1 < 0) = false := decide_eq_false hneg
                    have HCB := Lib.hid (refBetter_any (⟨.zero, x + c, io, (p : Int) + 1⟩ : SV) st.2 w6)
                    generalize hbt : (⟨.zero, x + c, io, (p : Int) + 1⟩ : SV).better st.2 = bt at *
                    clear hbt
                    cases bt
                    · rw [if_neg (fun hh => hh.elim hneg (fun h => by cases h))] at HSQ
                      go_wp2_with (first
                        | ((with_reducible refine at_load 81 (.tmp 14) ?_); refine wpList_load_own rfl 81 (.tmp 14) rfl g14 rfl _ _ _ R14.out Try.underlying81 rfl (by kernel_rfl) ?_)
                        | ((with_reducible refine at_load 81 (.tmp 8) ?_); refine wpList_load_own rfl 81 (.tmp 8) rfl BB rfl _ _ _ HBS.out Try.underlying81 rfl (by kernel_rfl) ?_))
                      refine HCB.out.mono ?_
                      rintro e w7 ⟨rfl, hbk⟩
                      replace RL := Lib.hid (RL.out.kept hbk)
                      replace HBS := Lib.hid (HBS.out.kept hbk)
                      replace R14 := Lib.hid (R14.out.kept hbk)
                      replace hbr := hbr.trans (hbk.mono (Nat.le_of_lt hgw6))
                      clear hbk HCB
                      go_wp2_with fail
                      exact ⟨⟨1 + 1, by omega, by go_num, by rw [HST.out, HSQ.out], by rw [HST.out, HSQ.out]; exact HBS, RL, hbr⟩, by simp [intOf]⟩
                    · rw [if_pos (.inr rfl)] at HSQ
                      go_wp2_with (first
                        | ((with_reducible refine at_load 81 (.tmp 14) ?_); refine wpList_load_own rfl 81 (.tmp 14) rfl g14 rfl _ _ _ R14.out Try.underlying81 rfl (by kernel_rfl) ?_)
                        | ((with_reducible refine at_load 81 (.tmp 8) ?_); refine wpList_load_own rfl 81 (.tmp 8) rfl BB rfl _ _ _ HBS.out Try.underlying81 rfl (by kernel_rfl) ?_))
                      refine HCB.out.mono ?_
                      rintro e w7 ⟨rfl, hbk⟩
                      replace RL := Lib.hid (RL.out.kept hbk)
                      replace HBS := Lib.hid (HBS.out.kept hbk)
                      replace R14 := Lib.hid (R14.out.kept hbk)
                      replace hbr := hbr.trans (hbk.mono (Nat.le_of_lt hgw6))
                      clear hbk HCB
                      go_wp2_with (first
                        | ((with_reducible refine at_load 81 (.tmp 14) ?_); refine wpList_load_own rfl 81 (.tmp 14) rfl g14 rfl _ _ _ R14.out Try.underlying81 rfl (by kernel_rfl) ?_)
                        | ((with_reducible refine at_store 81 (.tmp 8) (.tmp 105) ?_); refine wpList_store_own rfl 81 (.tmp 8) (.tmp 105) rfl BB _ rfl rfl _ _ HBS.out (by kernel_rfl) rfl (by simp [Value.oneCell']) BB (Nat.le_refl _) ?_))
                      intro w8 hR8 ho8 hs8 hb8
                      replace RL := Lib.hid (rowIs_same RL.out (ho8 _ hlB))
                      replace hbr := hbr.trans hb8
                      have HB8 := Lib.hid hR8
                      clear hR8 ho8 hs8 hb8 HBS R14
                      go_wp2_with fail
                      exact ⟨⟨1 + 1, by omega, by go_num, by rw [HST.out, HSQ.out], by rw [HST.out, HSQ.out]; exact HB8, RL, hbr⟩, by simp [intOf]⟩
            · clear c1 hcel
              go_wp2_with fail
              exact ⟨⟨m + 1, by omega, by go_num, rfl, HBS, hbr⟩, by simp [intOf]; omega⟩
        · obtain rfl : m = N.links.length := by omega
          have c2 : wr.cell? ⟨w.heap.size, 2, none⟩ = some (.slice v.al N.links.length v.cl) := R0'.out.cell 2
          go_wp2_with fail
          exact ⟨⟨pp + 1, by omega, by go_num, by rw [HSN.out], by rw [HSN.out]; exact HBS, hbr⟩, by simp [intOf]; omega⟩
    · obtain rfl : pp = (N.cs b).length := by omega
      have hbe := HEND.out wr hbr
      go_wp2_with fail
      go_ret
      exact ⟨by rw [HPI.out]; rfl, hbe⟩
end Go.Proofs.Ytcmokhpnooldgaa
