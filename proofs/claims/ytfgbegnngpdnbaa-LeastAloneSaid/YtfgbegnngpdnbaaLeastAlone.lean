/- LeastAlone: the walk. By an AI agent. -/
import Derived.Test.YtfgbegnngpdnbaaLn15
import Derived.Test.YtfgbegnngpdnbaaLnOf
namespace Go.Proofs.Ytfgbegnngpdnbaa
open Go.RowKit Go.WideShapes Go.Sort Grow

/-- the net without links, and with one link of the first bridge -/
def LN.bare (N : LN) : LN := ⟨N.ids, N.costs, []⟩
def LN.loop1 (N : LN) : LN := ⟨N.ids, N.costs, [⟨0, 1, 0, 0⟩]⟩
theorem bare_ok {N : LN} (h : N.Ok) : N.bare.Ok := ⟨h.n1, h.n16, h.len, h.nodup, h.cost, fun d hd => (by cases hd), List.nodup_nil⟩
theorem loop1_ok {N : LN} (h : N.Ok) (h2 : 2 ≤ (N.cs 0).length) : N.loop1.Ok := by
  have hl := h.len
  have h1 := h.n1
  refine ⟨h.n1, h.n16, h.len, h.nodup, h.cost, fun d hd => ?_, ?_⟩
  · have hd : d ∈ [(⟨0, 1, 0, 0⟩ : Lk), ⟨0, 0, 0, 1⟩] := hd
    have e : ∀ x : Int, 0 ≤ x → x < 2 → N.loop1.has 0 x = true := fun x h3 h4 => LN.has_iff.2 ⟨Int.le_refl _, by show (0 : Int) < N.costs.length; omega, h3, by show x < (N.cs 0).length; omega⟩
    simp only [List.mem_cons, List.not_mem_nil, or_false] at hd
    rcases hd with rfl | rfl
    · exact e 1 (by decide) (by decide)
    · exact e 0 (by decide) (by decide)
  · show ([(⟨0, 1, 0, 0⟩ : Lk), ⟨0, 0, 0, 1⟩].map Lk.fr).Nodup
    decide
theorem conn_bare {N : LN} {i j : Nat} (h : Conn N.bare i j) : j = i := by
  cases h with
  | refl => rfl
  | step _ hd => cases hd
theorem conn_loop1 {N : LN} {i j : Nat} (h : Conn N.loop1 i j) : j = i := by
  induction h with
  | refl => rfl
  | @step d h1 hd ih =>
    have hd : d ∈ [(⟨0, 1, 0, 0⟩ : Lk), ⟨0, 0, 0, 1⟩] := hd
    simp only [List.mem_cons, List.not_mem_nil, or_false] at hd
    rcases hd with rfl | rfl <;> exact ih
theorem tell_better (N : LN) (D : List Int) (i : Nat) (p q : Int) (h : p < q) : (tellV N D i p).better (tellV N D i q) = true ∧ (tellV N D i q).better (tellV N D i p) = false := by
  have h1 : (tellV N D i p).better (tellV N D i q) = true := by
    unfold SV.better
    rw [Vec.better_iff]
    unfold tellV
    simp
    omega
  exact ⟨h1, SV.better_asymm h1⟩

theorem info_arr4 : ∃ i z, Try.prog.info? 37 = some i ∧ i.zero = some z ∧ i.size = 4 ∧ i.bytes = 32 ∧ z.cells.size = 4 := by
  have h : (Try.prog.info? 37).map (fun i => (i.zero.map (·.cells.size), i.size, i.bytes)) = some (some 4, 4, 32) := by kernel_rfl
  obtain ⟨i, hi, h⟩ := Option.map_eq_some_iff.1 h
  simp only [Prod.mk.injEq] at h
  obtain ⟨z, hz, h18⟩ := Option.map_eq_some_iff.1 h.1
  exact ⟨i, z, hi, hz, h.2.1, h.2.2, h18⟩
set_option maxRecDepth 20000 in
set_option maxHeartbeats 4000000 in
theorem leastAlone_walk (v : NV) (N : LN) (w : World) (h : NetAt w v N) : Calls Try.prog 4 #[.agg #[.slice v.ai N.ids.length v.ci, .slice v.ac N.costs.length v.cc, .slice v.al N.links.length v.cl]] w fun e w' => e = .returned (.bool true) ∧ Below w.heap.size w w' := by
  have HN := Lib.hid h
  clear h
  go_enter Try.func4, Try.ntmps4
  go_upto_region 1 with fail
  generalize hW : w.alloc _ = w1
  have hbW : Below w.heap.size w w1 := by rw [← hW]; exact (Below.refl _ _).alloc (Nat.le_refl _) _
  have R0 : Hid (RowIs w1 w.heap.size 26 #[.slice v.ai N.ids.length v.ci, .slice v.ac N.costs.length v.cc, .slice v.al N.links.length v.cl]) := by subst hW; exact rowIs_new w _ _
  clear hW
  go_wp2_with fail
  refine (awake18 _).mono ?_
  rintro e w2 ⟨rfl, hb2⟩
  have R0 := Lib.hid (R0.out.kept hb2)
  have hbW := hbW.trans (hb2.mono hbW.size)
  clear hb2
  have HF := Lib.hid (few18 v N w2 (HN.out.kept hbW))
  cases hf : N.few
  · rw [LN.few1_no hf] at HF
    go_wp2_with ((with_reducible refine at_load 26 (.tmp 1) ?_); refine wpList_load_own rfl 26 (.tmp 1) rfl w.heap.size rfl _ _ _ R0.out Try.underlying26 rfl (by kernel_rfl) ?_)
    refine HF.out.mono ?_
    rintro e w3 ⟨rfl, hb3⟩
    have hbW := hbW.trans (hb3.mono hbW.size)
    clear hb3 HF R0
    go_wp2_with fail
    refine (awake18 _).mono ?_
    rintro e w4 ⟨rfl, hb4⟩
    go_wp2_with fail
    go_ret
    exact ⟨rfl, hbW.trans (hb4.mono hbW.size)⟩
  rw [LN.few1_yes hf] at HF
  have hll : N.links.length ≤ 300 := by
    unfold LN.few at hf
    simp only [Bool.and_eq_true, decide_eq_true_eq] at hf
    exact hf.2.2.1
  have hil : N.ids.length ≤ 50 := by
    unfold LN.few at hf
    simp only [Bool.and_eq_true, decide_eq_true_eq] at hf
    exact hf.1
  go_wp2_with ((with_reducible refine at_load 26 (.tmp 1) ?_); refine wpList_load_own rfl 26 (.tmp 1) rfl w.heap.size rfl _ _ _ R0.out Try.underlying26 rfl (by kernel_rfl) ?_)
  refine HF.out.mono ?_
  rintro e w3 ⟨rfl, hb3⟩
  have R0 := Lib.hid (R0.out.kept hb3)
  have hbW := hbW.trans (hb3.mono hbW.size)
  clear hb3 HF hf
  have HRR := Lib.hid (refRight18 v N w3 (HN.out.kept hbW) (by omega))
  cases hr : N.right
  · rw [hr] at HRR
    go_wp2_with ((with_reducible refine at_load 26 (.tmp 1) ?_); refine wpList_load_own rfl 26 (.tmp 1) rfl w.heap.size rfl _ _ _ R0.out Try.underlying26 rfl (by kernel_rfl) ?_)
    refine HRR.out.mono ?_
    rintro e w4 ⟨rfl, hb4⟩
    have hbW := hbW.trans (hb4.mono hbW.size)
    clear hb4 HRR R0
    go_wp2_with fail
    refine (awake18 _).mono ?_
    rintro e w5 ⟨rfl, hb5⟩
    go_wp2_with fail
    go_ret
    exact ⟨rfl, hbW.trans (hb5.mono hbW.size)⟩
  rw [hr] at HRR
  have HOK := Lib.hid (right_iff.1 hr)
  go_wp2_with ((with_reducible refine at_load 26 (.tmp 1) ?_); refine wpList_load_own rfl 26 (.tmp 1) rfl w.heap.size rfl _ _ _ R0.out Try.underlying26 rfl (by kernel_rfl) ?_)
  refine HRR.out.mono ?_
  rintro e w4 ⟨rfl, hb4⟩
  have R0 := Lib.hid (R0.out.kept hb4)
  have hbW := hbW.trans (hb4.mono hbW.size)
  clear hb4 HRR hr
  obtain ⟨R, D, q, hS⟩ := sol_ex (bare_ok HOK.out)
  have HS := Lib.hid hS
  have HN1 : Hid (∀ W, Below w.heap.size w W → NetAt W ⟨v.ai, v.ci, v.ac, v.cc, none, 0⟩ N.bare) := fun W hb => ⟨(HN.out.kept hb).ids, (HN.out.kept hb).costs, .inl rfl⟩
  have hn16 := HOK.out.n16
  have hn1 := HOK.out.n1
  clear hS
  go_wp2_with ((with_reducible refine at_store 24 (.tmp 19) (.const (.slice none 0 0)) ?_); refine wpList_store_cell rfl 24 (.tmp 19) (.const (.slice none 0 0)) rfl w.heap.size 2 _ rfl rfl 26 _ R0.out (show 2 < 3 from by decide) (by kernel_rfl) rfl w.heap.size (Nat.le_refl _) ?_)
  intro w5 hR5 ho5 hs5 hb5
  have R0 : Hid (RowIs w5 w.heap.size 26 #[.slice v.ai N.ids.length v.ci, .slice v.ac N.costs.length v.cc, .slice none 0 0]) := hR5
  have hbW := hbW.trans hb5
  clear hR5 ho5 hs5 hb5
  have HO := Lib.hid (of18 ⟨v.ai, v.ci, v.ac, v.cc, none, 0⟩ N.bare w5 (HN1.out _ hbW) (by show N.ids.length ≤ 1000; omega) (Nat.zero_le _))
  go_wp2_with ((with_reducible refine at_load 26 (.tmp 1) ?_); refine wpList_load_own rfl 26 (.tmp 1) rfl w.heap.size rfl _ _ _ R0.out Try.underlying26 rfl (by kernel_rfl) ?_)
  refine HO.out.mono ?_
  rintro e w6 ⟨v6, rfl, hN6, hb6⟩
  have R0 := Lib.hid (R0.out.kept hb6)
  have HN6 := Lib.hid hN6
  have hbW := hbW.trans (hb6.mono hbW.size)
  clear hb6 hN6 HO
  have hwM : w.heap.size < w6.heap.size := R0.out.lt
  go_upto_region 5 with fail
  have hb7 : Below w6.heap.size w6 (w6.alloc (.cells #[.slice v6.ai N.bare.ids.length v6.ci, .slice v6.ac N.bare.costs.length v6.cc, .slice v6.al N.bare.links.length v6.cl] 33)) := (Below.refl _ _).alloc (Nat.le_refl _) _
  have RM := Lib.hid (rowIs_new w6 33 #[.slice v6.ai N.bare.ids.length v6.ci, .slice v6.ac N.bare.costs.length v6.cc, .slice v6.al N.bare.links.length v6.cl])
  have R0 := Lib.hid (R0.out.kept hb7)
  have HN6 := Lib.hid (HN6.out.kept hb7)
  have hbW := hbW.trans (hb7.mono hbW.size)
  clear hb7
  generalize w6.alloc (.cells #[.slice v6.ai N.bare.ids.length v6.ci, .slice v6.ac N.bare.costs.length v6.cc, .slice v6.al N.bare.links.length v6.cl] 33) = w7 at *
  generalize w6.heap.size = M at *
  have HRI : Hid (∀ i, i < N.ids.length → R.getD i 0 = i) := fun i hi => conn_bare (HS.out.roots.conn i hi)
  have HFB : Hid (∀ b p, forwB N.bare D q b p = true) := fun b p => by
    unfold forwB
    rw [show N.bare.dirs = [] from rfl]
    rfl
  have hlen := HOK.out.len
  have HLEN := Lib.hid hlen
  clear hlen
  go_wp2_with fail
  go_loopw [4, 5] (fun s4 _ wr => ∃ i : Nat, i ≤ N.ids.length ∧ s4 = .int .i64 i ∧ Hid (RowIs wr w.heap.size 26 #[.slice v.ai N.ids.length v.ci, .slice v.ac N.costs.length v.cc, .slice none 0 0]) ∧ Hid (RowIs wr M 33 #[.slice v6.ai N.bare.ids.length v6.ci, .slice v6.ac N.bare.costs.length v6.cc, .slice v6.al N.bare.links.length v6.cl]) ∧ Hid (NetAt wr v6 N.bare) ∧ Below w.heap.size w wr) (fun s4 _ _ => N.ids.length - (intOf s4).toNat)
  case atStart => exact ⟨0, Nat.zero_le _, rfl, R0, RM, HN6, hbW⟩
  case round =>
    clear R0 RM HN6 hbW
    rename World => wr
    obtain ⟨i, hi, rfl, R0, RM, HN6, hbr⟩ := hrel
    have c0 : wr.cell? ⟨w.heap.size, 0, none⟩ = some (.slice v.ai N.ids.length v.ci) := R0.out.cell 0
    by_cases hlt : i < N.ids.length
    · as_aux_lemma =>
      have HRT := Lib.hid (roots_yes v6 N.bare wr HN6.out (Nat.zero_le _) HS.out.ok R HS.out.roots)
      go_wp2_with ((with_reducible refine at_load 33 (.tmp 3) ?_); refine wpList_load_own rfl 33 (.tmp 3) rfl M rfl _ _ _ RM.out Try.underlying33 rfl (by kernel_rfl) ?_)
      refine HRT.out.mono ?_
      rintro e w8 ⟨⟨g, rfl, hg, _⟩, hb8⟩
      have cR : w8.cell? ⟨g, i, none⟩ = some (.int .i64 (i : Int)) := by
        have hl : R.length = N.ids.length := HS.out.roots.len
        rw [hg.cell, intsA_get (by rw [natI_len, hl]; exact hlt), natI_get (by rw [hl]; exact hlt), HRI.out i hlt]
      have R0 := Lib.hid (R0.out.kept hb8)
      have RM := Lib.hid (RM.out.kept hb8)
      have HN6 := Lib.hid (HN6.out.kept hb8)
      have hbr := hbr.trans (hb8.mono hbr.size)
      have hx0 : (0 : Int) ≤ (i : Int) := by omega
      have hx1 : (i : Int) < (N.ids.length : Int) := by omega
      have hx2 : (i : Int) < (N.bare.ids.length : Int) := hx1
      clear hb8 hg HRT c0
      have HCS : Hid (∀ W, Below w.heap.size w W → ∃ cb coff ca cci, v.ac = some ⟨cb, coff, none⟩ ∧ W.cell? ⟨cb, coff + i, none⟩ = some (.slice ca (N.cs i).length cci)) := fun W hb => by
        obtain ⟨cb, coff, ca, cci, eac, hcc, -⟩ := (HN.out.kept hb).cs (show i < N.costs.length by have := HLEN.out; omega)
        exact ⟨cb, coff, ca, cci, eac, hcc⟩
      have HHA : Hid (∀ p : Nat, p < (N.cs i).length → N.bare.has i p = true) := fun p hp => LN.has_iff.2 ⟨by omega, by have := HLEN.out; show (i : Int) < N.costs.length; omega, by omega, by show (p : Int) < (N.cs (i : Int).toNat).length; rw [Int.toNat_natCast]; omega⟩
      have hz32 : (N.cs i).length ≤ 32 := by
        have h3 := HOK.out.cost (N.cs i) (LN.cs_mem (by have := HLEN.out; omega))
        unfold okCosts at h3
        simp only [Bool.and_eq_true, decide_eq_true_eq] at h3
        exact h3.1
      generalize (N.cs i).length = z at *
      go_wp2_with fail
      clear cR
      go_loopw [5] (fun s5 wr => ∃ p : Nat, p ≤ z ∧ s5 = .int .i64 p ∧ Hid (RowIs wr w.heap.size 26 #[.slice v.ai N.ids.length v.ci, .slice v.ac N.costs.length v.cc, .slice none 0 0]) ∧ Hid (RowIs wr M 33 #[.slice v6.ai N.bare.ids.length v6.ci, .slice v6.ac N.bare.costs.length v6.cc, .slice v6.al N.bare.links.length v6.cl]) ∧ Hid (NetAt wr v6 N.bare) ∧ Below w.heap.size w wr) (fun s5 _ => z - (intOf s5).toNat)
      case atStart => exact ⟨0, Nat.zero_le _, rfl, R0, RM, HN6, hbr⟩
      case round =>
        clear R0 RM HN6 hbr
        rename World => wq
        obtain ⟨p, hp, rfl, R0, RM, HN6, hbr⟩ := hrel
        obtain ⟨cb, coff, ca, cci, eac, hcc⟩ := HCS.out _ hbr
        have c1 : wq.cell? ⟨w.heap.size, 1, none⟩ = some (.slice (some ⟨cb, coff, none⟩) N.costs.length v.cc) := by rw [← eac]; exact R0.out.cell 1
        have hx3 : (i : Int) < (N.costs.length : Int) := by have := HLEN.out; omega
        clear eac
        by_cases hpl : p < z
        · as_aux_lemma =>
          have hh := HHA.out p hpl
          have HFO := Lib.hid (forw_yes v6 N.bare i p wq HN6.out (Nat.zero_le _) HS.out.ok R HS.out.roots D HS.out.dist q HS.out.ports hh)
          rw [HFB.out] at HFO
          clear hh
          go_wp2_with ((with_reducible refine at_load 33 (.tmp 3) ?_); refine wpList_load_own rfl 33 (.tmp 3) rfl M rfl _ _ _ RM.out Try.underlying33 rfl (by kernel_rfl) ?_)
          refine HFO.out.mono ?_
          rintro e w9 ⟨rfl, hb9⟩
          have R0 := Lib.hid (R0.out.kept hb9)
          have RM := Lib.hid (RM.out.kept hb9)
          have HN6 := Lib.hid (HN6.out.kept hb9)
          have hbr := hbr.trans (hb9.mono hbr.size)
          clear hb9 HFO c1 hcc
          go_wp2_with fail
          exact ⟨⟨p + 1, by omega, by go_num, R0, RM, HN6, hbr⟩, by simp [intOf]; omega⟩
        · obtain rfl : p = z := by omega
          go_wp2_with fail
          exact ⟨⟨i + 1, by omega, by go_num, R0, RM, HN6, hbr⟩, by simp [intOf]; omega⟩
    · obtain rfl : i = N.ids.length := by omega
      obtain ⟨cb, coff, ca, cci, eac, hcc, -⟩ := (HN.out.kept hbr).cs (show 0 < N.costs.length by have := HLEN.out; omega)
      have c1 : wr.cell? ⟨w.heap.size, 1, none⟩ = some (.slice (some ⟨cb, coff, none⟩) N.costs.length v.cc) := by rw [← eac]; exact R0.out.cell 1
      have hx3 : (0 : Int) < (N.costs.length : Int) := by have := HLEN.out; omega
      have hcc : wr.cell? ⟨cb, coff, none⟩ = some (.slice ca (N.cs 0).length cci) := hcc
      clear eac
      by_cases hz : ((N.cs 0).length : Int) < 2
      · generalize (N.cs 0).length = z at *
        go_wp2_with fail
        go_ret
        exact ⟨rfl, hbr⟩
      · as_aux_lemma =>
        have dz : decide (((N.cs 0).length : Int) < 2) = false := decide_eq_false hz
        have hok2 := loop1_ok HOK.out (show 2 ≤ (N.cs 0).length by omega)
        obtain ⟨R2, D2, q2, hS2⟩ := sol_ex hok2
        have HS2 := Lib.hid hS2
        have HAS : Hid (N.loop1.has 0 0 = true ∧ N.loop1.has 0 1 = true) := by
          have e : ∀ x : Int, 0 ≤ x → x < 2 → N.loop1.has 0 x = true := fun x h3 h4 => LN.has_iff.2 ⟨Int.le_refl _, by show (0 : Int) < N.costs.length; omega, h3, by show x < (N.cs 0).length; omega⟩
          exact ⟨e 0 (by decide) (by decide), e 1 (by decide) (by decide)⟩
        have HF0 : Hid (forwB N.loop1 D2 q2 0 0 = true) := by
          show _ = _
          unfold forwB
          rw [show N.loop1.dirs = [⟨0, 1, 0, 0⟩, ⟨0, 0, 0, 1⟩] from rfl]
          have hb := (tell_better N.loop1 D2 0 0 1 (by decide)).1
          have e1 : stF N.loop1 D2 0 0 true ⟨0, 1, 0, 0⟩ = true := (if_pos ⟨rfl, rfl⟩).trans hb
          have e2 : stF N.loop1 D2 0 0 true ⟨0, 0, 0, 1⟩ = true := if_neg (by decide)
          rw [List.foldl_cons, e1, List.foldl_cons, e2]
          rfl
        have HF1 : Hid (forwB N.loop1 D2 q2 0 1 = false) := by
          show _ = _
          have hq : q2.getD 0 0 = -1 := hS2.ports.root 0 (by show 0 < N.ids.length; omega) (conn_loop1 (hS2.roots.conn 0 (by show 0 < N.ids.length; omega)))
          unfold forwB
          rw [show N.loop1.dirs = [⟨0, 1, 0, 0⟩, ⟨0, 0, 0, 1⟩] from rfl, show (0 : Int).toNat = 0 from rfl, hq]
          have hb := (tell_better N.loop1 D2 0 0 1 (by decide)).2
          have e1 : stF N.loop1 D2 0 1 true ⟨0, 1, 0, 0⟩ = true := if_neg (by decide)
          have e2 : stF N.loop1 D2 0 1 true ⟨0, 0, 0, 1⟩ = false := (if_pos ⟨rfl, rfl⟩).trans hb
          rw [List.foldl_cons, e1, List.foldl_cons, e2]
          rfl
        have HN2 : Hid (∀ W b, Below w.heap.size w W → RowsAt W (some ⟨b, 0, none⟩) Lk.vals 4 [⟨0, 1, 0, 0⟩] → ∀ c, NetAt W ⟨v.ai, v.ci, v.ac, v.cc, some ⟨b, 0, none⟩, c⟩ N.loop1) := fun W b hb hr c => ⟨(HN.out.kept hb).ids, (HN.out.kept hb).costs, hr⟩
        have hswr : w.heap.size + 1 ≤ wr.heap.size := R0.out.lt
        have hMw : M < wr.heap.size := RM.out.lt
        clear hS2 hok2
        generalize (N.cs 0).length = z at *
        obtain ⟨li, lz, hli, hlz, hy1, hy2, hy3⟩ := info_arr4
        have HLI := Lib.hid hli
        have HLZ := Lib.hid hlz
        clear hli hlz
        have c2 : wr.cell? ⟨w.heap.size, 2, none⟩ = some (.slice none 0 0) := R0.out.cell 2
        go_wp2_with (at_builtin; refine wpList_append_own _ rfl (.tmp 58) (.tmp 60) 24 rfl (w.heap.size + 1) 37 li lz 4 32 Try.underlying24 HLI.out HLZ.out hy1 hy2 hy3 (by decide) _ 0 [] rfl (World.ownsRow_nil _ _ _ _) ⟨wr.heap.size, 0, none⟩ 1 1 [.int .i64 0, .int .i64 1, .int .i64 0, .int .i64 0] rfl ?d0 ?d1 ?d2 ?d3 ?d4 ?d5 ?_)
        (try case d0 => rfl)
        (try case d1 =>
          intro j' u hj'
          rw [addr_add, (rowIs_new wr _ _).cell j', ← Array.getElem?_toList]
          exact hj')
        (try case d2 => first | exact ⟨rfl, rfl, rfl⟩ | (intro u hu; simp at hu; rcases hu with rfl | rfl <;> rfl))
        (try case d3 => simp [maxLen])
        (try case d4 => omega)
        (try case d5 => first | omega | (simp; omega))
        intro v' w8 ho8 hg8 _
        obtain ⟨g8, cap8, rfl, hg8'⟩ : ∃ g8 cap8, v' = .slice (some ⟨g8, 0, none⟩) 1 cap8 ∧ RowsAt w8 (some ⟨g8, 0, none⟩) Lk.vals 4 [⟨0, 1, 0, 0⟩] := by
          have hF : RowsFrom w8 (w.heap.size + 1) 37 4 Lk.vals v' ([] ++ [⟨0, 1, 0, 0⟩]) := rowsFrom_app (vs := []) (x := (⟨0, 1, 0, 0⟩ : Lk)) ho8
          obtain ⟨ao, cap, e, hr⟩ := hF.at (fun x : Lk => (rfl : (Lk.vals x).length = 4))
          rcases hr with h | ⟨b, off, rfl, h⟩
          · cases h
          · rcases ho8.2 with ⟨e2, e3⟩ | ⟨g2, cap2, cur2, e2, b2, b3, b4⟩
            · cases e3
            · rw [e] at e2
              simp only [Value.slice.injEq, Option.some.injEq, Addr.mk.injEq, and_true] at e2
              obtain ⟨⟨rfl, rfl⟩, _, rfl⟩ := e2
              exact ⟨b, cap, e, .inr ⟨b, 0, rfl, h⟩⟩
        have HG8 := Lib.hid hg8'
        have hgl : Below wr.heap.size wr w8 := by
          have h1 : Below wr.heap.size (wr.alloc (.cells #[.int .i64 0, .int .i64 1, .int .i64 0, .int .i64 0] 37)) w8 := (Below.refl _ _).grown hg8 (by simp) (fun k e1 => by cases e1)
          exact ((Below.refl _ _).alloc (Nat.le_refl _) _).trans h1
        have R0 := Lib.hid (R0.out.kept hgl)
        have RM := Lib.hid (RM.out.kept hgl)
        have hbr := hbr.trans (hgl.mono hbr.size)
        have hne8 : g8 ≠ w.heap.size := fun e => by
          rcases ho8.2 with ⟨e2, e3⟩ | ⟨g2, cap2, cur2, e2, b2, b3, b4⟩
          · cases e3
          · simp only [Value.slice.injEq, Option.some.injEq, Addr.mk.injEq, and_true] at e2
            omega
        clear ho8 hg8 hg8' hgl c2 c1 hcc dz
        go_wp2_with ((with_reducible refine at_store 24 (.tmp 62) (.tmp 61) ?_); refine wpList_store_cell rfl 24 (.tmp 62) (.tmp 61) rfl w.heap.size 2 _ rfl rfl 26 _ R0.out (show 2 < 3 from by decide) (by kernel_rfl) rfl w.heap.size (Nat.le_refl _) ?_)
        intro w9 hR9 ho9 hs9 hb9
        have R0 : Hid (RowIs w9 w.heap.size 26 #[.slice v.ai N.ids.length v.ci, .slice v.ac N.costs.length v.cc, .slice (some ⟨g8, 0, none⟩) 1 cap8]) := hR9
        have RM := Lib.hid (rowIs_same RM.out (ho9 _ (by omega)))
        have HG9 : Hid (RowsAt w9 (some ⟨g8, 0, none⟩) Lk.vals 4 [⟨0, 1, 0, 0⟩]) := by
          rcases HG8.out with h | ⟨b, off, e, h1, h2⟩
          · cases h
          · simp only [Option.some.injEq, Addr.mk.injEq, and_true] at e
            obtain ⟨rfl, rfl⟩ := e
            refine .inr ⟨g8, 0, rfl, by omega, fun i hi j x hj => ?_⟩
            rw [← h2 i hi j x hj]
            simp only [World.cell?, ho9 g8 hne8]
        have hbr := hbr.trans hb9
        have HNW := Lib.hid (HN2.out w9 g8 hbr HG9.out cap8)
        clear hR9 ho9 hs9 hb9 HG8 HG9 HN2
        have HO := Lib.hid (ofB18 ⟨v.ai, v.ci, v.ac, v.cc, some ⟨g8, 0, none⟩, cap8⟩ N.loop1 w9 HNW.out (by show N.ids.length ≤ 1000; omega) (show 1 ≤ 1000 by decide))
        go_wp2_with ((with_reducible refine at_load 26 (.tmp 1) ?_); refine wpList_load_own rfl 26 (.tmp 1) rfl w.heap.size rfl _ _ _ R0.out Try.underlying26 rfl (by kernel_rfl) ?_)
        refine HO.out.mono ?_
        rintro e wa ⟨vai, vci, val, vcl, rfl, hNa, hba⟩
        have hMa : M < w9.heap.size := RM.out.lt
        have RM := Lib.hid (RM.out.kept hba)
        have HNa := Lib.hid hNa
        have hbr := hbr.trans (hba.mono hbr.size)
        clear hba hNa HO R0 HNW
        go_wp2_with ((with_reducible refine at_store 33 (.tmp 3) (.tmp 64) ?_); refine wpList_store_own rfl 33 (.tmp 3) (.tmp 64) rfl M _ rfl rfl _ _ RM.out (by kernel_rfl) rfl (by simp [Value.oneCell']) w.heap.size (by omega) ?_)
        have hRMa := RM.out
        intro wb hRb hob hsb hbb
        have RM := Lib.hid hRb
        have hbr := hbr.trans hbb
        have HNb : Hid (NetAt wb ⟨vai, vci, v.ac, v.cc, val, vcl⟩ N.loop1) := HNa.out.away hRMa hob hsb (HN.out.kept hbr).costs
        clear hRb hob hsb hbb HNa hRMa
        as_aux_lemma =>
        have HF := Lib.hid (forw_yes ⟨vai, vci, v.ac, v.cc, val, vcl⟩ N.loop1 0 0 wb HNb.out (show 1 ≤ 1000 by decide) HS2.out.ok R2 HS2.out.roots D2 HS2.out.dist q2 HS2.out.ports HAS.out.1)
        rw [HF0.out] at HF
        go_wp2_with ((with_reducible refine at_load 33 (.tmp 3) ?_); refine wpList_load_own rfl 33 (.tmp 3) rfl M rfl _ _ _ RM.out Try.underlying33 rfl (by kernel_rfl) ?_)
        refine HF.out.mono ?_
        rintro e wc ⟨rfl, hbc⟩
        have RM := Lib.hid (RM.out.kept hbc)
        have HNc := Lib.hid (HNb.out.kept hbc)
        have hbr := hbr.trans (hbc.mono hbr.size)
        clear hbc HF HNb
        have HF := Lib.hid (forw_yes ⟨vai, vci, v.ac, v.cc, val, vcl⟩ N.loop1 0 1 wc HNc.out (show 1 ≤ 1000 by decide) HS2.out.ok R2 HS2.out.roots D2 HS2.out.dist q2 HS2.out.ports HAS.out.2)
        rw [HF1.out] at HF
        go_wp2_with ((with_reducible refine at_load 33 (.tmp 3) ?_); refine wpList_load_own rfl 33 (.tmp 3) rfl M rfl _ _ _ RM.out Try.underlying33 rfl (by kernel_rfl) ?_)
        refine HF.out.mono ?_
        rintro e wd ⟨rfl, hbd⟩
        have hbf := hbr.trans (hbd.mono hbr.size)
        clear hbd HF HNc
        go_wp2_with fail
        go_ret
        exact ⟨rfl, hbf⟩
end Go.Proofs.Ytfgbegnngpdnbaa
