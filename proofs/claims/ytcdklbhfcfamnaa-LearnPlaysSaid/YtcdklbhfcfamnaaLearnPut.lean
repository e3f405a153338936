/- The document's table: Put. By an AI agent. -/
import Derived.Test.YtcdklbhfcfamnaaLearnRef2
import Derived.Deep.DeepCutAuto
namespace Go.Proofs.Ytcdklbhfcfamnaa
open Go.RowKit Go.MapKept Go.Maps Go.WideShapes Go.Sort Grow

def putS (x : Ent) (s : List Ent × Bool) (d : Ent) : List Ent × Bool := if d.is x.v x.m = true then s else if (!s.2 && decide (x.key < d.key)) = true then (s.1 ++ [x] ++ [d], true) else (s.1 ++ [d], s.2)
def putF (x : Ent) (l : List Ent) : List Ent × Bool := l.foldl (putS x) ([], false)
def putL (l : List Ent) (x : Ent) : List Ent := if (putF x l).2 = true then (putF x l).1 else (putF x l).1 ++ [x]
theorem putF_next (x : Ent) (l : List Ent) (i : Nat) (hi : i < l.length) : putF x (l.take (i + 1)) = putS x (putF x (l.take i)) l[i] := by
  unfold putF
  rw [take_snoc l i hi, List.foldl_append]
  rfl
theorem putF_len (x : Ent) (l : List Ent) : ∀ s : List Ent × Bool, (l.foldl (putS x) s).1.length + (if (l.foldl (putS x) s).2 then 0 else 1) ≤ s.1.length + (if s.2 then 0 else 1) + l.length := by
  induction l with
  | nil => exact fun s => Nat.le_refl _
  | cons d l ih =>
    intro s
    refine Nat.le_trans (ih (putS x s d)) ?_
    obtain ⟨o, b⟩ := s
    unfold putS
    cases b <;> by_cases h1 : d.is x.v x.m = true <;> by_cases h2 : x.key < d.key <;> simp [h1, h2] <;> omega
theorem put_len (x : Ent) (l : List Ent) : (putF x l).1.length ≤ l.length + 1 := by
  have := putF_len x l ([], false)
  show (l.foldl (putS x) ([], false)).1.length ≤ _
  simp at this
  omega

set_option maxRecDepth 20000 in
set_option maxHeartbeats 8000000 in
theorem put_any (ao : Option Addr) (l : List Ent) (cap : Nat) (x : Ent) (w : World) (h : ManyAt w ao encE 10 l) (hl : l.length ≤ 1000) : Calls Try.prog 19 #[.slice ao l.length cap, .agg #[.int .i64 x.v, .int .i64 x.port, .int .i64 x.age, .int .u8 (x.m.a.toNat : Int), .int .u8 (x.m.b.toNat : Int), .int .u8 (x.m.c.toNat : Int), .int .u8 (x.m.d.toNat : Int), .int .u8 (x.m.e.toNat : Int), .int .u8 (x.m.f.toNat : Int), .bool x.fixed]] w
    fun e w' => ∃ ao' cap', e = .returned (.slice ao' (putL l x).length cap') ∧ ManyAt w' ao' encE 10 (putL l x) ∧ Below w.heap.size w w' := by
  have HA := Lib.hid h
  obtain ⟨ti, tz, hi, hzz, hz1, hz2, hz3⟩ := info_rentry
  have HI := Lib.hid hi
  have HZ := Lib.hid hzz
  have CL := Lib.hid (fun (d : Ent) (W' : World) => refless_any x d W')
  have hbW : Below w.heap.size w (w.alloc (.cells #[.int .i64 x.v, .int .i64 x.port, .int .i64 x.age, .int .u8 (x.m.a.toNat : Int), .int .u8 (x.m.b.toNat : Int), .int .u8 (x.m.c.toNat : Int), .int .u8 (x.m.d.toNat : Int), .int .u8 (x.m.e.toNat : Int), .int .u8 (x.m.f.toNat : Int), .bool x.fixed] 51)) := (Below.refl _ w).alloc (Nat.le_refl _) _
  have HB := Lib.hid (rowIs_new w 51 #[.int .i64 x.v, .int .i64 x.port, .int .i64 x.age, .int .u8 (x.m.a.toNat : Int), .int .u8 (x.m.b.toNat : Int), .int .u8 (x.m.c.toNat : Int), .int .u8 (x.m.d.toNat : Int), .int .u8 (x.m.e.toNat : Int), .int .u8 (x.m.f.toNat : Int), .bool x.fixed])
  clear h hi hzz
  go_enter Try.func19, Try.ntmps19
  go_upto_region 3 with fail
  generalize (w.alloc (.cells #[.int .i64 x.v, .int .i64 x.port, .int .i64 x.age, .int .u8 (x.m.a.toNat : Int), .int .u8 (x.m.b.toNat : Int), .int .u8 (x.m.c.toNat : Int), .int .u8 (x.m.d.toNat : Int), .int .u8 (x.m.e.toNat : Int), .int .u8 (x.m.f.toNat : Int), .bool x.fixed] 51)) = W at *
  go_wp2_with fail
  go_loopw [5, 6, 7] (fun s5 s6 s7 wr => ∃ i : Nat, i ≤ l.length ∧ s7 = .int .i64 i ∧ s6 = .bool (putF x (l.take i)).2 ∧ Hid (OutAt wr W.heap.size s5 (putF x (l.take i)).1) ∧ Below W.heap.size W wr) (fun _ _ s7 _ => l.length - (intOf s7).toNat)
  case atStart => exact ⟨0, Nat.zero_le _, rfl, rfl, out_nil _ _, Below.refl _ _⟩
  case round =>
    rename_i wr
    obtain ⟨i, hi, rfl, rfl, HOUT, hbR⟩ := hrel
    have hkl : (putF x (l.take i)).1.length ≤ 1001 := Nat.le_trans (put_len _ _) (by rw [List.length_take]; omega)
    by_cases hlt : i < l.length
    · obtain ⟨b, off, hao, hblw, hcellw⟩ := HA.out.range hlt
      subst hao
      have HRW := Lib.hid (show w.rangeAt b (off + i * 10) (encE l[i]) from hcellw)
      have hbwr := hbW.trans (hbR.mono hbW.size)
      have hcell := range_later HRW.out hblw hbwr
      have hbl : b < wr.heap.size := Nat.lt_of_lt_of_le hblw hbwr.size
      clear hcellw hbwr
      have HNEXT := Lib.hid (putF_next x l i hlt)
      have HR0 := Lib.hid (show wr.rangeAt b (off + i * 10) (encE l[i]) from hcell)
      have HRm : Hid (wr.rangeAt b (off + i * 10 + 3) (macCells l[i].m)) := fun t v ht => by
        have h := hcell (3 + t) v (by rcases t with _ | _ | _ | _ | _ | _ | t <;> first | exact ht | (simp [macCells] at ht))
        rw [← Nat.add_assoc] at h
        exact h
      have c0 : wr.cell? ⟨b, off + i * 10, none⟩ = some (.int .i64 l[i].v) := hcell 0 _ rfl
      have HBr := Lib.hid (HB.out.kept hbR)
      have HXm := Lib.hid (range_of_row (off := 3) (sub := macCells x.m) HBr.out rfl)
      have c1 : wr.cell? ⟨w.heap.size, 0, none⟩ = some (.int .i64 x.v) := HBr.out.cell 0
      have hgw : w.heap.size < wr.heap.size := HBr.out.lt
      have HIS : Hid ((l[i].is x.v x.m) = (decide (l[i].v = x.v) && eqB [l[i].m.a, l[i].m.b, l[i].m.c, l[i].m.d, l[i].m.e, l[i].m.f] [x.m.a, x.m.b, x.m.c, x.m.d, x.m.e, x.m.f])) := rfl
      clear hcell
      unfold putS at HNEXT
      generalize l[i] = d at *
      have HR := Lib.hid (show wr.rangeAt b (off + i * 10) [.int .i64 d.v, .int .i64 d.port, .int .i64 d.age, .int .u8 (d.m.a.toNat : Int), .int .u8 (d.m.b.toNat : Int), .int .u8 (d.m.c.toNat : Int), .int .u8 (d.m.d.toNat : Int), .int .u8 (d.m.e.toNat : Int), .int .u8 (d.m.f.toNat : Int), .bool d.fixed] from HR0.out)
      generalize (putF x (l.take i)) = st at *
      obtain ⟨outs, dn⟩ := st
      simp only at hkl HOUT HNEXT
      generalize d.is x.v x.m = yes at *
      go_upto_region 6 with fail
      go_cut [31] (fun v wx => v = .bool yes ∧ Below wr.heap.size wr wx)
      case first =>
        have k0 := cell_regrown c0
        have k1 := cell_regrown c1
        clear c0 c1
        cases hv : d.v == x.v
        · have hvn : ¬ d.v = x.v := by simpa using hv
          have hy : yes = false := by rw [HIS.out, decide_eq_false hvn]; rfl
          clear hvn
          subst hy
          refine wp_region_mix 18 (by kernel_rfl) (by kernel_rfl) (by kernel_rfl) ?_
          (refine mix_step (by kernel_rfl) (by kernel_rfl) (fun K hK => ?_); go_simp; (try (simp only [↓IntWalk.iteOmega]; go_simp)); (first | (refine hK _ ?_; clear hK K) | (apply Exists.intro; refine ⟨fun _ => ?_, hK _ ?_⟩; (first | fail); clear hK K)))
          (refine mix_step (by kernel_rfl) (by kernel_rfl) (fun K hK => ?_); go_simp; (try (simp only [↓IntWalk.iteOmega]; go_simp)); (first | (refine hK _ ?_; clear hK K) | (apply Exists.intro; refine ⟨fun _ => ?_, hK _ ?_⟩; (first | fail); clear hK K)))
          (refine mix_step (by kernel_rfl) (by kernel_rfl) (fun K hK => ?_); go_simp; (try (simp only [↓IntWalk.iteOmega]; go_simp)); (first | (refine hK _ ?_; clear hK K) | (apply Exists.intro; refine ⟨fun _ => ?_, hK _ ?_⟩; (first | fail); clear hK K)))
          (refine mix_step (by kernel_rfl) (by kernel_rfl) (fun K hK => ?_); go_simp; (try (simp only [↓IntWalk.iteOmega]; go_simp)); (first | (refine hK _ ?_; clear hK K) | (apply Exists.intro; refine ⟨fun _ => ?_, hK _ ?_⟩; (first | fail); clear hK K)))
          (refine mix_step (by kernel_rfl) (by kernel_rfl) (fun K hK => ?_); go_simp; (try (simp only [↓IntWalk.iteOmega]; go_simp)); (first | (refine hK _ ?_; clear hK K) | (apply Exists.intro; refine ⟨fun _ => ?_, hK _ ?_⟩; (first | fail); clear hK K)))
          (refine mix_step (by kernel_rfl) (by kernel_rfl) (fun K hK => ?_); go_simp; (try (simp only [↓IntWalk.iteOmega]; go_simp)); (first | (refine hK _ ?_; clear hK K) | (apply Exists.intro; refine ⟨fun _ => ?_, hK _ ?_⟩; (first | fail); clear hK K)))
          (refine mix_step (by kernel_rfl) (by kernel_rfl) (fun K hK => ?_); go_simp; (try (simp only [↓IntWalk.iteOmega]; go_simp)); (first | (refine hK _ ?_; clear hK K) | (apply Exists.intro; refine ⟨fun _ => ?_, hK _ ?_⟩; (first | fail); clear hK K)))
          (refine mix_step (by kernel_rfl) (by kernel_rfl) (fun K hK => ?_); go_simp; (try (simp only [↓IntWalk.iteOmega]; go_simp)); (first | (refine hK _ ?_; clear hK K) | (apply Exists.intro; refine ⟨fun _ => ?_, hK _ ?_⟩; (first | fail); clear hK K)))
          (refine mix_step (by kernel_rfl) (by kernel_rfl) (fun K hK => ?_); go_simp; (try (simp only [↓IntWalk.iteOmega]; go_simp)); (first | (refine hK _ ?_; clear hK K) | (apply Exists.intro; refine ⟨fun _ => ?_, hK _ ?_⟩; (first | fail); clear hK K)))
          (refine mix_step (by kernel_rfl) (by kernel_rfl) (fun K hK => ?_); go_simp; (try (simp only [↓IntWalk.iteOmega]; go_simp)); (first | (refine hK _ ?_; clear hK K) | (apply Exists.intro; refine ⟨fun _ => ?_, hK _ ?_⟩; (first | fail); clear hK K)))
          (refine mix_step (by kernel_rfl) (by kernel_rfl) (fun K hK => ?_); go_simp; (try (simp only [↓IntWalk.iteOmega]; go_simp)); (first | (refine hK _ ?_; clear hK K) | (apply Exists.intro; refine ⟨fun _ => ?_, hK _ ?_⟩; (first | fail); clear hK K)))
          (refine mix_step (by kernel_rfl) (by kernel_rfl) (fun K hK => ?_); go_simp; (try (simp only [↓IntWalk.iteOmega]; go_simp)); (first | (refine hK _ ?_; clear hK K) | (apply Exists.intro; refine ⟨fun _ => ?_, hK _ ?_⟩; (first | fail); clear hK K)))
          (refine mix_step (by kernel_rfl) (by kernel_rfl) (fun K hK => ?_); go_simp; (try (simp only [↓IntWalk.iteOmega]; go_simp)); (first | (refine hK _ ?_; clear hK K) | (apply Exists.intro; refine ⟨fun _ => ?_, hK _ ?_⟩; (first | fail); clear hK K)))
          (refine mix_step (by kernel_rfl) (by kernel_rfl) (fun K hK => ?_); go_simp; (try (simp only [↓IntWalk.iteOmega]; go_simp)); (first | (refine hK _ ?_; clear hK K) | (apply Exists.intro; refine ⟨fun _ => ?_, hK _ ?_⟩; (first | fail); clear hK K)))
          (refine mix_step (by kernel_rfl) (by kernel_rfl) (fun K hK => ?_); go_simp; (try (simp only [↓IntWalk.iteOmega]; go_simp)); (first | (refine hK _ ?_; clear hK K) | (apply Exists.intro; refine ⟨fun _ => ?_, hK _ ?_⟩; (first | fail); clear hK K)))
          (refine mix_step (by kernel_rfl) (by kernel_rfl) (fun K hK => ?_); go_simp; (try (simp only [↓IntWalk.iteOmega]; go_simp)); (first | (refine hK _ ?_; clear hK K) | (apply Exists.intro; refine ⟨fun _ => ?_, hK _ ?_⟩; (first | fail); clear hK K)))
          (refine mix_step (by kernel_rfl) (by kernel_rfl) (fun K hK => ?_); go_simp; (try (simp only [↓IntWalk.iteOmega]; go_simp)); (first | (refine hK _ ?_; clear hK K) | (apply Exists.intro; refine ⟨fun _ => ?_, hK _ ?_⟩; (first | fail); clear hK K)))
          (refine mix_step (by kernel_rfl) (by kernel_rfl) (fun K hK => ?_); go_simp; (try (simp only [↓IntWalk.iteOmega]; go_simp)); (first | (refine hK _ ?_; clear hK K) | (apply Exists.intro; refine ⟨fun _ => ?_, hK _ ?_⟩; (first | fail); clear hK K)))
          refine mix_nil ?_
          rintro ⟨dr, osr⟩
          have hb8 := below_regrown wr dr osr
          refine (show wpList _ _ _ _ _ _ from ?_)
          simp only [List.drop, Act.put, List.setIfInBounds_toArray, List.set]
          go_wp2_with fail
          go_meet
          exact ⟨rfl, hb8⟩
        · have hve : d.v = x.v := by simpa using hv
          have m1 := run_equalIn_arr6 9998 d.m.a d.m.b d.m.c d.m.d d.m.e d.m.f x.m.a x.m.b x.m.c x.m.d x.m.e x.m.f
          rw [decide_eq_true hve, Bool.true_and] at HIS
          rw [← HIS.out] at m1
          clear hve
          refine wp_region_mix 18 (by kernel_rfl) (by kernel_rfl) (by kernel_rfl) ?_
          (refine mix_step (by kernel_rfl) (by kernel_rfl) (fun K hK => ?_); go_simp; (try (simp only [↓IntWalk.iteOmega]; go_simp)); (first | (refine hK _ ?_; clear hK K) | (apply Exists.intro; refine ⟨fun _ => ?_, hK _ ?_⟩; (first | fail); clear hK K)))
          (refine mix_step (by kernel_rfl) (by kernel_rfl) (fun K hK => ?_); go_simp; (try (simp only [↓IntWalk.iteOmega]; go_simp)); (first | (refine hK _ ?_; clear hK K) | (apply Exists.intro; refine ⟨fun _ => ?_, hK _ ?_⟩; (first | fail); clear hK K)))
          (refine mix_step (by kernel_rfl) (by kernel_rfl) (fun K hK => ?_); go_simp; (try (simp only [↓IntWalk.iteOmega]; go_simp)); (first | (refine hK _ ?_; clear hK K) | (apply Exists.intro; refine ⟨fun _ => ?_, hK _ ?_⟩; (first | fail); clear hK K)))
          (refine mix_step (by kernel_rfl) (by kernel_rfl) (fun K hK => ?_); go_simp; (try (simp only [↓IntWalk.iteOmega]; go_simp)); (first | (refine hK _ ?_; clear hK K) | (apply Exists.intro; refine ⟨fun _ => ?_, hK _ ?_⟩; (first | fail); clear hK K)))
          (refine mix_step (by kernel_rfl) (by kernel_rfl) (fun K hK => ?_); go_simp; (try (simp only [↓IntWalk.iteOmega]; go_simp)); (first | (refine hK _ ?_; clear hK K) | (apply Exists.intro; refine ⟨fun _ => ?_, hK _ ?_⟩; (first | fail); clear hK K)))
          (refine mix_step (by kernel_rfl) (by kernel_rfl) (fun K hK => ?_); go_simp; (try (simp only [↓IntWalk.iteOmega]; go_simp)); (first | (refine hK _ ?_; clear hK K) | (apply Exists.intro; refine ⟨fun _ => ?_, hK _ ?_⟩; (first | fail); clear hK K)))
          (refine mix_step (by kernel_rfl) (by kernel_rfl) (fun K hK => ?_); go_simp; (try (simp only [↓IntWalk.iteOmega]; go_simp)); (first | (refine hK _ ?_; clear hK K) | (apply Exists.intro; refine ⟨fun _ => ?_, hK _ ?_⟩; (first | fail); clear hK K)))
          (refine mix_step (by kernel_rfl) (by kernel_rfl) (fun K hK => ?_); go_simp; (try (simp only [↓IntWalk.iteOmega]; go_simp)); (first | (refine hK _ ?_; clear hK K) | (apply Exists.intro; refine ⟨fun _ => ?_, hK _ ?_⟩; (first | fail); clear hK K)))
          (refine mix_step (by kernel_rfl) (by kernel_rfl) (fun K hK => ?_); go_simp; (try (simp only [↓IntWalk.iteOmega]; go_simp)); (first | (refine hK _ ?_; clear hK K) | (apply Exists.intro; refine ⟨fun _ => ?_, hK _ ?_⟩; (first | fail); clear hK K)))
          (refine mix_step (by kernel_rfl) (by kernel_rfl) (fun K hK => ?_); go_simp; (try (simp only [↓IntWalk.iteOmega]; go_simp)); (first | (refine hK _ ?_; clear hK K) | (apply Exists.intro; refine ⟨fun _ => ?_, hK _ ?_⟩; (first | fail); clear hK K)))
          (refine mix_step (by kernel_rfl) (by kernel_rfl) (fun K hK => ?_); go_simp; (try (simp only [↓IntWalk.iteOmega]; go_simp)); (first | (refine hK _ ?_; clear hK K) | (apply Exists.intro; refine ⟨fun _ => ?_, hK _ ?_⟩; (first | fail); clear hK K)))
          (refine mix_step (by kernel_rfl) (by kernel_rfl) (fun K hK => ?_); go_simp; (try (simp only [↓IntWalk.iteOmega]; go_simp)); (first | (refine hK _ ?_; clear hK K) | (apply Exists.intro; refine ⟨fun _ => ?_, hK _ ?_⟩; (first | fail); clear hK K)))
          (refine mix_step (by kernel_rfl) (by kernel_rfl) (fun K hK => ?_); go_simp; (try (simp only [↓IntWalk.iteOmega]; go_simp)); (first | (refine hK _ ?_; clear hK K) | (apply Exists.intro; refine ⟨fun _ => ?_, hK _ ?_⟩; (first | fail); clear hK K)))
          refine mix_exact (.agg #[.int .u8 (d.m.a.toNat : Int), .int .u8 (d.m.b.toNat : Int), .int .u8 (d.m.c.toNat : Int), .int .u8 (d.m.d.toNat : Int), .int .u8 (d.m.e.toNat : Int), .int .u8 (d.m.f.toNat : Int)]) rfl (exact_load_range (off := off + i * 10 + 3) (sub := macCells d.m) rfl rfl (by simp) HRm.out hbl Try.underlying22 rfl (by kernel_rfl)) ?_
          (refine mix_step (by kernel_rfl) (by kernel_rfl) (fun K hK => ?_); go_simp; (try (simp only [↓IntWalk.iteOmega]; go_simp)); (first | (refine hK _ ?_; clear hK K) | (apply Exists.intro; refine ⟨fun _ => ?_, hK _ ?_⟩; (first | fail); clear hK K)))
          refine mix_exact (.agg #[.int .u8 (x.m.a.toNat : Int), .int .u8 (x.m.b.toNat : Int), .int .u8 (x.m.c.toNat : Int), .int .u8 (x.m.d.toNat : Int), .int .u8 (x.m.e.toNat : Int), .int .u8 (x.m.f.toNat : Int)]) rfl (exact_load_range (off := 3) (sub := macCells x.m) rfl rfl (by simp) HXm.out hgw Try.underlying22 rfl (by kernel_rfl)) ?_
          (refine mix_step (by kernel_rfl) (by kernel_rfl) (fun K hK => ?_); go_simp; (try (simp only [↓IntWalk.iteOmega]; go_simp)); (first | (refine hK _ ?_; clear hK K) | (apply Exists.intro; refine ⟨fun _ => ?_, hK _ ?_⟩; (first | fail); clear hK K)))
          (refine mix_step (by kernel_rfl) (by kernel_rfl) (fun K hK => ?_); go_simp; (try (simp only [↓IntWalk.iteOmega]; go_simp)); (first | (refine hK _ ?_; clear hK K) | (apply Exists.intro; refine ⟨fun _ => ?_, hK _ ?_⟩; (first | fail); clear hK K)))
          refine mix_nil ?_
          rintro ⟨dr, osr⟩
          have hb8 := below_regrown wr dr osr
          refine (show wpList _ _ _ _ _ _ from ?_)
          simp only [List.drop, Act.put, List.setIfInBounds_toArray, List.set]
          go_wp2_with fail
          go_meet
          exact ⟨rfl, hb8⟩
      case rest =>
        obtain ⟨rfl, hb8⟩ := hcut
        generalize wc = w2 at *
        have HR2 := Lib.hid (range_later HR.out hbl hb8)
        have HB2 := Lib.hid (HBr.out.kept hb8)
        have HOUT := Lib.hid (HOUT.out.later hb8)
        have hb2 := hbR.trans (hb8.mono hbR.size)
        have hbl2 : b < w2.heap.size := Nat.lt_of_lt_of_le hbl hb8.size
        clear c0 c1 HRm HXm HBr HR HR0 hbR hb8 HIS
        cases yes
        · replace HNEXT : Hid (putF x (l.take (i + 1)) = if (!dn && decide (x.key < d.key)) = true then (outs ++ [x] ++ [d], true) else (outs ++ [d], dn)) := HNEXT.out
          generalize hless : decide (x.key < d.key) = ls at *
          have HLS := Lib.hid hless
          clear hless
          go_upto_region 7 with fail
          go_cut [41] (fun v wx => v = .bool (!dn && ls) ∧ Below w2.heap.size w2 wx)
          case first =>
            cases dn
            · have C1 : Hid (∀ W', Calls Try.prog 38 #[.agg #[.int .i64 x.v, .int .i64 x.port, .int .i64 x.age, .int .u8 (x.m.a.toNat : Int), .int .u8 (x.m.b.toNat : Int), .int .u8 (x.m.c.toNat : Int), .int .u8 (x.m.d.toNat : Int), .int .u8 (x.m.e.toNat : Int), .int .u8 (x.m.f.toNat : Int), .bool x.fixed], .agg #[.int .i64 d.v, .int .i64 d.port, .int .i64 d.age, .int .u8 (d.m.a.toNat : Int), .int .u8 (d.m.b.toNat : Int), .int .u8 (d.m.c.toNat : Int), .int .u8 (d.m.d.toNat : Int), .int .u8 (d.m.e.toNat : Int), .int .u8 (d.m.f.toNat : Int), .bool d.fixed]] W' fun e w' => e = .returned (.bool ls) ∧ Below W'.heap.size W' w') := by
                rw [← HLS.out]
                exact fun W' => CL.out d W'
              refine wp_region_mix 10 (by kernel_rfl) (by kernel_rfl) (by kernel_rfl) ?_
              (refine mix_step (by kernel_rfl) (by kernel_rfl) (fun K hK => ?_); go_simp; (try (simp only [↓IntWalk.iteOmega]; go_simp)); (first | (refine hK _ ?_; clear hK K) | (apply Exists.intro; refine ⟨fun _ => ?_, hK _ ?_⟩; (first | fail); clear hK K)))
              (refine mix_step (by kernel_rfl) (by kernel_rfl) (fun K hK => ?_); go_simp; (try (simp only [↓IntWalk.iteOmega]; go_simp)); (first | (refine hK _ ?_; clear hK K) | (apply Exists.intro; refine ⟨fun _ => ?_, hK _ ?_⟩; (first | fail); clear hK K)))
              (refine mix_step (by kernel_rfl) (by kernel_rfl) (fun K hK => ?_); go_simp; (try (simp only [↓IntWalk.iteOmega]; go_simp)); (first | (refine hK _ ?_; clear hK K) | (apply Exists.intro; refine ⟨fun _ => ?_, hK _ ?_⟩; (first | fail); clear hK K)))
              refine mix_exact (.agg #[.int .i64 x.v, .int .i64 x.port, .int .i64 x.age, .int .u8 (x.m.a.toNat : Int), .int .u8 (x.m.b.toNat : Int), .int .u8 (x.m.c.toNat : Int), .int .u8 (x.m.d.toNat : Int), .int .u8 (x.m.e.toNat : Int), .int .u8 (x.m.f.toNat : Int), .bool x.fixed]) rfl (exact_load_row rfl rfl (by simp) HB2.out Try.underlying51 rfl (by kernel_rfl)) ?_
              (refine mix_step (by kernel_rfl) (by kernel_rfl) (fun K hK => ?_); go_simp; (try (simp only [↓IntWalk.iteOmega]; go_simp)); (first | (refine hK _ ?_; clear hK K) | (apply Exists.intro; refine ⟨fun _ => ?_, hK _ ?_⟩; (first | fail); clear hK K)))
              (refine mix_step (by kernel_rfl) (by kernel_rfl) (fun K hK => ?_); go_simp; (try (simp only [↓IntWalk.iteOmega]; go_simp)); (first | (refine hK _ ?_; clear hK K) | (apply Exists.intro; refine ⟨fun _ => ?_, hK _ ?_⟩; (first | fail); clear hK K)))
              (refine mix_step (by kernel_rfl) (by kernel_rfl) (fun K hK => ?_); go_simp; (try (simp only [↓IntWalk.iteOmega]; go_simp)); (first | (refine hK _ ?_; clear hK K) | (apply Exists.intro; refine ⟨fun _ => ?_, hK _ ?_⟩; (first | fail); clear hK K)))
              refine mix_exact (.agg #[.int .i64 d.v, .int .i64 d.port, .int .i64 d.age, .int .u8 (d.m.a.toNat : Int), .int .u8 (d.m.b.toNat : Int), .int .u8 (d.m.c.toNat : Int), .int .u8 (d.m.d.toNat : Int), .int .u8 (d.m.e.toNat : Int), .int .u8 (d.m.f.toNat : Int), .bool d.fixed]) rfl (exact_load_range (off := off + i * 10) (sub := encE d) rfl rfl (by simp) HR2.out hbl2 Try.underlying51 rfl (by kernel_rfl)) ?_
              (refine mix_step (by kernel_rfl) (by kernel_rfl) (fun K hK => ?_); go_simp; (try (simp only [↓IntWalk.iteOmega]; go_simp)); (first | (refine hK _ ?_; clear hK K) | (apply Exists.intro; refine ⟨fun _ => ?_, hK _ ?_⟩; (first | exact C1.out _); clear hK K)))
              (refine mix_step (by kernel_rfl) (by kernel_rfl) (fun K hK => ?_); go_simp; (try (simp only [↓IntWalk.iteOmega]; go_simp)); (first | (refine hK _ ?_; clear hK K) | (apply Exists.intro; refine ⟨fun _ => ?_, hK _ ?_⟩; (first | fail); clear hK K)))
              refine mix_nil ?_
              rintro ⟨dr, osr⟩
              have hb8 := below_regrown w2 dr osr
              refine (show wpList _ _ _ _ _ _ from ?_)
              simp only [List.drop, Act.put, List.setIfInBounds_toArray, List.set]
              go_wp2_with fail
              go_meet
              exact ⟨rfl, hb8⟩
            · refine wp_region_mix 10 (by kernel_rfl) (by kernel_rfl) (by kernel_rfl) ?_
              (refine mix_step (by kernel_rfl) (by kernel_rfl) (fun K hK => ?_); go_simp; (try (simp only [↓IntWalk.iteOmega]; go_simp)); (first | (refine hK _ ?_; clear hK K) | (apply Exists.intro; refine ⟨fun _ => ?_, hK _ ?_⟩; (first | fail); clear hK K)))
              (refine mix_step (by kernel_rfl) (by kernel_rfl) (fun K hK => ?_); go_simp; (try (simp only [↓IntWalk.iteOmega]; go_simp)); (first | (refine hK _ ?_; clear hK K) | (apply Exists.intro; refine ⟨fun _ => ?_, hK _ ?_⟩; (first | fail); clear hK K)))
              (refine mix_step (by kernel_rfl) (by kernel_rfl) (fun K hK => ?_); go_simp; (try (simp only [↓IntWalk.iteOmega]; go_simp)); (first | (refine hK _ ?_; clear hK K) | (apply Exists.intro; refine ⟨fun _ => ?_, hK _ ?_⟩; (first | fail); clear hK K)))
              (refine mix_step (by kernel_rfl) (by kernel_rfl) (fun K hK => ?_); go_simp; (try (simp only [↓IntWalk.iteOmega]; go_simp)); (first | (refine hK _ ?_; clear hK K) | (apply Exists.intro; refine ⟨fun _ => ?_, hK _ ?_⟩; (first | fail); clear hK K)))
              (refine mix_step (by kernel_rfl) (by kernel_rfl) (fun K hK => ?_); go_simp; (try (simp only [↓IntWalk.iteOmega]; go_simp)); (first | (refine hK _ ?_; clear hK K) | (apply Exists.intro; refine ⟨fun _ => ?_, hK _ ?_⟩; (first | fail); clear hK K)))
              (refine mix_step (by kernel_rfl) (by kernel_rfl) (fun K hK => ?_); go_simp; (try (simp only [↓IntWalk.iteOmega]; go_simp)); (first | (refine hK _ ?_; clear hK K) | (apply Exists.intro; refine ⟨fun _ => ?_, hK _ ?_⟩; (first | fail); clear hK K)))
              (refine mix_step (by kernel_rfl) (by kernel_rfl) (fun K hK => ?_); go_simp; (try (simp only [↓IntWalk.iteOmega]; go_simp)); (first | (refine hK _ ?_; clear hK K) | (apply Exists.intro; refine ⟨fun _ => ?_, hK _ ?_⟩; (first | fail); clear hK K)))
              (refine mix_step (by kernel_rfl) (by kernel_rfl) (fun K hK => ?_); go_simp; (try (simp only [↓IntWalk.iteOmega]; go_simp)); (first | (refine hK _ ?_; clear hK K) | (apply Exists.intro; refine ⟨fun _ => ?_, hK _ ?_⟩; (first | fail); clear hK K)))
              (refine mix_step (by kernel_rfl) (by kernel_rfl) (fun K hK => ?_); go_simp; (try (simp only [↓IntWalk.iteOmega]; go_simp)); (first | (refine hK _ ?_; clear hK K) | (apply Exists.intro; refine ⟨fun _ => ?_, hK _ ?_⟩; (first | fail); clear hK K)))
              (refine mix_step (by kernel_rfl) (by kernel_rfl) (fun K hK => ?_); go_simp; (try (simp only [↓IntWalk.iteOmega]; go_simp)); (first | (refine hK _ ?_; clear hK K) | (apply Exists.intro; refine ⟨fun _ => ?_, hK _ ?_⟩; (first | fail); clear hK K)))
              refine mix_nil ?_
              rintro ⟨dr, osr⟩
              have hb8 := below_regrown w2 dr osr
              refine (show wpList _ _ _ _ _ _ from ?_)
              simp only [List.drop, Act.put, List.setIfInBounds_toArray, List.set]
              go_wp2_with fail
              go_meet
              exact ⟨rfl, hb8⟩
          case rest =>
            obtain ⟨rfl, hb8⟩ := hcut
            generalize wc = w3 at *
            have HR3 := Lib.hid (range_later HR2.out hbl2 hb8)
            have HB3 := Lib.hid (HB2.out.kept hb8)
            have HOUT := Lib.hid (HOUT.out.later hb8)
            have hb3 := hb2.trans (hb8.mono hb2.size)
            have hbl3 : b < w3.heap.size := Nat.lt_of_lt_of_le hbl2 hb8.size
            have hbase : W.heap.size ≤ w3.heap.size := hb3.size
            clear HR2 HB2 hb2 hb8 HLS CL
            cases hq : (!dn && ls)
            · rw [hq] at HNEXT
              replace HNEXT : Hid (putF x (l.take (i + 1)) = (outs ++ [d], dn)) := HNEXT.out
              clear hq
              obtain ⟨la, lc, rfl, HO⟩ := HOUT.out
              have hbB : Below w3.heap.size w3 (w3.alloc (.cells #[.int .i64 d.v, .int .i64 d.port, .int .i64 d.age, .int .u8 (d.m.a.toNat : Int), .int .u8 (d.m.b.toNat : Int), .int .u8 (d.m.c.toNat : Int), .int .u8 (d.m.d.toNat : Int), .int .u8 (d.m.e.toNat : Int), .int .u8 (d.m.f.toNat : Int), .bool d.fixed] 51)) := (Below.refl _ w3).alloc (Nat.le_refl _) _
              have HO4 := Lib.hid (ownsLater' HO hbB)
              have RB : Hid (RowIs (w3.alloc (.cells #[.int .i64 d.v, .int .i64 d.port, .int .i64 d.age, .int .u8 (d.m.a.toNat : Int), .int .u8 (d.m.b.toNat : Int), .int .u8 (d.m.c.toNat : Int), .int .u8 (d.m.d.toNat : Int), .int .u8 (d.m.e.toNat : Int), .int .u8 (d.m.f.toNat : Int), .bool d.fixed] 51)) w3.heap.size 51 #[.int .i64 d.v, .int .i64 d.port, .int .i64 d.age, .int .u8 (d.m.a.toNat : Int), .int .u8 (d.m.b.toNat : Int), .int .u8 (d.m.c.toNat : Int), .int .u8 (d.m.d.toNat : Int), .int .u8 (d.m.e.toNat : Int), .int .u8 (d.m.f.toNat : Int), .bool d.fixed]) := rowIs_new w3 _ _
              have HOB := Lib.hid (Nat.le_trans hbase hbB.size)
              clear HO
              go_wp2_with (first
                | ((with_reducible refine at_load 51 (.tmp 49) ?_); refine wpList_load_midW rfl 51 (.tmp 49) rfl b (off + i * 10) rfl [.int .i64 d.v, .int .i64 d.port, .int .i64 d.age, .int .u8 (d.m.a.toNat : Int), .int .u8 (d.m.b.toNat : Int), .int .u8 (d.m.c.toNat : Int), .int .u8 (d.m.d.toNat : Int), .int .u8 (d.m.e.toNat : Int), .int .u8 (d.m.f.toNat : Int), .bool d.fixed] _ HR3.out Try.underlying51 rfl info_rentrys ?_)
                | (at_builtin; refine wpList_append_own _ rfl (.tmp 46) (.tmp 51) 47 rfl W.heap.size 51 ti tz 10 32 Try.underlying47 HI.out HZ.out hz1 hz2 hz3 (by decide) _ (outs).length _ rfl HO4.out ⟨w3.heap.size, 0, none⟩ 1 1 (encE d) rfl ?c0 ?c1 ?c2 ?c3 ?c4 ?c5 ?_))
              case c0 => rfl
              case c1 =>
                intro j u hj
                first | (rw [addr_add, RB.out.cell j, ← Array.getElem?_toList]; exact hj) | exact hj
              case c2 =>
                intro u hu
                simp only [encE, List.mem_cons, List.not_mem_nil, or_false] at hu
                rcases hu with rfl | rfl | rfl | rfl | rfl | rfl | rfl | rfl | rfl | rfl <;> rfl
              case c3 => simp [maxLen]; omega
              case c4 => omega
              case c5 => first | exact HOB.out | omega | (simp; omega)
              intro v5 w5 ho4 hg4 _
              have HO5 := Lib.hid (out_app ho4)
              have hbA5 : Below W.heap.size w3 w5 := (hbB.mono hbase).grown hg4 (Nat.le_trans hbase hbB.size) (fun k e1 => (HO4.out.lt k e1).1)
              clear ho4 hg4 HO4 RB hbB HOB
              have hb5 := hb3.trans hbA5
              have HO6 : Hid (OutAt w5 W.heap.size v5 (putF x (l.take (i + 1))).1) := by
                show OutAt _ _ _ _
                rw [HNEXT.out]
                exact HO5.out
              have HD6 := Lib.hid (show dn = (putF x (l.take (i + 1))).2 by rw [HNEXT.out])
              clear HO5 hbA5 HNEXT
              go_wp2_with fail
              refine ⟨⟨i + 1, by omega, by go_num, by rw [← HD6.out], HO6, hb5⟩, by simp [intOf]; omega⟩
            · rw [hq] at HNEXT
              replace HNEXT : Hid (putF x (l.take (i + 1)) = (outs ++ [x] ++ [d], true)) := HNEXT.out
              clear hq
              obtain ⟨la, lc, rfl, HO⟩ := HOUT.out
              have hbB : Below w3.heap.size w3 (w3.alloc (.cells #[.int .i64 x.v, .int .i64 x.port, .int .i64 x.age, .int .u8 (x.m.a.toNat : Int), .int .u8 (x.m.b.toNat : Int), .int .u8 (x.m.c.toNat : Int), .int .u8 (x.m.d.toNat : Int), .int .u8 (x.m.e.toNat : Int), .int .u8 (x.m.f.toNat : Int), .bool x.fixed] 51)) := (Below.refl _ w3).alloc (Nat.le_refl _) _
              have HO4 := Lib.hid (ownsLater' HO hbB)
              have RB : Hid (RowIs (w3.alloc (.cells #[.int .i64 x.v, .int .i64 x.port, .int .i64 x.age, .int .u8 (x.m.a.toNat : Int), .int .u8 (x.m.b.toNat : Int), .int .u8 (x.m.c.toNat : Int), .int .u8 (x.m.d.toNat : Int), .int .u8 (x.m.e.toNat : Int), .int .u8 (x.m.f.toNat : Int), .bool x.fixed] 51)) w3.heap.size 51 #[.int .i64 x.v, .int .i64 x.port, .int .i64 x.age, .int .u8 (x.m.a.toNat : Int), .int .u8 (x.m.b.toNat : Int), .int .u8 (x.m.c.toNat : Int), .int .u8 (x.m.d.toNat : Int), .int .u8 (x.m.e.toNat : Int), .int .u8 (x.m.f.toNat : Int), .bool x.fixed]) := rowIs_new w3 _ _
              have HOB := Lib.hid (Nat.le_trans hbase hbB.size)
              clear HO
              go_wp2_with (first
                | ((with_reducible refine at_load 51 (.tmp 3) ?_); refine wpList_load_own rfl 51 (.tmp 3) rfl _ rfl _ _ _ HB3.out Try.underlying51 rfl info_rentrys ?_)
                | (at_builtin; refine wpList_append_own _ rfl (.tmp 42) (.tmp 44) 47 rfl W.heap.size 51 ti tz 10 32 Try.underlying47 HI.out HZ.out hz1 hz2 hz3 (by decide) _ (outs).length _ rfl HO4.out ⟨w3.heap.size, 0, none⟩ 1 1 (encE x) rfl ?c0 ?c1 ?c2 ?c3 ?c4 ?c5 ?_))
              case c0 => rfl
              case c1 =>
                intro j u hj
                first | (rw [addr_add, RB.out.cell j, ← Array.getElem?_toList]; exact hj) | exact hj
              case c2 =>
                intro u hu
                simp only [encE, List.mem_cons, List.not_mem_nil, or_false] at hu
                rcases hu with rfl | rfl | rfl | rfl | rfl | rfl | rfl | rfl | rfl | rfl <;> rfl
              case c3 => simp [maxLen]; omega
              case c4 => omega
              case c5 => first | exact HOB.out | omega | (simp; omega)
              intro v5 w5 ho4 hg4 _
              have HO5 := Lib.hid (out_app ho4)
              have hbA5 : Below W.heap.size w3 w5 := (hbB.mono hbase).grown hg4 (Nat.le_trans hbase hbB.size) (fun k e1 => (HO4.out.lt k e1).1)
              clear ho4 hg4 HO4 RB hbB HOB
              have hb5 := hb3.trans hbA5
              have hbase5 : W.heap.size ≤ w5.heap.size := hb5.size
              have hkl5 : (outs ++ [x]).length ≤ 1002 := by simp; omega
              generalize outs ++ [x] = o2 at *
              have HR5 := Lib.hid (show w5.rangeAt b (off + i * 10) [.int .i64 d.v, .int .i64 d.port, .int .i64 d.age, .int .u8 (d.m.a.toNat : Int), .int .u8 (d.m.b.toNat : Int), .int .u8 (d.m.c.toNat : Int), .int .u8 (d.m.d.toNat : Int), .int .u8 (d.m.e.toNat : Int), .int .u8 (d.m.f.toNat : Int), .bool d.fixed] from range_later HRW.out hblw (hbW.trans (hb5.mono hbW.size)))
              clear HR3 HB3 hbA5 hb3
              obtain ⟨la, lc, rfl, HO⟩ := HO5.out
              have hbB : Below w5.heap.size w5 (w5.alloc (.cells #[.int .i64 d.v, .int .i64 d.port, .int .i64 d.age, .int .u8 (d.m.a.toNat : Int), .int .u8 (d.m.b.toNat : Int), .int .u8 (d.m.c.toNat : Int), .int .u8 (d.m.d.toNat : Int), .int .u8 (d.m.e.toNat : Int), .int .u8 (d.m.f.toNat : Int), .bool d.fixed] 51)) := (Below.refl _ w5).alloc (Nat.le_refl _) _
              have HO4 := Lib.hid (ownsLater' HO hbB)
              have RB : Hid (RowIs (w5.alloc (.cells #[.int .i64 d.v, .int .i64 d.port, .int .i64 d.age, .int .u8 (d.m.a.toNat : Int), .int .u8 (d.m.b.toNat : Int), .int .u8 (d.m.c.toNat : Int), .int .u8 (d.m.d.toNat : Int), .int .u8 (d.m.e.toNat : Int), .int .u8 (d.m.f.toNat : Int), .bool d.fixed] 51)) w5.heap.size 51 #[.int .i64 d.v, .int .i64 d.port, .int .i64 d.age, .int .u8 (d.m.a.toNat : Int), .int .u8 (d.m.b.toNat : Int), .int .u8 (d.m.c.toNat : Int), .int .u8 (d.m.d.toNat : Int), .int .u8 (d.m.e.toNat : Int), .int .u8 (d.m.f.toNat : Int), .bool d.fixed]) := rowIs_new w5 _ _
              have HOB := Lib.hid (Nat.le_trans hbase5 hbB.size)
              clear HO
              go_wp2_with (first
                | ((with_reducible refine at_load 51 (.tmp 49) ?_); refine wpList_load_midW rfl 51 (.tmp 49) rfl b (off + i * 10) rfl [.int .i64 d.v, .int .i64 d.port, .int .i64 d.age, .int .u8 (d.m.a.toNat : Int), .int .u8 (d.m.b.toNat : Int), .int .u8 (d.m.c.toNat : Int), .int .u8 (d.m.d.toNat : Int), .int .u8 (d.m.e.toNat : Int), .int .u8 (d.m.f.toNat : Int), .bool d.fixed] _ HR5.out Try.underlying51 rfl info_rentrys ?_)
                | (at_builtin; refine wpList_append_own _ rfl (.tmp 46) (.tmp 51) 47 rfl W.heap.size 51 ti tz 10 32 Try.underlying47 HI.out HZ.out hz1 hz2 hz3 (by decide) _ (o2).length _ rfl HO4.out ⟨w5.heap.size, 0, none⟩ 1 1 (encE d) rfl ?c0 ?c1 ?c2 ?c3 ?c4 ?c5 ?_))
              case c0 => rfl
              case c1 =>
                intro j u hj
                first | (rw [addr_add, RB.out.cell j, ← Array.getElem?_toList]; exact hj) | exact hj
              case c2 =>
                intro u hu
                simp only [encE, List.mem_cons, List.not_mem_nil, or_false] at hu
                rcases hu with rfl | rfl | rfl | rfl | rfl | rfl | rfl | rfl | rfl | rfl <;> rfl
              case c3 => simp [maxLen]; omega
              case c4 => omega
              case c5 => first | exact HOB.out | omega | (simp; omega)
              intro v6 w6 ho4 hg4 _
              have HO6 := Lib.hid (out_app ho4)
              have hbA6 : Below W.heap.size w5 w6 := (hbB.mono hbase5).grown hg4 (Nat.le_trans hbase5 hbB.size) (fun k e1 => (HO4.out.lt k e1).1)
              clear ho4 hg4 HO4 RB hbB HOB
              have hb6 := hb5.trans hbA6
              have HO7 : Hid (OutAt w6 W.heap.size v6 (putF x (l.take (i + 1))).1) := by
                show OutAt _ _ _ _
                rw [HNEXT.out]
                exact HO6.out
              have HD6 := Lib.hid (show true = (putF x (l.take (i + 1))).2 by rw [HNEXT.out])
              clear HO6 hbA6 HNEXT
              go_wp2_with fail
              refine ⟨⟨i + 1, by omega, by go_num, by rw [← HD6.out], HO7, hb6⟩, by simp [intOf]; omega⟩
        · replace HNEXT : Hid (putF x (l.take (i + 1)) = (outs, dn)) := HNEXT.out
          have HE6 := Lib.hid (show outs = (putF x (l.take (i + 1))).1 by rw [HNEXT.out])
          have HO6 := HOUT
          rw [HE6.out] at HO6
          have HD6 := Lib.hid (show dn = (putF x (l.take (i + 1))).2 by rw [HNEXT.out])
          clear HNEXT HOUT HE6
          go_wp2_with fail
          refine ⟨⟨i + 1, by omega, by go_num, by rw [← HD6.out], HO6, hb2⟩, by simp [intOf]; omega⟩
    · obtain rfl : i = l.length := by omega
      rw [List.take_length] at HOUT hkl ⊢
      have HP := Lib.hid (show putL l x = if (putF x l).2 = true then (putF x l).1 else (putF x l).1 ++ [x] from rfl)
      have HB2 := Lib.hid (HB.out.kept hbR)
      generalize hE : putL l x = res at *
      have HE := Lib.hid hE
      clear hE
      generalize putF x l = st at *
      obtain ⟨outs, dn⟩ := st
      simp only at HP HOUT hkl
      have hbase : W.heap.size ≤ wr.heap.size := hbR.size
      cases dn
      · replace HP : Hid (res = outs ++ [x]) := HP.out
        obtain ⟨la, lc, rfl, HO⟩ := HOUT.out
        have hbB : Below wr.heap.size wr (wr.alloc (.cells #[.int .i64 x.v, .int .i64 x.port, .int .i64 x.age, .int .u8 (x.m.a.toNat : Int), .int .u8 (x.m.b.toNat : Int), .int .u8 (x.m.c.toNat : Int), .int .u8 (x.m.d.toNat : Int), .int .u8 (x.m.e.toNat : Int), .int .u8 (x.m.f.toNat : Int), .bool x.fixed] 51)) := (Below.refl _ wr).alloc (Nat.le_refl _) _
        have HO4 := Lib.hid (ownsLater' HO hbB)
        have RB : Hid (RowIs (wr.alloc (.cells #[.int .i64 x.v, .int .i64 x.port, .int .i64 x.age, .int .u8 (x.m.a.toNat : Int), .int .u8 (x.m.b.toNat : Int), .int .u8 (x.m.c.toNat : Int), .int .u8 (x.m.d.toNat : Int), .int .u8 (x.m.e.toNat : Int), .int .u8 (x.m.f.toNat : Int), .bool x.fixed] 51)) wr.heap.size 51 #[.int .i64 x.v, .int .i64 x.port, .int .i64 x.age, .int .u8 (x.m.a.toNat : Int), .int .u8 (x.m.b.toNat : Int), .int .u8 (x.m.c.toNat : Int), .int .u8 (x.m.d.toNat : Int), .int .u8 (x.m.e.toNat : Int), .int .u8 (x.m.f.toNat : Int), .bool x.fixed]) := rowIs_new wr _ _
        have HOB := Lib.hid (Nat.le_trans hbase hbB.size)
        clear HO
        go_wp2_with (first
          | ((with_reducible refine at_load 51 (.tmp 3) ?_); refine wpList_load_own rfl 51 (.tmp 3) rfl _ rfl _ _ _ HB2.out Try.underlying51 rfl info_rentrys ?_)
          | (at_builtin; refine wpList_append_own _ rfl (.tmp 55) (.tmp 57) 47 rfl W.heap.size 51 ti tz 10 32 Try.underlying47 HI.out HZ.out hz1 hz2 hz3 (by decide) _ (outs).length _ rfl HO4.out ⟨wr.heap.size, 0, none⟩ 1 1 (encE x) rfl ?c0 ?c1 ?c2 ?c3 ?c4 ?c5 ?_))
        case c0 => rfl
        case c1 =>
          intro j u hj
          first | (rw [addr_add, RB.out.cell j, ← Array.getElem?_toList]; exact hj) | exact hj
        case c2 =>
          intro u hu
          simp only [encE, List.mem_cons, List.not_mem_nil, or_false] at hu
          rcases hu with rfl | rfl | rfl | rfl | rfl | rfl | rfl | rfl | rfl | rfl <;> rfl
        case c3 => simp [maxLen]; omega
        case c4 => omega
        case c5 => first | exact HOB.out | omega | (simp; omega)
        intro v5 w5 ho4 hg4 _
        have HO5 := Lib.hid (out_app ho4)
        have hbA5 : Below W.heap.size wr w5 := (hbB.mono hbase).grown hg4 (Nat.le_trans hbase hbB.size) (fun k e1 => (HO4.out.lt k e1).1)
        clear ho4 hg4 HO4 RB hbB HOB
        have hb5 := (hbW.trans (hbR.mono hbW.size)).trans (hbA5.mono hbW.size)
        obtain ⟨ao', cap', rfl, hM⟩ := out_many HO5.out
        have HM : Hid (ManyAt w5 ao' encE 10 res) := by rw [HP.out]; exact hM
        have HLN := Lib.hid (show (outs ++ [x]).length = res.length by rw [HP.out])
        rw [HLN.out]
        clear hM HO5 hbA5
        go_wp2_with fail
        go_ret
        rw [HE.out]
        exact ⟨ao', cap', rfl, HM.out, hb5⟩
      · replace HP : Hid (res = outs) := HP.out
        obtain ⟨ao', cap', rfl, hM⟩ := out_many HOUT.out
        have HM : Hid (ManyAt wr ao' encE 10 res) := by rw [HP.out]; exact hM
        have HLN := Lib.hid (show outs.length = res.length by rw [HP.out])
        rw [HLN.out]
        have hb5 := (hbW.trans (hbR.mono hbW.size))
        clear hM HOUT
        go_wp2_with fail
        go_ret
        rw [HE.out]
        exact ⟨ao', cap', rfl, HM.out, hb5⟩
end Go.Proofs.Ytcdklbhfcfamnaa
