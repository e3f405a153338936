/- causeyref23.Print. By an AI agent. -/
import Derived.Test.YthfckdnennfnoaaGreatDoorConfPb
import Derived.Test.YthfckdnennfnoaaGreatDoorConfPa
import Derived.Test.YthfckdnennfnoaaGreatDoorConfPc
import Derived.Test.YthfckdnennfnoaaGreatDoorRows
import Derived.Test.YthfckdnennfnoaaGreatDoorOpen
import Derived.Deep.Slices
import Derived.ChangeMaps
import Derived.Lib.SmallJoins
namespace Go.Proofs.YthfckdnennfnoaaGreatDoor
open Go.RowKit Go.WideShapes Go.Sort Grow

namespace Cf
def tagsTo (ts : List Nat) (j : Nat) : List UInt8 := Lib.join ((ts.take j).map dec) [44]
theorem tagsTo_first {ts : List Nat} (h : 0 < ts.length) : tagsTo ts 1 = dec ts[0] := by
  unfold tagsTo
  rw [List.take_succ_eq_append_getElem h]
  exact Lib.join_one _ _
theorem tagsTo_next {ts : List Nat} {j : Nat} (h : j < ts.length) (h0 : 0 < j) : tagsTo ts (j + 1) = tagsTo ts j ++ [44] ++ dec ts[j] := by
  cases ts with
  | nil => simp at h
  | cons a l =>
    obtain ⟨i, rfl⟩ : ∃ i, j = i + 1 := ⟨j - 1, by omega⟩
    unfold tagsTo
    rw [List.take_succ_cons, List.take_succ_cons, List.map_cons, List.map_cons, Lib.join_cons, Lib.join_cons]
    have hi : i < l.length := by simpa using h
    have e := Lib.joinTail_take_succ [44] (l.map dec) i (dec l[i]) (by rw [List.getElem?_map, List.getElem?_eq_getElem hi]; rfl)
    rw [← List.map_take, ← List.map_take] at e
    rw [e]
    simp
theorem tagsTo_len (ts : List Nat) (h : ∀ n ∈ ts, n < 9223372036854775808) (j : Nat) : (tagsTo ts j).length ≤ 22 * j := by
  unfold tagsTo
  have := join_le (ts.take j) [44] rfl (fun n hn => h n (List.mem_of_mem_take hn))
  rw [List.length_take] at this
  omega
theorem tagsTo_all (ts : List Nat) (h : 0 < ts.length) : tagsTo ts ts.length = tagText ts := by
  unfold tagsTo tagText
  rw [List.take_length, if_neg]
  rintro rfl
  simp at h
theorem ints_at {ts : List Nat} {w : World} {ta : Option Addr} (h : IntsAt w ta (ints ts)) {j : Nat} (hj : j < ts.length) : ∃ b off, ta = some ⟨b, off, none⟩ ∧ w.cell? ⟨b, off + j, none⟩ = some (.int .i64 ((ts[j] : Nat) : Int)) := by
  rcases h with h | ⟨b, off, e, hc⟩
  · have := congrArg List.length h
    rw [ints_len, List.length_nil] at this
    omega
  · refine ⟨b, off, e, ?_⟩
    have := hc j (by rw [ints_len]; exact hj)
    rw [this]
    unfold ints
    rw [List.getD_eq_getElem?_getD, List.getElem?_map, List.getElem?_eq_getElem hj]
    rfl
end Cf

set_option maxRecDepth 20000 in
set_option maxHeartbeats 8000000 in
theorem rprint_any (x : Id8) (b : Cf.Br) (hx : b.id = x.l) (hb : Cf.smallB b) (bk off cap : Nat) (psv : List (Cf.Pt × Value)) (w : World) (ao : Option Addr) (hao : ao = some ⟨bk, off, none⟩ ∨ psv.map Cf.pvT = []) (hL : Cf.PIn w bk off (psv.map Cf.pvT)) (hn : psv.length ≤ 10000) (hps : ∀ p ∈ psv.map Prod.fst, p.psk.length = 32 ∧ Cf.small p) :
    Calls Tryz.prog 13 #[.agg #[.int .u8 ((x.f 0).toNat : Int), .int .u8 ((x.f 1).toNat : Int), .int .u8 ((x.f 2).toNat : Int), .int .u8 ((x.f 3).toNat : Int), .int .u8 ((x.f 4).toNat : Int), .int .u8 ((x.f 5).toNat : Int), .int .u8 ((x.f 6).toNat : Int), .int .u8 ((x.f 7).toNat : Int), .int .i64 b.maxAge, .int .i64 b.hello, .int .i64 b.delay, .int .i64 b.ageing, .slice ao psv.length cap]] w fun e w' => e = .returned (.string ⟨(Cf.confText b (psv.map Prod.fst)).toArray⟩) ∧ Below w.heap.size w w' := by
  have HLL := Lib.hid hL
  have HPS := Lib.hid hps
  have HSZ := Lib.hid (Cf.soFar_size hb (by rw [hx]; rfl) hps)
  have HALL := Lib.hid (Cf.soFar_all b (psv.map Prod.fst))
  rw [List.length_map] at HALL HSZ
  obtain ⟨hb1, hb2, hb3, hb4⟩ := hb
  have hbl : b.id.length = 8 := by rw [hx]; rfl
  clear hL hps
  obtain ⟨dma, hdma⟩ : ∃ s, (⟨(Cf.dec b.maxAge).toArray⟩ : ByteArray) = s := ⟨_, rfl⟩
  have hzma : dma.size ≤ 21 := by rw [← hdma]; exact Cf.dec_size _ (by omega)
  have HDma := Lib.hid (fun w => rdec_any b.maxAge (by omega) w)
  rw [hdma] at HDma
  obtain ⟨dhe, hdhe⟩ : ∃ s, (⟨(Cf.dec b.hello).toArray⟩ : ByteArray) = s := ⟨_, rfl⟩
  have hzhe : dhe.size ≤ 21 := by rw [← hdhe]; exact Cf.dec_size _ (by omega)
  have HDhe := Lib.hid (fun w => rdec_any b.hello (by omega) w)
  rw [hdhe] at HDhe
  obtain ⟨dde, hdde⟩ : ∃ s, (⟨(Cf.dec b.delay).toArray⟩ : ByteArray) = s := ⟨_, rfl⟩
  have hzde : dde.size ≤ 21 := by rw [← hdde]; exact Cf.dec_size _ (by omega)
  have HDde := Lib.hid (fun w => rdec_any b.delay (by omega) w)
  rw [hdde] at HDde
  obtain ⟨dag, hdag⟩ : ∃ s, (⟨(Cf.dec b.ageing).toArray⟩ : ByteArray) = s := ⟨_, rfl⟩
  have hzag : dag.size ≤ 21 := by rw [← hdag]; exact Cf.dec_size _ (by omega)
  have HDag := Lib.hid (fun w => rdec_any b.ageing (by omega) w)
  rw [hdag] at HDag
  obtain ⟨ids, hids⟩ : ∃ s, (⟨b.id.toArray⟩ : ByteArray) = s := ⟨_, rfl⟩
  have HHX := Lib.hid (fun w => rhex_any ids (by rw [← hids]; show b.id.toArray.size ≤ 1000; rw [List.size_toArray, hbl]; decide) w)
  obtain ⟨hxs, hhxs⟩ : ∃ s, (⟨(Cf.hexOf ids.data.toList).toArray⟩ : ByteArray) = s := ⟨_, rfl⟩
  have hxz : hxs.size = 16 := by
    rw [← hhxs, Cf.hex_size, ← hids]
    show 2 * b.id.toArray.toList.length = 16
    simp [hbl]
  rw [hhxs] at HHX
  have HBT : Hid (Cf.soFar b (psv.map Prod.fst) 0 = ⟨#[98, 114, 105, 100, 103, 101, 32]⟩ ++ hxs ++ ⟨#[32]⟩ ++ dma ++ ⟨#[32]⟩ ++ dhe ++ ⟨#[32]⟩ ++ dde ++ ⟨#[32]⟩ ++ dag ++ ⟨#[10]⟩) := by
    show _ = _
    rw [Cf.br_text, ← hhxs, ← hids, ← hdma, ← hdhe, ← hdde, ← hdag]
    exact Cf.text_inj (by simp [Lib.join_cons, Lib.joinTail])
  go_enter Tryz.func13, Tryz.ntmps13
  go_upto_region 1 with fail
  have HX : Hid (RowIs (w.alloc (.cells #[.int .u8 ((x.f 0).toNat : Int), .int .u8 ((x.f 1).toNat : Int), .int .u8 ((x.f 2).toNat : Int), .int .u8 ((x.f 3).toNat : Int), .int .u8 ((x.f 4).toNat : Int), .int .u8 ((x.f 5).toNat : Int), .int .u8 ((x.f 6).toNat : Int), .int .u8 ((x.f 7).toNat : Int), .int .i64 b.maxAge, .int .i64 b.hello, .int .i64 b.delay, .int .i64 b.ageing, .slice ao psv.length cap] 25)) w.heap.size 25 #[.int .u8 ((x.f 0).toNat : Int), .int .u8 ((x.f 1).toNat : Int), .int .u8 ((x.f 2).toNat : Int), .int .u8 ((x.f 3).toNat : Int), .int .u8 ((x.f 4).toNat : Int), .int .u8 ((x.f 5).toNat : Int), .int .u8 ((x.f 6).toNat : Int), .int .u8 ((x.f 7).toNat : Int), .int .i64 b.maxAge, .int .i64 b.hello, .int .i64 b.delay, .int .i64 b.ageing, .slice ao psv.length cap]) := by show RowIs _ _ _ _; exact rowIs_new w _ _
  have hbx : Below w.heap.size w (w.alloc (.cells #[.int .u8 ((x.f 0).toNat : Int), .int .u8 ((x.f 1).toNat : Int), .int .u8 ((x.f 2).toNat : Int), .int .u8 ((x.f 3).toNat : Int), .int .u8 ((x.f 4).toNat : Int), .int .u8 ((x.f 5).toNat : Int), .int .u8 ((x.f 6).toNat : Int), .int .u8 ((x.f 7).toNat : Int), .int .i64 b.maxAge, .int .i64 b.hello, .int .i64 b.delay, .int .i64 b.ageing, .slice ao psv.length cap] 25)) := (Below.refl _ _).alloc (Nat.le_refl _) _
  have hbz : w.heap.size < (w.alloc (.cells #[.int .u8 ((x.f 0).toNat : Int), .int .u8 ((x.f 1).toNat : Int), .int .u8 ((x.f 2).toNat : Int), .int .u8 ((x.f 3).toNat : Int), .int .u8 ((x.f 4).toNat : Int), .int .u8 ((x.f 5).toNat : Int), .int .u8 ((x.f 6).toNat : Int), .int .u8 ((x.f 7).toNat : Int), .int .i64 b.maxAge, .int .i64 b.hello, .int .i64 b.delay, .int .i64 b.ageing, .slice ao psv.length cap] 25)).heap.size := by simp
  generalize w.alloc (.cells #[.int .u8 ((x.f 0).toNat : Int), .int .u8 ((x.f 1).toNat : Int), .int .u8 ((x.f 2).toNat : Int), .int .u8 ((x.f 3).toNat : Int), .int .u8 ((x.f 4).toNat : Int), .int .u8 ((x.f 5).toNat : Int), .int .u8 ((x.f 6).toNat : Int), .int .u8 ((x.f 7).toNat : Int), .int .i64 b.maxAge, .int .i64 b.hello, .int .i64 b.delay, .int .i64 b.ageing, .slice ao psv.length cap] 25) = w1 at *
  have sI := fun (p : Regrown) => run_string_at Tryz.underlying64 Tryz.underlying5 Tryz.underlying9 (grow (redrawn w1 p.d) p.os) b.id 8 w.heap.size 0 8 hbl (fun i hi => cell_regrown (by
    have h8 : i < 8 := by rw [hx] at hi; exact hi
    rw [HX.out.cell (0 + i), Nat.zero_add]
    simp only [hx]
    match i, h8 with
    | 0, _ => rfl
    | 1, _ => rfl
    | 2, _ => rfl
    | 3, _ => rfl
    | 4, _ => rfl
    | 5, _ => rfl
    | 6, _ => rfl
    | 7, _ => rfl) p.d p.os)
  rw [hids] at sI
  have q8 : w1.cell? ⟨w.heap.size, 8, none⟩ = some (.int .i64 b.maxAge) := HX.out.cell 8
  have q9 : w1.cell? ⟨w.heap.size, 9, none⟩ = some (.int .i64 b.hello) := HX.out.cell 9
  have q10 : w1.cell? ⟨w.heap.size, 10, none⟩ = some (.int .i64 b.delay) := HX.out.cell 10
  have q11 : w1.cell? ⟨w.heap.size, 11, none⟩ = some (.int .i64 b.ageing) := HX.out.cell 11
  have k8 := cell_regrown q8
  have k9 := cell_regrown q9
  have k10 := cell_regrown q10
  have k11 := cell_regrown q11
  clear hdma hdhe hdde hdag hids hhxs q8 q9 q10 q11
  refine wp_region_mix 26 (by kernel_rfl) (by kernel_rfl) (by kernel_rfl) ?_
  (refine mix_step (by kernel_rfl) (by kernel_rfl) (fun K hK => ?_); go_simp; (try (simp only [↓IntWalk.iteOmega]; go_simp)); (first | (refine hK _ ?_; clear hK K) | (apply Exists.intro; refine ⟨fun _ => ?_, hK _ ?_⟩; (first | fail); clear hK K)))
  (refine mix_step (by kernel_rfl) (by kernel_rfl) (fun K hK => ?_); go_simp; (try (simp only [↓IntWalk.iteOmega]; go_simp)); (first | (refine hK _ ?_; clear hK K) | (apply Exists.intro; refine ⟨fun _ => ?_, hK _ ?_⟩; (first | fail); clear hK K)))
  (refine mix_step (by kernel_rfl) (by kernel_rfl) (fun K hK => ?_); go_simp; (try (simp only [↓IntWalk.iteOmega]; go_simp)); (first | (refine hK _ ?_; clear hK K) | (apply Exists.intro; refine ⟨fun _ => ?_, hK _ ?_⟩; (first | fail); clear hK K)))
  (refine mix_step (by kernel_rfl) (by kernel_rfl) (fun K hK => ?_); go_simp; (try (simp only [↓IntWalk.iteOmega]; go_simp)); (first | (refine hK _ ?_; clear hK K) | (apply Exists.intro; refine ⟨fun _ => ?_, hK _ ?_⟩; (first | exact HHX.out _); clear hK K)))
  (refine mix_step (by kernel_rfl) (by kernel_rfl) (fun K hK => ?_); go_simp; (try (simp only [↓IntWalk.iteOmega]; go_simp)); (first | (refine hK _ ?_; clear hK K) | (apply Exists.intro; refine ⟨fun _ => ?_, hK _ ?_⟩; (first | fail); clear hK K)))
  (refine mix_step (by kernel_rfl) (by kernel_rfl) (fun K hK => ?_); go_simp; (try (simp only [↓IntWalk.iteOmega]; go_simp)); (first | (refine hK _ ?_; clear hK K) | (apply Exists.intro; refine ⟨fun _ => ?_, hK _ ?_⟩; (first | fail); clear hK K)))
  (refine mix_step (by kernel_rfl) (by kernel_rfl) (fun K hK => ?_); go_simp; (try (simp only [↓IntWalk.iteOmega]; go_simp)); (first | (refine hK _ ?_; clear hK K) | (apply Exists.intro; refine ⟨fun _ => ?_, hK _ ?_⟩; (first | fail); clear hK K)))
  (refine mix_step (by kernel_rfl) (by kernel_rfl) (fun K hK => ?_); go_simp; (try (simp only [↓IntWalk.iteOmega]; go_simp)); (first | (refine hK _ ?_; clear hK K) | (apply Exists.intro; refine ⟨fun _ => ?_, hK _ ?_⟩; (first | fail); clear hK K)))
  (refine mix_step (by kernel_rfl) (by kernel_rfl) (fun K hK => ?_); go_simp; (try (simp only [↓IntWalk.iteOmega]; go_simp)); (first | (refine hK _ ?_; clear hK K) | (apply Exists.intro; refine ⟨fun _ => ?_, hK _ ?_⟩; (first | exact HDma.out _); clear hK K)))
  (refine mix_step (by kernel_rfl) (by kernel_rfl) (fun K hK => ?_); go_simp; (try (simp only [↓IntWalk.iteOmega]; go_simp)); (first | (refine hK _ ?_; clear hK K) | (apply Exists.intro; refine ⟨fun _ => ?_, hK _ ?_⟩; (first | fail); clear hK K)))
  (refine mix_step (by kernel_rfl) (by kernel_rfl) (fun K hK => ?_); go_simp; (try (simp only [↓IntWalk.iteOmega]; go_simp)); (first | (refine hK _ ?_; clear hK K) | (apply Exists.intro; refine ⟨fun _ => ?_, hK _ ?_⟩; (first | fail); clear hK K)))
  (refine mix_step (by kernel_rfl) (by kernel_rfl) (fun K hK => ?_); go_simp; (try (simp only [↓IntWalk.iteOmega]; go_simp)); (first | (refine hK _ ?_; clear hK K) | (apply Exists.intro; refine ⟨fun _ => ?_, hK _ ?_⟩; (first | fail); clear hK K)))
  (refine mix_step (by kernel_rfl) (by kernel_rfl) (fun K hK => ?_); go_simp; (try (simp only [↓IntWalk.iteOmega]; go_simp)); (first | (refine hK _ ?_; clear hK K) | (apply Exists.intro; refine ⟨fun _ => ?_, hK _ ?_⟩; (first | fail); clear hK K)))
  (refine mix_step (by kernel_rfl) (by kernel_rfl) (fun K hK => ?_); go_simp; (try (simp only [↓IntWalk.iteOmega]; go_simp)); (first | (refine hK _ ?_; clear hK K) | (apply Exists.intro; refine ⟨fun _ => ?_, hK _ ?_⟩; (first | exact HDhe.out _); clear hK K)))
  (refine mix_step (by kernel_rfl) (by kernel_rfl) (fun K hK => ?_); go_simp; (try (simp only [↓IntWalk.iteOmega]; go_simp)); (first | (refine hK _ ?_; clear hK K) | (apply Exists.intro; refine ⟨fun _ => ?_, hK _ ?_⟩; (first | fail); clear hK K)))
  (refine mix_step (by kernel_rfl) (by kernel_rfl) (fun K hK => ?_); go_simp; (try (simp only [↓IntWalk.iteOmega]; go_simp)); (first | (refine hK _ ?_; clear hK K) | (apply Exists.intro; refine ⟨fun _ => ?_, hK _ ?_⟩; (first | fail); clear hK K)))
  (refine mix_step (by kernel_rfl) (by kernel_rfl) (fun K hK => ?_); go_simp; (try (simp only [↓IntWalk.iteOmega]; go_simp)); (first | (refine hK _ ?_; clear hK K) | (apply Exists.intro; refine ⟨fun _ => ?_, hK _ ?_⟩; (first | fail); clear hK K)))
  (refine mix_step (by kernel_rfl) (by kernel_rfl) (fun K hK => ?_); go_simp; (try (simp only [↓IntWalk.iteOmega]; go_simp)); (first | (refine hK _ ?_; clear hK K) | (apply Exists.intro; refine ⟨fun _ => ?_, hK _ ?_⟩; (first | fail); clear hK K)))
  (refine mix_step (by kernel_rfl) (by kernel_rfl) (fun K hK => ?_); go_simp; (try (simp only [↓IntWalk.iteOmega]; go_simp)); (first | (refine hK _ ?_; clear hK K) | (apply Exists.intro; refine ⟨fun _ => ?_, hK _ ?_⟩; (first | exact HDde.out _); clear hK K)))
  (refine mix_step (by kernel_rfl) (by kernel_rfl) (fun K hK => ?_); go_simp; (try (simp only [↓IntWalk.iteOmega]; go_simp)); (first | (refine hK _ ?_; clear hK K) | (apply Exists.intro; refine ⟨fun _ => ?_, hK _ ?_⟩; (first | fail); clear hK K)))
  (refine mix_step (by kernel_rfl) (by kernel_rfl) (fun K hK => ?_); go_simp; (try (simp only [↓IntWalk.iteOmega]; go_simp)); (first | (refine hK _ ?_; clear hK K) | (apply Exists.intro; refine ⟨fun _ => ?_, hK _ ?_⟩; (first | fail); clear hK K)))
  (refine mix_step (by kernel_rfl) (by kernel_rfl) (fun K hK => ?_); go_simp; (try (simp only [↓IntWalk.iteOmega]; go_simp)); (first | (refine hK _ ?_; clear hK K) | (apply Exists.intro; refine ⟨fun _ => ?_, hK _ ?_⟩; (first | fail); clear hK K)))
  (refine mix_step (by kernel_rfl) (by kernel_rfl) (fun K hK => ?_); go_simp; (try (simp only [↓IntWalk.iteOmega]; go_simp)); (first | (refine hK _ ?_; clear hK K) | (apply Exists.intro; refine ⟨fun _ => ?_, hK _ ?_⟩; (first | fail); clear hK K)))
  (refine mix_step (by kernel_rfl) (by kernel_rfl) (fun K hK => ?_); go_simp; (try (simp only [↓IntWalk.iteOmega]; go_simp)); (first | (refine hK _ ?_; clear hK K) | (apply Exists.intro; refine ⟨fun _ => ?_, hK _ ?_⟩; (first | exact HDag.out _); clear hK K)))
  (refine mix_step (by kernel_rfl) (by kernel_rfl) (fun K hK => ?_); go_simp; (try (simp only [↓IntWalk.iteOmega]; go_simp)); (first | (refine hK _ ?_; clear hK K) | (apply Exists.intro; refine ⟨fun _ => ?_, hK _ ?_⟩; (first | fail); clear hK K)))
  (refine mix_step (by kernel_rfl) (by kernel_rfl) (fun K hK => ?_); go_simp; (try (simp only [↓IntWalk.iteOmega]; go_simp)); (first | (refine hK _ ?_; clear hK K) | (apply Exists.intro; refine ⟨fun _ => ?_, hK _ ?_⟩; (first | fail); clear hK K)))
  refine mix_nil ?_
  rintro ⟨dq, osq⟩
  have hbq := below_regrown w1 dq osq
  have HBX := Lib.hid hbx
  have hbW := hbx.trans (hbq.mono hbx.size)
  have HX3 := Lib.hid (HX.out.kept hbq)
  refine (show wpList _ _ _ _ _ _ from ?_)
  simp only [List.drop, Act.put, List.setIfInBounds_toArray, List.set]
  have hz3 : w.heap.size < (grow (redrawn w1 dq) osq).heap.size := Nat.lt_of_lt_of_le hbz hbq.size
  clear hbq k8 k9 k10 k11 HX hbz sI HHX HBX hbx
  generalize grow (redrawn w1 dq) osq = w3 at *
  rw [← HBT.out]
  clear HBT
  go_upto_region 3 with fail
  have HBW := Lib.hid hbW
  have HX := HX3
  clear HX3 hbW
  go_loopw [3, 4] (fun v3 i wr => ∃ k : Nat, k ≤ psv.length ∧ i = .int .i64 k ∧ v3 = .string (Cf.soFar b (psv.map Prod.fst) k) ∧ Hid (RowIs wr w.heap.size 25 #[.int .u8 ((x.f 0).toNat : Int), .int .u8 ((x.f 1).toNat : Int), .int .u8 ((x.f 2).toNat : Int), .int .u8 ((x.f 3).toNat : Int), .int .u8 ((x.f 4).toNat : Int), .int .u8 ((x.f 5).toNat : Int), .int .u8 ((x.f 6).toNat : Int), .int .u8 ((x.f 7).toNat : Int), .int .i64 b.maxAge, .int .i64 b.hello, .int .i64 b.delay, .int .i64 b.ageing, .slice ao psv.length cap]) ∧ Hid (Below w.heap.size w wr) ∧ w.heap.size < wr.heap.size) (fun _ i _ => psv.length - (RowKit.intOf i).toNat)
  case atStart => exact ⟨0, Nat.zero_le _, rfl, rfl, HX, HBW, hz3⟩
  case round =>
    rename World => wr
    clear HX HBW hz3
    obtain ⟨k, hk, rfl, rfl, HX, HBR, hwz⟩ := hrel
    have hss := HSZ.out k hk
    have d12 : wr.cell? ⟨w.heap.size, 12, none⟩ = some (.slice ao psv.length cap) := HX.out.cell 12
    by_cases hlt : k < psv.length
    · obtain rfl : ao = some ⟨bk, off, none⟩ := hao.resolve_right (fun e => by have := congrArg List.length e; rw [List.length_map, List.length_nil] at this; omega)
      have HLr := HLL.out.after HBR.out
      have hlm : k < (psv.map Cf.pvT).length := by rw [List.length_map]; exact hlt
      have HE := Lib.hid (HLr.1 k hlm)
      have hpin := Cf.pv_in hlm
      have hin := HLr.2.2 _ hpin
      obtain ⟨ta, tc, hform⟩ := Cf.pvT_form psv[k]
      have hgd : (psv.map Cf.pvT).getD k .zero = Cf.pvT psv[k] := by
        rw [List.getD_eq_getElem?_getD, List.getElem?_map, List.getElem?_eq_getElem hlt]
        rfl
      have hpt := HPS.out psv[k].1 (List.mem_map.2 ⟨psv[k], List.getElem_mem hlt, rfl⟩)
      have hnx := Cf.soFar_next (b := b) (ps := psv.map Prod.fst) (k := k) (by rw [List.length_map]; exact hlt)
      rw [List.getElem_map] at hnx
      rw [hgd] at HE hin
      have hii : IntsAt wr ta (Cf.ints psv[k].1.tags) := by have := hin.1; rw [hform] at this; exact this
      have hfc := Cf.pvc_form psv[k].1 ta tc
      rw [← hform] at hfc
      have hpl := hin.2.2
      have hpl2 := hpt.1
      obtain ⟨sm1, sm2, sm3, sm4, sm5, sm6⟩ := hpt.2
      generalize Cf.pvT psv[k] = pv at *
      generalize psv[k].1 = p at *
      have HII := Lib.hid hii
      have HPL := Lib.hid hpl
      have HNX := Lib.hid hnx
      have HFC := Lib.hid hfc
      have HS6 := Lib.hid sm6
      obtain ⟨sf, hsf⟩ : ∃ s, Cf.soFar b (psv.map Prod.fst) k = s := ⟨_, rfl⟩
      rw [hsf] at hss HNX ⊢
      have HSF := Lib.hid hsf
      have hszr := HBR.out.size
      clear hin hpin hform hgd hpt hnx hii hfc hpl hsf hlm HLr sm6
      obtain ⟨dra, hdra⟩ : ∃ s, (⟨(Cf.dec p.rate).toArray⟩ : ByteArray) = s := ⟨_, rfl⟩
      have hzra : dra.size ≤ 21 := by rw [← hdra]; exact Cf.dec_size _ (by omega)
      have HDra := Lib.hid (fun w => rdec_any p.rate (by omega) w)
      rw [hdra] at HDra
      obtain ⟨dna, hdna⟩ : ∃ s, (⟨(Cf.dec p.native).toArray⟩ : ByteArray) = s := ⟨_, rfl⟩
      have hzna : dna.size ≤ 21 := by rw [← hdna]; exact Cf.dec_size _ (by omega)
      have HDna := Lib.hid (fun w => rdec_any p.native (by omega) w)
      rw [hdna] at HDna
      obtain ⟨dho, hdho⟩ : ∃ s, (⟨(Cf.dec p.horizon).toArray⟩ : ByteArray) = s := ⟨_, rfl⟩
      have hzho : dho.size ≤ 21 := by rw [← hdho]; exact Cf.dec_size _ (by omega)
      have HDho := Lib.hid (fun w => rdec_any p.horizon (by omega) w)
      rw [hdho] at HDho
      obtain ⟨dli, hdli⟩ : ∃ s, (⟨(Cf.dec p.limit).toArray⟩ : ByteArray) = s := ⟨_, rfl⟩
      have hzli : dli.size ≤ 21 := by rw [← hdli]; exact Cf.dec_size _ (by omega)
      have HDli := Lib.hid (fun w => rdec_any p.limit (by omega) w)
      rw [hdli] at HDli
      obtain ⟨pk, hpk⟩ : ∃ s, (⟨p.psk.toArray⟩ : ByteArray) = s := ⟨_, rfl⟩
      have HHXp := Lib.hid (fun w => rhex_any pk (by rw [← hpk]; show p.psk.toArray.size ≤ 1000; rw [List.size_toArray, hpl2]; decide) w)
      obtain ⟨hxp, hhxp⟩ : ∃ s, (⟨(Cf.hexOf p.psk).toArray⟩ : ByteArray) = s := ⟨_, rfl⟩
      have hxpz : hxp.size = 64 := by rw [← hhxp, Cf.hex_size, hpl2]
      rw [show pk.data.toList = p.psk from by rw [← hpk], hhxp] at HHXp
      go_upto_region 6 with (first | ((with_reducible refine at_load 50 (.tmp 43) ?_); refine wpList_load_at rfl 50 (.tmp 43) rfl bk (off + k * 39) rfl (Cf.pvc pv) HE.out _ Tryz.underlying50 rfl (rpc_info HPL.out) ?_) | ((with_reducible refine at_alloc 50 ?_); refine wpList_alloc_port rfl 50 Cf.zport rfl rzport_is ?_) | ((with_reducible refine at_store 50 (.tmp 5) (.tmp 44) ?_); refine wpList_store_own rfl 50 (.tmp 5) (.tmp 44) rfl wr.heap.size (Cf.pvc pv).toArray rfl rfl 50 _ (rowIs_new wr _ _) (rpc_info HPL.out) ?z1 (Cf.pvc_one pv) w.heap.size (by omega) ?_))
      case z1 => simp [Cf.zport, Cf.pvc, byteVals_length, HPL.out, Cf.zeros]
      intro w2 hR hO hs hb
      rw [HFC.out] at hR
      have hb2 : Below wr.heap.size wr w2 := ((Below.refl _ wr).alloc (Nat.le_refl _) _).trans ⟨hb.os, hb.tape, hb.output, by rw [hs]; simp, fun j hj => hO j (by omega)⟩
      have HX2 := Lib.hid (HX.out.kept hb2)
      have HBR2 := Lib.hid (HBR.out.trans (hb2.mono hszr))
      have HII2 := Lib.hid (HII.out.after hb2)
      have hbz : wr.heap.size < w2.heap.size := by have := hb2.size; rw [hs]; simp
      have e0 : w2.cell? ⟨wr.heap.size, 0, none⟩ = some (.int .i64 p.native) := RowIs.cell hR 0
      have e1 : w2.cell? ⟨wr.heap.size, 1, none⟩ = some (.slice ta p.tags.length tc) := RowIs.cell hR 1
      have e2 : w2.cell? ⟨wr.heap.size, 2, none⟩ = some (.int .i64 p.horizon) := RowIs.cell hR 2
      have e3 : w2.cell? ⟨wr.heap.size, 3, none⟩ = some (.int .i64 p.limit) := RowIs.cell hR 3
      have e4 : w2.cell? ⟨wr.heap.size, 4, none⟩ = some (.bool p.link) := RowIs.cell hR 4
      have e5 : w2.cell? ⟨wr.heap.size, 5, none⟩ = some (.int .i64 p.rate) := RowIs.cell hR 5
      have e6 : w2.cell? ⟨wr.heap.size, 6, none⟩ = some (.bool p.greets) := RowIs.cell hR 6
      have HBI : Hid (Cf.BytesIn w2 wr.heap.size 7 p.psk) := fun i hi => by
        rw [RowIs.cell hR (7 + i), show 7 + i = i + 1 + 1 + 1 + 1 + 1 + 1 + 1 from by omega]
        simp only [List.getElem?_toArray, List.getElem?_cons_succ]
        unfold byteVals
        rw [List.getElem?_map, List.getD_eq_getElem?_getD, List.getElem?_eq_getElem hi]
        rfl
      clear hR hO hs hb HE HII HX HBR hb2 d12 HFC
      obtain ⟨lk, hlk⟩ : ∃ x, p.link = x := ⟨_, rfl⟩
      obtain ⟨gr, hgr⟩ : ∃ x, p.greets = x := ⟨_, rfl⟩
      rw [hlk] at e4
      rw [hgr] at e6
      go_upto_if 46 with fail
      go_cut [3] (fun v3 wx => v3 = .string (sf ++ ⟨(Cf.headText p).toArray⟩) ∧ Below w2.heap.size w2 wx)
      case first =>
        cases lk with
        | false =>
          have HH : Hid (sf ++ ⟨(Cf.headText p).toArray⟩ = sf ++ ⟨#[116, 97, 112]⟩) := by show _ = _; unfold Cf.headText; rw [hlk]; rfl
          clear hlk hgr
          go_wp2_with fail
          go_meet
          exact ⟨by rw [HH.out], Below.refl _ _⟩
        | true =>
          cases gr with
          | false =>
            have HH : Hid (sf ++ ⟨(Cf.headText p).toArray⟩ = sf ++ ⟨#[108, 105, 110, 107, 32]⟩ ++ dra ++ ⟨#[32, 97, 32]⟩ ++ hxp) := by
              show _ = _
              unfold Cf.headText Cf.wLink
              rw [hlk, hgr, ← hdra, ← hhxp]
              exact Cf.text_inj (by simp)
            clear hlk hgr
            go_wp2_with fail
            refine (HDra.out _).mono ?_
            rintro e w3 ⟨rfl, hb3⟩
            have e6 := (hb3.cell (p := ⟨wr.heap.size, 6, none⟩) hbz).trans e6
            have sP := run_string_at Tryz.underlying64 Tryz.underlying5 Tryz.underlying9 w3 p.psk 32 wr.heap.size 7 32 hpl2 (fun i hi => by
              rw [(hb3.cell (p := ⟨wr.heap.size, 7 + i, none⟩) hbz), HBI.out i hi, List.getD_eq_getElem?_getD, List.getElem?_eq_getElem hi]
              rfl)
            rw [hpk] at sP
            go_wp2_with fail
            refine (HHXp.out _).mono ?_
            rintro e w4 ⟨rfl, hb4⟩
            have hb5 := hb3.trans (hb4.mono hb3.size)
            clear hb3 hb4 sP
            go_wp2_with fail
            go_meet
            exact ⟨by rw [HH.out], hb5⟩
          | true =>
            have HH : Hid (sf ++ ⟨(Cf.headText p).toArray⟩ = sf ++ ⟨#[108, 105, 110, 107, 32]⟩ ++ dra ++ ⟨#[32, 103, 32]⟩ ++ hxp) := by
              show _ = _
              unfold Cf.headText Cf.wLink
              rw [hlk, hgr, ← hdra, ← hhxp]
              exact Cf.text_inj (by simp)
            clear hlk hgr
            go_wp2_with fail
            refine (HDra.out _).mono ?_
            rintro e w3 ⟨rfl, hb3⟩
            have e6 := (hb3.cell (p := ⟨wr.heap.size, 6, none⟩) hbz).trans e6
            have sP := run_string_at Tryz.underlying64 Tryz.underlying5 Tryz.underlying9 w3 p.psk 32 wr.heap.size 7 32 hpl2 (fun i hi => by
              rw [(hb3.cell (p := ⟨wr.heap.size, 7 + i, none⟩) hbz), HBI.out i hi, List.getD_eq_getElem?_getD, List.getElem?_eq_getElem hi]
              rfl)
            rw [hpk] at sP
            go_wp2_with fail
            refine (HHXp.out _).mono ?_
            rintro e w4 ⟨rfl, hb4⟩
            have hb5 := hb3.trans (hb4.mono hb3.size)
            clear hb3 hb4 sP
            go_wp2_with fail
            go_meet
            exact ⟨by rw [HH.out], hb5⟩
      case rest =>
        obtain ⟨rfl, hb⟩ := hcut
        clear hlk hgr HDra HHXp hdra hhxp hpk
        rename World => w3
        obtain ⟨hd, hhd⟩ : ∃ x, (⟨(Cf.headText p).toArray⟩ : ByteArray) = x := ⟨_, rfl⟩
        have hhs : hd.size ≤ 120 := by rw [← hhd]; exact Cf.head_size p sm4 hpl2
        rw [hhd]
        have e0 := (hb.cell (p := ⟨wr.heap.size, 0, none⟩) hbz).trans e0
        have e1 := (hb.cell (p := ⟨wr.heap.size, 1, none⟩) hbz).trans e1
        have e2 := (hb.cell (p := ⟨wr.heap.size, 2, none⟩) hbz).trans e2
        have e3 := (hb.cell (p := ⟨wr.heap.size, 3, none⟩) hbz).trans e3
        have HX3 := Lib.hid (HX2.out.kept hb)
        have HBR3 := Lib.hid (HBR2.out.trans (hb.mono HBR2.out.size))
        have HII3 := Lib.hid (HII2.out.after hb)
        have hbz : wr.heap.size < w3.heap.size := Nat.lt_of_lt_of_le hbz hb.size
        clear hb HBI e4 e5 e6 HX2 HBR2 HII2
        go_wp2_with fail
        refine (HDna.out _).mono ?_
        rintro e w4 ⟨rfl, hb⟩
        have e1 := (hb.cell (p := ⟨wr.heap.size, 1, none⟩) hbz).trans e1
        have e2 := (hb.cell (p := ⟨wr.heap.size, 2, none⟩) hbz).trans e2
        have e3 := (hb.cell (p := ⟨wr.heap.size, 3, none⟩) hbz).trans e3
        have HX4 := Lib.hid (HX3.out.kept hb)
        have HBR4 := Lib.hid (HBR3.out.trans (hb.mono HBR3.out.size))
        have HII4 := Lib.hid (HII3.out.after hb)
        have hbz : wr.heap.size < w4.heap.size := Nat.lt_of_lt_of_le hbz hb.size
        clear hb HX3 HBR3 HII3 e0
        go_upto_region 14 with fail
        obtain ⟨sb, hsb⟩ : ∃ x, sf ++ hd ++ ⟨#[32]⟩ ++ dna ++ ⟨#[32]⟩ = x := ⟨_, rfl⟩
        have hsbz : sb.size ≤ 400 + k * 2400000 := by
          rw [← hsb]
          simp only [ByteArray.size_append]
          show sf.size + hd.size + 1 + dna.size + 1 ≤ _
          omega
        rw [hsb]
        have HSB := Lib.hid hsb
        clear hsb
        go_upto_region 15 with fail
        go_loopw [3, 6] (fun v3 i wy => ∃ j : Nat, j ≤ p.tags.length ∧ i = .int .i64 j ∧ v3 = .string (sb ++ ⟨(Cf.tagsTo p.tags j).toArray⟩) ∧ Hid (Below w4.heap.size w4 wy)) (fun _ i _ => p.tags.length - (RowKit.intOf i).toNat)
        case atStart => exact ⟨0, Nat.zero_le _, rfl, by congr 1; exact Cf.text_inj (by simp [Cf.tagsTo, Lib.join_nil]), Below.refl _ _⟩
        case round =>
          rename World => wy
          obtain ⟨j, hj, rfl, rfl, HBY⟩ := hrel
          have e1 := (HBY.out.cell (p := ⟨wr.heap.size, 1, none⟩) hbz).trans e1
          obtain ⟨tgs, htgs⟩ : ∃ x, (⟨(Cf.tagsTo p.tags j).toArray⟩ : ByteArray) = x := ⟨_, rfl⟩
          have htz : tgs.size ≤ 2300000 := by
            rw [← htgs]
            show (Cf.tagsTo p.tags j).toArray.size ≤ _
            rw [List.size_toArray]
            have := Cf.tagsTo_len p.tags HS6.out j
            omega
          by_cases hjl : j < p.tags.length
          · obtain ⟨tb, toff, hta, hct⟩ := Cf.ints_at (HII4.out.after HBY.out) hjl
            subst hta
            have hsm := HS6.out p.tags[j] (List.getElem_mem hjl)
            have HNX2 : Hid (Cf.tagsTo p.tags (j + 1) = if 0 < j then Cf.tagsTo p.tags j ++ [44] ++ Cf.dec p.tags[j] else Cf.dec p.tags[j]) := by
              show _ = _
              by_cases h0 : 0 < j
              · rw [if_pos h0]; exact Cf.tagsTo_next hjl h0
              · obtain rfl : j = 0 := by omega
                rw [if_neg h0]
                exact Cf.tagsTo_first hjl
            generalize p.tags[j] = m at *
            have HDT := Lib.hid (fun w => rdec_any m (by omega) w)
            obtain ⟨dt, hdt⟩ : ∃ x, (⟨(Cf.dec m).toArray⟩ : ByteArray) = x := ⟨_, rfl⟩
            have hdtz : dt.size ≤ 21 := by rw [← hdt]; exact Cf.dec_size _ (by omega)
            rw [hdt] at HDT
            rw [htgs]
            have HHH := Lib.hid htgs
            clear htgs
            obtain ⟨bt, hbt⟩ : ∃ q, decide (0 < j) = q := ⟨_, rfl⟩
            cases bt with
            | true =>
              have h0 := of_decide_eq_true hbt
              have HFI : Hid (sb ++ ⟨(Cf.tagsTo p.tags (j + 1)).toArray⟩ = sb ++ tgs ++ ⟨#[44]⟩ ++ dt) := by
                show _ = _
                rw [HNX2.out, if_pos h0, ← HHH.out, ← hdt]
                exact Cf.text_inj (by simp)
              clear HNX2 HHH hdt h0
              go_wp2_with fail
              refine (HDT.out _).mono ?_
              rintro e w5 ⟨rfl, hb5⟩
              have HBY5 := Lib.hid (HBY.out.trans (hb5.mono HBY.out.size))
              clear hb5 HBY
              go_wp2_with fail
              exact ⟨⟨j + 1, by omega, by go_num, by rw [HFI.out], HBY5⟩, by simp [RowKit.intOf]; omega⟩
            | false =>
              have h0 := of_decide_eq_false hbt
              obtain rfl : j = 0 := by omega
              have HFI : Hid (sb ++ ⟨(Cf.tagsTo p.tags (0 + 1)).toArray⟩ = sb ++ tgs ++ dt) := by
                show _ = _
                rw [HNX2.out, if_neg h0, ← HHH.out, ← hdt]
                exact Cf.text_inj (by simp [Cf.tagsTo, Lib.join_nil])
              clear HNX2 HHH hdt h0 hbt
              rw [Nat.add_zero] at hct
              go_wp2_with fail
              refine (HDT.out _).mono ?_
              rintro e w5 ⟨rfl, hb5⟩
              have HBY5 := Lib.hid (HBY.out.trans (hb5.mono HBY.out.size))
              clear hb5 HBY
              go_wp2_with fail
              exact ⟨⟨0 + 1, by omega, by go_num, by rw [HFI.out], HBY5⟩, by simp [RowKit.intOf]; omega⟩
          · obtain rfl : j = p.tags.length := by omega
            have e2 := (HBY.out.cell (p := ⟨wr.heap.size, 2, none⟩) hbz).trans e2
            have e3 := (HBY.out.cell (p := ⟨wr.heap.size, 3, none⟩) hbz).trans e3
            have HX5 := Lib.hid (HX4.out.kept HBY.out)
            have HBR5 := Lib.hid (HBR4.out.trans (HBY.out.mono HBR4.out.size))
            have hz5 : w.heap.size < wy.heap.size := by have := HBY.out.size; omega
            rw [htgs]
            have HHH := Lib.hid htgs
            clear htgs HBY HX4 HBR4 HII4 hbz
            have HTT : Hid (tgs = if 0 < p.tags.length then ⟨(Cf.tagText p.tags).toArray⟩ else ⟨#[]⟩) := by
              show _ = _
              rw [← HHH.out]
              by_cases h0 : 0 < p.tags.length
              · rw [if_pos h0, Cf.tagsTo_all _ h0]
              · rw [if_neg h0, show p.tags = [] from List.eq_nil_of_length_eq_zero (by omega)]
                rfl
            have HT0 : Hid (¬ 0 < p.tags.length → Cf.tagText p.tags = [45]) := fun h0 => by rw [show p.tags = [] from List.eq_nil_of_length_eq_zero (by omega)]; rfl
            clear HHH
            obtain ⟨bt, hbt⟩ : ∃ q, ((p.tags.length : Int) == 0) = q := ⟨_, rfl⟩
            go_upto_if 96 with fail
            go_cut [3] (fun v3 wx => v3 = .string (sb ++ ⟨(Cf.tagText p.tags).toArray⟩) ∧ wy = wx)
            case first =>
              cases bt with
              | true =>
                have h0 : ¬ 0 < p.tags.length := by have := beq_iff_eq.1 hbt; omega
                have HFI : Hid (sb ++ ⟨(Cf.tagText p.tags).toArray⟩ = sb ++ tgs ++ ⟨#[45]⟩) := by
                  show _ = _
                  rw [HT0.out h0, HTT.out, if_neg h0]
                  exact Cf.text_inj (by simp)
                clear hbt h0
                go_wp2_with fail
                go_meet
                exact ⟨by rw [HFI.out], rfl⟩
              | false =>
                have h0 : 0 < p.tags.length := by have := beq_eq_false_iff_ne.1 hbt; omega
                have HFI : Hid (sb ++ ⟨(Cf.tagText p.tags).toArray⟩ = sb ++ tgs) := by
                  show _ = _
                  rw [HTT.out, if_pos h0]
                clear hbt h0
                go_wp2_with fail
                go_meet
                exact ⟨by rw [HFI.out], rfl⟩
            case rest =>
              obtain ⟨rfl, rfl⟩ := hcut
              obtain ⟨tg, htg⟩ : ∃ x, (⟨(Cf.tagText p.tags).toArray⟩ : ByteArray) = x := ⟨_, rfl⟩
              have htgz : tg.size ≤ 2300000 := by rw [← htg]; exact Cf.tag_size _ sm5 HS6.out
              rw [htg]
              have HEND : Hid (Cf.soFar b (psv.map Prod.fst) (k + 1) = sb ++ tg ++ ⟨#[32]⟩ ++ dho ++ ⟨#[32]⟩ ++ dli ++ ⟨#[10]⟩) := by
                show _ = _
                rw [HNX.out, ← HSB.out, ← hhd, ← htg, ← hdho, ← hdli, ← hdna]
                unfold Cf.ptText
                exact Cf.text_inj (by simp [Lib.join_cons, Lib.joinTail])
              have k2 := cell_regrown e2
              have k3 := cell_regrown e3
              clear hbt HT0 HTT HNX HSB hhd htg hdho hdli hdna htz hj hjl e1
              go_upto_region 22 with fail
              refine wp_region_mix 12 (by kernel_rfl) (by kernel_rfl) (by kernel_rfl) ?_
              (refine mix_step (by kernel_rfl) (by kernel_rfl) (fun K hK => ?_); go_simp; (try (simp only [↓IntWalk.iteOmega]; go_simp)); (first | (refine hK _ ?_; clear hK K) | (apply Exists.intro; refine ⟨fun _ => ?_, hK _ ?_⟩; (first | fail); clear hK K)))
              (refine mix_step (by kernel_rfl) (by kernel_rfl) (fun K hK => ?_); go_simp; (try (simp only [↓IntWalk.iteOmega]; go_simp)); (first | (refine hK _ ?_; clear hK K) | (apply Exists.intro; refine ⟨fun _ => ?_, hK _ ?_⟩; (first | fail); clear hK K)))
              (refine mix_step (by kernel_rfl) (by kernel_rfl) (fun K hK => ?_); go_simp; (try (simp only [↓IntWalk.iteOmega]; go_simp)); (first | (refine hK _ ?_; clear hK K) | (apply Exists.intro; refine ⟨fun _ => ?_, hK _ ?_⟩; (first | fail); clear hK K)))
              (refine mix_step (by kernel_rfl) (by kernel_rfl) (fun K hK => ?_); go_simp; (try (simp only [↓IntWalk.iteOmega]; go_simp)); (first | (refine hK _ ?_; clear hK K) | (apply Exists.intro; refine ⟨fun _ => ?_, hK _ ?_⟩; (first | fail); clear hK K)))
              (refine mix_step (by kernel_rfl) (by kernel_rfl) (fun K hK => ?_); go_simp; (try (simp only [↓IntWalk.iteOmega]; go_simp)); (first | (refine hK _ ?_; clear hK K) | (apply Exists.intro; refine ⟨fun _ => ?_, hK _ ?_⟩; (first | exact HDho.out _); clear hK K)))
              (refine mix_step (by kernel_rfl) (by kernel_rfl) (fun K hK => ?_); go_simp; (try (simp only [↓IntWalk.iteOmega]; go_simp)); (first | (refine hK _ ?_; clear hK K) | (apply Exists.intro; refine ⟨fun _ => ?_, hK _ ?_⟩; (first | fail); clear hK K)))
              (refine mix_step (by kernel_rfl) (by kernel_rfl) (fun K hK => ?_); go_simp; (try (simp only [↓IntWalk.iteOmega]; go_simp)); (first | (refine hK _ ?_; clear hK K) | (apply Exists.intro; refine ⟨fun _ => ?_, hK _ ?_⟩; (first | fail); clear hK K)))
              (refine mix_step (by kernel_rfl) (by kernel_rfl) (fun K hK => ?_); go_simp; (try (simp only [↓IntWalk.iteOmega]; go_simp)); (first | (refine hK _ ?_; clear hK K) | (apply Exists.intro; refine ⟨fun _ => ?_, hK _ ?_⟩; (first | fail); clear hK K)))
              (refine mix_step (by kernel_rfl) (by kernel_rfl) (fun K hK => ?_); go_simp; (try (simp only [↓IntWalk.iteOmega]; go_simp)); (first | (refine hK _ ?_; clear hK K) | (apply Exists.intro; refine ⟨fun _ => ?_, hK _ ?_⟩; (first | fail); clear hK K)))
              (refine mix_step (by kernel_rfl) (by kernel_rfl) (fun K hK => ?_); go_simp; (try (simp only [↓IntWalk.iteOmega]; go_simp)); (first | (refine hK _ ?_; clear hK K) | (apply Exists.intro; refine ⟨fun _ => ?_, hK _ ?_⟩; (first | exact HDli.out _); clear hK K)))
              (refine mix_step (by kernel_rfl) (by kernel_rfl) (fun K hK => ?_); go_simp; (try (simp only [↓IntWalk.iteOmega]; go_simp)); (first | (refine hK _ ?_; clear hK K) | (apply Exists.intro; refine ⟨fun _ => ?_, hK _ ?_⟩; (first | fail); clear hK K)))
              (refine mix_step (by kernel_rfl) (by kernel_rfl) (fun K hK => ?_); go_simp; (try (simp only [↓IntWalk.iteOmega]; go_simp)); (first | (refine hK _ ?_; clear hK K) | (apply Exists.intro; refine ⟨fun _ => ?_, hK _ ?_⟩; (first | fail); clear hK K)))
              refine mix_nil ?_
              rintro ⟨dq, osq⟩
              have hbq := below_regrown wy dq osq
              have HX6 := Lib.hid (HX5.out.kept hbq)
              have HBR6 := Lib.hid (HBR5.out.trans (hbq.mono HBR5.out.size))
              have hz6 : w.heap.size < (grow (redrawn wy dq) osq).heap.size := Nat.lt_of_lt_of_le hz5 hbq.size
              refine (show wpList _ _ _ _ _ _ from ?_)
              simp only [List.drop, Act.put, List.setIfInBounds_toArray, List.set]
              clear hbq k2 k3 HX5 HBR5 hz5 e2 e3
              generalize grow (redrawn wy dq) osq = w6 at *
              go_wp2_with fail
              exact ⟨⟨k + 1, by omega, by go_num, by rw [HEND.out], HX6, HBR6, hz6⟩, by simp [RowKit.intOf]; omega⟩
    · obtain rfl : k = psv.length := by omega
      rw [HALL.out] at hss ⊢
      have hbF := HBR.out
      go_wp2_with fail
      go_ret
      exact ⟨rfl, hbF⟩
end Go.Proofs.YthfckdnennfnoaaGreatDoor
-- ConfPlays: what both parsers answer; a right configuration's numbers. By an AI agent. 
namespace Go.Proofs.YthfckdnennfnoaaGreatDoor
open Go.RowKit Go.WideShapes Go.Sort Grow
namespace Cf
theorem right_tags (native : Int) : ∀ (zs : List Int) (last : Int), 0 ≤ last → Vlan.rightFrom native last zs = true → ∀ z ∈ zs, 1 ≤ z ∧ z ≤ 4094
  | [], _, _, _, z, hz => by cases hz
  | v :: l, last, h0, h, z, hz => by
    have hb := h
    rw [Vlan.rightFrom_cons, Bool.and_eq_true, Bool.not_eq_true'] at hb
    have hv := hb.1
    unfold Vlan.bad at hv
    simp only [Bool.or_eq_false_iff, decide_eq_false_iff_not] at hv
    rw [Vlan.rightFrom_cons, Bool.and_eq_true, Bool.not_eq_true'] at h
    rcases List.mem_cons.1 hz with rfl | hz
    · have hb := h.1
      unfold Vlan.bad at hb
      simp only [Bool.or_eq_false_iff, decide_eq_false_iff_not] at hb
      omega
    · exact right_tags native l v (by omega) h.2 z hz
def mkPt (p : Pv) : Pt := ⟨p.link, p.rate.toNat, p.greets, p.psk, p.nat.toNat, p.tags.map Int.toNat, p.ho.toNat, p.li.toNat⟩
def mkQ (p : Pv) : Pt × Value := (mkPt p, .slice p.ta p.tags.length p.tc)
def PvNat (p : Pv) : Prop := (0 ≤ p.nat ∧ p.nat ≤ 4094) ∧ (0 ≤ p.ho ∧ p.ho ≤ 255) ∧ (0 ≤ p.li ∧ p.li ≤ 65535) ∧ (0 ≤ p.rate ∧ p.rate ≤ 1000000000) ∧ ∀ z ∈ p.tags, 1 ≤ z ∧ z ≤ 4094
theorem mkQ_pvT {p : Pv} (h : PvNat p) : pvT (mkQ p) = p := by
  obtain ⟨⟨a1, _⟩, ⟨a2, _⟩, ⟨a3, _⟩, ⟨a4, _⟩, a5⟩ := h
  have ht : ints (p.tags.map Int.toNat) = p.tags := by
    unfold ints
    rw [List.map_map]
    conv => rhs; rw [← List.map_id p.tags]
    apply List.map_congr_left
    intro z hz
    have := a5 z hz
    show ((z.toNat : Nat) : Int) = z
    omega
  show (⟨((mkPt p).native : Int), p.ta, ints (mkPt p).tags, p.tc, ((mkPt p).horizon : Int), ((mkPt p).limit : Int), (mkPt p).link, ((mkPt p).rate : Int), (mkPt p).greets, (mkPt p).psk⟩ : Pv) = p
  unfold mkPt
  simp only [ht]
  cases p
  simp only [Pv.mk.injEq, true_and, and_true] at *
  refine ⟨?_, ?_, ?_, ?_⟩ <;> omega
theorem conf_nat {L : List Pv} {ag ma he de : Int} (h : confOk L ag ma he de = true) : (∀ p ∈ L, PvNat p) ∧ (0 ≤ ma ∧ ma ≤ 1000) ∧ (0 ≤ he ∧ he ≤ 100) ∧ (0 ≤ de ∧ de ≤ 1000) ∧ (0 ≤ ag ∧ ag ≤ 1000000) ∧ L.length ≤ 32 := by
  unfold confOk relayOk SpN.rightT at h
  simp only [Bool.and_eq_true, decide_eq_true_eq, List.all_eq_true, Bool.not_eq_true', List.length_map] at h
  obtain ⟨h1, ⟨h2, h3, h4, h5, h6, h7⟩, h8, h9, h10, h11, h12, h13⟩ := h
  refine ⟨fun p hp => ?_, by omega, by omega, by omega, by omega, h5⟩
  have ho := h1 p hp
  have hr := h2 p.rv (List.mem_map.2 ⟨p, hp, rfl⟩)
  have hl : okLim p.li = true := by
    unfold anyBad lims at h6
    rw [Bool.not_eq_false', List.all_eq_true] at h6
    exact h6 p.li (by rw [List.map_map]; exact List.mem_map.2 ⟨p, hp, rfl⟩)
  unfold okLim at hl
  rw [decide_eq_true_eq] at hl
  unfold rvOk at hr
  simp only [Bool.and_eq_true, decide_eq_true_eq] at hr
  have hv := hr.1
  unfold Vlan.right at hv
  simp only [Bool.and_eq_true, decide_eq_true_eq] at hv
  have hrate : 0 ≤ p.rate ∧ p.rate ≤ 1000000000 := by
    unfold Pv.ok portOk at ho
    split at ho
    · simp only [Bool.and_eq_true, decide_eq_true_eq] at ho; omega
    · rw [Bool.and_eq_true, beq_iff_eq] at ho; omega
  refine ⟨?_, hr.2, hl, hrate, ?_⟩
  · show 0 ≤ p.rv.nat ∧ p.rv.nat ≤ 4094
    omega
  · exact right_tags _ _ _ (Int.le_refl _) hv.2
theorem conf_small {L : List Pv} {ag ma he de : Int} (h : confOk L ag ma he de = true) (hL : ∀ p ∈ L, p.tags.length ≤ 100 ∧ p.psk.length = 32) : (L.map mkQ).map pvT = L ∧ ∀ p ∈ (L.map mkQ).map Prod.fst, p.psk.length = 32 ∧ small p := by
  have hn := (conf_nat h).1
  refine ⟨?_, fun p hp => ?_⟩
  · rw [List.map_map]
    conv => rhs; rw [← List.map_id L]
    exact List.map_congr_left fun p hp => mkQ_pvT (hn p hp)
  · rw [List.map_map] at hp
    obtain ⟨q, hq, rfl⟩ := List.mem_map.1 hp
    obtain ⟨⟨a1, b1⟩, ⟨a2, b2⟩, ⟨a3, b3⟩, ⟨a4, b4⟩, a5⟩ := hn q hq
    obtain ⟨c1, c2⟩ := hL q hq
    refine ⟨c2, ?_⟩
    show small (mkPt q)
    unfold small mkPt
    refine ⟨by show q.nat.toNat < _; omega, by show q.ho.toNat < _; omega, by show q.li.toNat < _; omega, by show q.rate.toNat < _; omega, by rw [List.length_map]; omega, fun n hn => ?_⟩
    obtain ⟨z, hz, rfl⟩ := List.mem_map.1 hn
    have := a5 z hz
    omega
def zid : Id8 := ⟨0, 0, 0, 0, 0, 0, 0, 0⟩
theorem pin_nil (w : World) : PIn w 0 0 [] := ⟨fun i hi => absurd hi (Nat.not_lt_zero _), fun h => absurd h (Nat.lt_irrefl _), fun p hp => by cases hp⟩
theorem psv_bare (psv : List (Pt × Value)) : (psv.map pvT).map Pv.bare = (psv.map Prod.fst).map pv0 := by
  rw [List.map_map, List.map_map]
  exact List.map_congr_left fun q _ => pvT_bare q
def PBoth (s : ByteArray) (y : Id8) (m h d g nn ee : Int) (bl : List Pv) : Prop :=
  (∀ w, Calls Tryz.prog 6 #[.string s] w fun e w' => (∃ (L1 : List Cf.Pv) (a1 : Option Addr) (b1 o1 c1 : Nat), e = .returned (.tuple #[.agg #[.int .u8 ((y.f 0).toNat : Int), .int .u8 ((y.f 1).toNat : Int), .int .u8 ((y.f 2).toNat : Int), .int .u8 ((y.f 3).toNat : Int), .int .u8 ((y.f 4).toNat : Int), .int .u8 ((y.f 5).toNat : Int), .int .u8 ((y.f 6).toNat : Int), .int .u8 ((y.f 7).toNat : Int), .int .i64 m, .int .i64 h, .int .i64 d, .int .i64 g, .slice a1 L1.length c1], .int .i64 nn, .int .i64 ee]) ∧ (a1 = some ⟨b1, o1, none⟩ ∨ L1 = []) ∧ Cf.PIn w' b1 o1 L1 ∧ L1.map Cf.Pv.bare = bl) ∧ Below w.heap.size w w') ∧
  (∀ w, Calls Tryz.prog 7 #[.string s] w fun e w' => (∃ (L1 : List Cf.Pv) (a1 : Option Addr) (b1 o1 c1 : Nat), e = .returned (.tuple #[.agg #[.int .u8 ((y.f 0).toNat : Int), .int .u8 ((y.f 1).toNat : Int), .int .u8 ((y.f 2).toNat : Int), .int .u8 ((y.f 3).toNat : Int), .int .u8 ((y.f 4).toNat : Int), .int .u8 ((y.f 5).toNat : Int), .int .u8 ((y.f 6).toNat : Int), .int .u8 ((y.f 7).toNat : Int), .int .i64 m, .int .i64 h, .int .i64 d, .int .i64 g, .slice a1 L1.length c1], .int .i64 nn, .int .i64 ee]) ∧ (a1 = some ⟨b1, o1, none⟩ ∨ L1 = []) ∧ Cf.PIn w' b1 o1 L1 ∧ L1.map Cf.Pv.bare = bl) ∧ Below w.heap.size w w')
theorem parse_both (s : ByteArray) (hs : s.size ≤ 3000) : ∃ (y : Id8) (m h d g nn ee : Int) (bl : List Pv), PBoth s y m h d g nn ee bl ∧ bl.length ≤ 10000 := by
  cases hsc : scan0 (linesB s) with
  | inl k =>
    refine ⟨zid, 0, 0, 0, 0, k, 11, [], ⟨fun w => (parse_any s (by omega) w).mono ?_, fun w => (rparse_any s (by omega) w).mono ?_⟩, by simp⟩
    · rintro e w' ⟨ha, hb⟩
      unfold ParseAns at ha
      rw [hsc] at ha
      exact ⟨⟨[], none, 0, 0, 0, ha, .inr rfl, pin_nil _, rfl⟩, hb⟩
    · rintro e w' ⟨ha, hb⟩
      unfold RParseAns at ha
      rw [hsc] at ha
      exact ⟨⟨[], none, 0, 0, 0, ha, .inr rfl, pin_nil _, rfl⟩, hb⟩
  | inr r =>
    obtain ⟨b, ps⟩ := r
    have hpl : ps.length + 1 ≤ 3000 := by
      have h1 := (read_ends hsc).2
      have h2 := linesB_len s
      simp only at h1
      omega
    cases hc : cOk b ps with
    | false =>
      refine ⟨zid, 0, 0, 0, 0, 0, 1, [], ⟨fun w => (parse_any s (by omega) w).mono ?_, fun w => (rparse_any s (by omega) w).mono ?_⟩, by simp⟩
      · rintro e w' ⟨ha, hb⟩
        unfold ParseAns at ha
        rw [hsc] at ha
        replace ha : if cOk b ps = true then _ else _ := ha
        rw [if_neg (by rw [hc]; decide)] at ha
        exact ⟨⟨[], none, 0, 0, 0, ha, .inr rfl, pin_nil _, rfl⟩, hb⟩
      · rintro e w' ⟨ha, hb⟩
        unfold RParseAns at ha
        rw [hsc] at ha
        replace ha : if cOk b ps = true then _ else _ := ha
        rw [if_neg (by rw [hc]; decide)] at ha
        exact ⟨⟨[], none, 0, 0, 0, ha, .inr rfl, pin_nil _, rfl⟩, hb⟩
    | true =>
      have hsm := (conf_back (by omega) hsc).2.2
      have hid : b.id.length = 8 := by
        cases hL : linesB s with
        | nil => rw [hL] at hsc; cases hsc
        | cons l L =>
          rw [hL, scan0_cons] at hsc
          cases hl : lineBr l with
          | none => rw [hl] at hsc; cases hsc
          | some b' =>
            rw [hl] at hsc
            obtain ⟨hb, _⟩ := scan_len b' L [] 1 (b, ps) hsc
            replace hb : b = b' := hb
            rw [hb]
            exact lineBr_id hl
      obtain ⟨y, hy⟩ := id8_of _ hid
      refine ⟨y, b.maxAge, b.hello, b.delay, b.ageing, 0, 0, ps.map pv0, ⟨fun w => (parse_any s (by omega) w).mono ?_, fun w => (rparse_any s (by omega) w).mono ?_⟩, by rw [List.length_map]; omega⟩
      · rintro e w' ⟨ha, hb⟩
        unfold ParseAns at ha
        rw [hsc] at ha
        replace ha : if cOk b ps = true then _ else _ := ha
        rw [if_pos hc] at ha
        obtain ⟨pv, psv, base, rfl, hpsv, _, hp, _⟩ := ha
        obtain ⟨ao, bk, off, cap, hpv, hao, hPI⟩ := pin_of hp (fun q hq => by
          have := (hsm q.1 (by rw [← hpsv]; exact List.mem_map.2 ⟨q, hq, rfl⟩)).2.2.2.2.2.1
          omega)
        refine ⟨⟨psv.map pvT, ao, bk, off, cap, ?_, hao, hPI, by rw [psv_bare, hpsv]⟩, hb⟩
        rw [bcells_id hy, hpv]
      · rintro e w' ⟨ha, hb⟩
        unfold RParseAns at ha
        rw [hsc] at ha
        replace ha : if cOk b ps = true then _ else _ := ha
        rw [if_pos hc] at ha
        obtain ⟨pv, psv, base, rfl, hpsv, _, hp, _⟩ := ha
        obtain ⟨ao, bk, off, cap, hpv, hao, hPI⟩ := rpin_of hp (fun q hq => by
          have := (hsm q.1 (by rw [← hpsv]; exact List.mem_map.2 ⟨q, hq, rfl⟩)).2.2.2.2.2.1
          omega)
        refine ⟨⟨psv.map pvT, ao, bk, off, cap, ?_, hao, hPI, by rw [psv_bare, hpsv]⟩, hb⟩
        rw [bcells_id hy, hpv]
/-- a right configuration's text -/
theorem prints {x : Id8} {L : List Pv} {ma he de ag : Int} (hr : confOk L ag ma he de = true) (hL : ∀ p ∈ L, p.tags.length ≤ 100 ∧ p.psk.length = 32) (hn : L.length ≤ 10000) : ∃ tx : ByteArray,
    (∀ (w : World) (ao : Option Addr) (b off cap : Nat), (ao = some ⟨b, off, none⟩ ∨ L = []) → PIn w b off L → Calls Tryz.prog 9 #[.agg #[.int .u8 ((x.f 0).toNat : Int), .int .u8 ((x.f 1).toNat : Int), .int .u8 ((x.f 2).toNat : Int), .int .u8 ((x.f 3).toNat : Int), .int .u8 ((x.f 4).toNat : Int), .int .u8 ((x.f 5).toNat : Int), .int .u8 ((x.f 6).toNat : Int), .int .u8 ((x.f 7).toNat : Int), .int .i64 ma, .int .i64 he, .int .i64 de, .int .i64 ag, .slice ao L.length cap]] w fun e w' => e = .returned (.tuple #[.string tx, .int .i64 0]) ∧ Below w.heap.size w w') ∧
    (∀ (w : World) (ao : Option Addr) (b off cap : Nat), (ao = some ⟨b, off, none⟩ ∨ L = []) → PIn w b off L → Calls Tryz.prog 13 #[.agg #[.int .u8 ((x.f 0).toNat : Int), .int .u8 ((x.f 1).toNat : Int), .int .u8 ((x.f 2).toNat : Int), .int .u8 ((x.f 3).toNat : Int), .int .u8 ((x.f 4).toNat : Int), .int .u8 ((x.f 5).toNat : Int), .int .u8 ((x.f 6).toNat : Int), .int .u8 ((x.f 7).toNat : Int), .int .i64 ma, .int .i64 he, .int .i64 de, .int .i64 ag, .slice ao L.length cap]] w fun e w' => e = .returned (.string tx) ∧ Below w.heap.size w w') := by
  obtain ⟨hn1, h1, h2, h3, h4, _⟩ := conf_nat hr
  obtain ⟨hm, hsm⟩ := conf_small hr hL
  obtain ⟨m, rfl⟩ := Int.eq_ofNat_of_zero_le h1.1
  obtain ⟨h, rfl⟩ := Int.eq_ofNat_of_zero_le h2.1
  obtain ⟨d, rfl⟩ := Int.eq_ofNat_of_zero_le h3.1
  obtain ⟨g, rfl⟩ := Int.eq_ofNat_of_zero_le h4.1
  have hsb : smallB ⟨x.l, m, h, d, g⟩ := ⟨by show m < _; omega, by show h < _; omega, by show d < _; omega, by show g < _; omega⟩
  have hlen : (L.map mkQ).length = L.length := List.length_map _
  have hc : cOk ⟨x.l, m, h, d, g⟩ ((L.map mkQ).map Prod.fst) = true := by rw [← cOk_of, hm]; exact hr
  refine ⟨⟨(confText ⟨x.l, m, h, d, g⟩ ((L.map mkQ).map Prod.fst)).toArray⟩, fun w ao b off cap ha hp => ?_, fun w ao b off cap ha hp => ?_⟩
  · have := print_ok x ⟨x.l, m, h, d, g⟩ rfl hsb b off cap (L.map mkQ) w ao (by rw [hm]; exact ha) (by rw [hm]; exact hp) (by rw [hlen]; exact hn) hsm hc
    rw [hlen] at this
    exact this
  · have := rprint_any x ⟨x.l, m, h, d, g⟩ rfl hsb b off cap (L.map mkQ) w ao (by rw [hm]; exact ha) (by rw [hm]; exact hp) (by rw [hlen]; exact hn) hsm
    rw [hlen] at this
    exact this
end Cf
end Go.Proofs.YthfckdnennfnoaaGreatDoor
-- The walk of ConfPlays. By an AI agent. 
namespace Go.Proofs.YthfckdnennfnoaaGreatDoor
open Go.RowKit Go.WideShapes Go.Sort Grow
set_option maxRecDepth 20000 in
set_option maxHeartbeats 4000000 in
theorem confPlays_long (s : ByteArray) (x : Id8) (ma he de ag : Int) (b off cap : Nat) (L : List Cf.Pv) (w : World) (ao : Option Addr) (hao : ao = some ⟨b, off, none⟩ ∨ L = []) (hL : Cf.PIn0 w b off L) (hs : 3000 < s.size) : Calls Tryz.prog 3 #[.string s, .agg #[.int .u8 ((x.f 0).toNat : Int), .int .u8 ((x.f 1).toNat : Int), .int .u8 ((x.f 2).toNat : Int), .int .u8 ((x.f 3).toNat : Int), .int .u8 ((x.f 4).toNat : Int), .int .u8 ((x.f 5).toNat : Int), .int .u8 ((x.f 6).toNat : Int), .int .u8 ((x.f 7).toNat : Int), .int .i64 ma, .int .i64 he, .int .i64 de, .int .i64 ag, .slice ao L.length cap]] w fun e w' => e = .returned (.bool true) ∧ Below w.heap.size w w' := by
  have d1 : decide (3000 < (s.size : Int)) = true := decide_eq_true (by omega)
  have d2 : decide (3000 < s.size) = true := decide_eq_true (by omega)
  clear hs hL hao
  go_enter Tryz.func3, Tryz.ntmps3
  go_upto_region 1 with fail
  have HX : Hid (RowIs (w.alloc (.cells #[.int .u8 ((x.f 0).toNat : Int), .int .u8 ((x.f 1).toNat : Int), .int .u8 ((x.f 2).toNat : Int), .int .u8 ((x.f 3).toNat : Int), .int .u8 ((x.f 4).toNat : Int), .int .u8 ((x.f 5).toNat : Int), .int .u8 ((x.f 6).toNat : Int), .int .u8 ((x.f 7).toNat : Int), .int .i64 ma, .int .i64 he, .int .i64 de, .int .i64 ag, .slice ao L.length cap] 25)) w.heap.size 25 #[.int .u8 ((x.f 0).toNat : Int), .int .u8 ((x.f 1).toNat : Int), .int .u8 ((x.f 2).toNat : Int), .int .u8 ((x.f 3).toNat : Int), .int .u8 ((x.f 4).toNat : Int), .int .u8 ((x.f 5).toNat : Int), .int .u8 ((x.f 6).toNat : Int), .int .u8 ((x.f 7).toNat : Int), .int .i64 ma, .int .i64 he, .int .i64 de, .int .i64 ag, .slice ao L.length cap]) := by show RowIs _ _ _ _; exact rowIs_new w _ _
  have hbW : Below w.heap.size w (w.alloc (.cells #[.int .u8 ((x.f 0).toNat : Int), .int .u8 ((x.f 1).toNat : Int), .int .u8 ((x.f 2).toNat : Int), .int .u8 ((x.f 3).toNat : Int), .int .u8 ((x.f 4).toNat : Int), .int .u8 ((x.f 5).toNat : Int), .int .u8 ((x.f 6).toNat : Int), .int .u8 ((x.f 7).toNat : Int), .int .i64 ma, .int .i64 he, .int .i64 de, .int .i64 ag, .slice ao L.length cap] 25)) := (Below.refl _ _).alloc (Nat.le_refl _) _
  generalize w.alloc (.cells #[.int .u8 ((x.f 0).toNat : Int), .int .u8 ((x.f 1).toNat : Int), .int .u8 ((x.f 2).toNat : Int), .int .u8 ((x.f 3).toNat : Int), .int .u8 ((x.f 4).toNat : Int), .int .u8 ((x.f 5).toNat : Int), .int .u8 ((x.f 6).toNat : Int), .int .u8 ((x.f 7).toNat : Int), .int .i64 ma, .int .i64 he, .int .i64 de, .int .i64 ag, .slice ao L.length cap] 25) = w1 at *
  go_wp2_with ((with_reducible refine at_load 25 (.tmp 3) ?_); refine wpList_load_own rfl 25 (.tmp 3) rfl w.heap.size rfl 25 _ _ HX.out Tryz.underlying25 rfl Cf.rinfo_conf ?_)
  refine (awake_any _).mono ?_
  rintro e w2 ⟨rfl, hb⟩
  have HX := Lib.hid (HX.out.kept hb)
  have hbW := hbW.trans (hb.mono hbW.size)
  clear hb
  go_wp2_with ((with_reducible refine at_load 25 (.tmp 3) ?_); refine wpList_load_own rfl 25 (.tmp 3) rfl w.heap.size rfl 25 _ _ HX.out Tryz.underlying25 rfl Cf.rinfo_conf ?_)
  refine (awake_any _).mono ?_
  rintro e w3 ⟨rfl, hb⟩
  have hbW := hbW.trans (hb.mono hbW.size)
  clear hb
  go_wp2_with fail
  go_ret
  exact ⟨rfl, hbW⟩

set_option maxRecDepth 20000 in
set_option maxHeartbeats 4000000 in
theorem confPlays_many (s : ByteArray) (x : Id8) (ma he de ag : Int) (b off cap : Nat) (L : List Cf.Pv) (w : World) (ao : Option Addr) (hao : ao = some ⟨b, off, none⟩ ∨ L = []) (hL : Cf.PIn0 w b off L) (hs : s.size ≤ 3000) (hf : Cf.fewOk L = false) : Calls Tryz.prog 3 #[.string s, .agg #[.int .u8 ((x.f 0).toNat : Int), .int .u8 ((x.f 1).toNat : Int), .int .u8 ((x.f 2).toNat : Int), .int .u8 ((x.f 3).toNat : Int), .int .u8 ((x.f 4).toNat : Int), .int .u8 ((x.f 5).toNat : Int), .int .u8 ((x.f 6).toNat : Int), .int .u8 ((x.f 7).toNat : Int), .int .i64 ma, .int .i64 he, .int .i64 de, .int .i64 ag, .slice ao L.length cap]] w fun e w' => e = .returned (.bool true) ∧ Below w.heap.size w w' := by
  have d1 : decide (3000 < (s.size : Int)) = false := decide_eq_false (by omega)
  have d2 : decide (3000 < s.size) = false := decide_eq_false (by omega)
  have HFW := Lib.hid (fun (w' : World) (hb : Below w.heap.size w w') => few_any x ma he de ag b off cap L w' ao hao (hL.after hb))
  rw [show Cf.fewN L = 0 from by unfold Cf.fewN; rw [hf]; rfl] at HFW
  clear hs hL hao hf
  go_enter Tryz.func3, Tryz.ntmps3
  go_upto_region 1 with fail
  have HX : Hid (RowIs (w.alloc (.cells #[.int .u8 ((x.f 0).toNat : Int), .int .u8 ((x.f 1).toNat : Int), .int .u8 ((x.f 2).toNat : Int), .int .u8 ((x.f 3).toNat : Int), .int .u8 ((x.f 4).toNat : Int), .int .u8 ((x.f 5).toNat : Int), .int .u8 ((x.f 6).toNat : Int), .int .u8 ((x.f 7).toNat : Int), .int .i64 ma, .int .i64 he, .int .i64 de, .int .i64 ag, .slice ao L.length cap] 25)) w.heap.size 25 #[.int .u8 ((x.f 0).toNat : Int), .int .u8 ((x.f 1).toNat : Int), .int .u8 ((x.f 2).toNat : Int), .int .u8 ((x.f 3).toNat : Int), .int .u8 ((x.f 4).toNat : Int), .int .u8 ((x.f 5).toNat : Int), .int .u8 ((x.f 6).toNat : Int), .int .u8 ((x.f 7).toNat : Int), .int .i64 ma, .int .i64 he, .int .i64 de, .int .i64 ag, .slice ao L.length cap]) := by show RowIs _ _ _ _; exact rowIs_new w _ _
  have hbW : Below w.heap.size w (w.alloc (.cells #[.int .u8 ((x.f 0).toNat : Int), .int .u8 ((x.f 1).toNat : Int), .int .u8 ((x.f 2).toNat : Int), .int .u8 ((x.f 3).toNat : Int), .int .u8 ((x.f 4).toNat : Int), .int .u8 ((x.f 5).toNat : Int), .int .u8 ((x.f 6).toNat : Int), .int .u8 ((x.f 7).toNat : Int), .int .i64 ma, .int .i64 he, .int .i64 de, .int .i64 ag, .slice ao L.length cap] 25)) := (Below.refl _ _).alloc (Nat.le_refl _) _
  generalize w.alloc (.cells #[.int .u8 ((x.f 0).toNat : Int), .int .u8 ((x.f 1).toNat : Int), .int .u8 ((x.f 2).toNat : Int), .int .u8 ((x.f 3).toNat : Int), .int .u8 ((x.f 4).toNat : Int), .int .u8 ((x.f 5).toNat : Int), .int .u8 ((x.f 6).toNat : Int), .int .u8 ((x.f 7).toNat : Int), .int .i64 ma, .int .i64 he, .int .i64 de, .int .i64 ag, .slice ao L.length cap] 25) = w1 at *
  go_wp2_with ((with_reducible refine at_load 25 (.tmp 3) ?_); refine wpList_load_own rfl 25 (.tmp 3) rfl w.heap.size rfl 25 _ _ HX.out Tryz.underlying25 rfl Cf.rinfo_conf ?_)
  refine (awake_any _).mono ?_
  rintro e w2 ⟨rfl, hb⟩
  have HX := Lib.hid (HX.out.kept hb)
  have hbW := hbW.trans (hb.mono hbW.size)
  clear hb
  go_wp2_with ((with_reducible refine at_load 25 (.tmp 3) ?_); refine wpList_load_own rfl 25 (.tmp 3) rfl w.heap.size rfl 25 _ _ HX.out Tryz.underlying25 rfl Cf.rinfo_conf ?_)
  refine (HFW.out _ hbW).mono ?_
  rintro e w3 ⟨rfl, hb⟩
  have HX := Lib.hid (HX.out.kept hb)
  have hbW := hbW.trans (hb.mono hbW.size)
  clear hb
  go_wp2_with ((with_reducible refine at_load 25 (.tmp 3) ?_); refine wpList_load_own rfl 25 (.tmp 3) rfl w.heap.size rfl 25 _ _ HX.out Tryz.underlying25 rfl Cf.rinfo_conf ?_)
  refine (awake_any _).mono ?_
  rintro e w3 ⟨rfl, hb⟩
  have hbW := hbW.trans (hb.mono hbW.size)
  clear hb
  go_wp2_with fail
  go_ret
  exact ⟨rfl, hbW⟩

set_option maxRecDepth 20000 in
set_option maxHeartbeats 8000000 in
theorem confPlays_main (s : ByteArray) (x : Id8) (ma he de ag : Int) (b off cap : Nat) (L : List Cf.Pv) (w : World) (ao : Option Addr) (hao : ao = some ⟨b, off, none⟩ ∨ L = []) (hL : Cf.PIn0 w b off L) (hs : s.size ≤ 3000) (hf : Cf.fewOk L = true) : Calls Tryz.prog 3 #[.string s, .agg #[.int .u8 ((x.f 0).toNat : Int), .int .u8 ((x.f 1).toNat : Int), .int .u8 ((x.f 2).toNat : Int), .int .u8 ((x.f 3).toNat : Int), .int .u8 ((x.f 4).toNat : Int), .int .u8 ((x.f 5).toNat : Int), .int .u8 ((x.f 6).toNat : Int), .int .u8 ((x.f 7).toNat : Int), .int .i64 ma, .int .i64 he, .int .i64 de, .int .i64 ag, .slice ao L.length cap]] w fun e w' => e = .returned (.bool true) ∧ Below w.heap.size w w' := by
  have d1 : decide (3000 < (s.size : Int)) = false := decide_eq_false (by omega)
  have d2 : decide (3000 < s.size) = false := decide_eq_false (by omega)
  have HFW := Lib.hid (fun (w' : World) (hb : Below w.heap.size w w') => few_any x ma he de ag b off cap L w' ao hao (hL.after hb))
  rw [show Cf.fewN L = 1 from by unfold Cf.fewN; rw [hf]; rfl] at HFW
  have hPI := hL.full hf
  have hln : L.length ≤ 10000 := by unfold Cf.fewOk at hf; rw [Bool.and_eq_true, decide_eq_true_eq] at hf; omega
  have hlt : ∀ p ∈ L, p.tags.length ≤ 100 ∧ p.psk.length = 32 := fun p hp => by
    unfold Cf.fewOk at hf
    rw [Bool.and_eq_true, List.all_eq_true] at hf
    exact ⟨of_decide_eq_true (hf.2 p hp), (hL.2.2 p hp).2⟩
  obtain ⟨y, m, h, d, g, nn, ee, bl, ⟨HP1, HP2⟩, hbl⟩ := Cf.parse_both s hs
  have HP1 := Lib.hid HP1
  have HP2 := Lib.hid HP2
  have HOF := Lib.hid (fun (w' : World) (hb : Below w.heap.size w w') => of_any x ma he de ag b off cap L w' ao hao (hPI.after hb) hln)
  have HRR := Lib.hid (fun (w' : World) (hb : Below w.heap.size w w') => rright23 x ma he de ag b off cap L w' ao hao (hPI.after hb) hln)
  have HCR := Lib.hid (fun (w' : World) (ao' : Option Addr) (b' off' cap' : Nat) (h1 : ao' = some ⟨b', off', none⟩ ∨ L = []) (h2 : Cf.PIn w' b' off' L) => cright_any x ma he de ag b' off' cap' L w' ao' h1 h2 hln)
  have HNO := Lib.hid (fun (hr : Cf.confOk L ag ma he de = false) (w' : World) (ao' : Option Addr) (b' off' cap' : Nat) (h1 : ao' = some ⟨b', off', none⟩ ∨ L = []) (h2 : Cf.PIn w' b' off' L) => print_no x ma he de ag b' off' cap' L w' ao' h1 h2 hln hr)
  have HPR := Lib.hid (fun hr => Cf.prints (x := x) (L := L) (ma := ma) (he := he) (de := de) (ag := ag) hr hlt hln)
  have HPW := Lib.hid (fun (w' : World) (hb : Below w.heap.size w w') => hPI.after hb)
  have HAO := Lib.hid hao
  clear hs hL hao hf hPI hlt hln
  go_enter Tryz.func3, Tryz.ntmps3
  go_upto_region 1 with fail
  have HX : Hid (RowIs (w.alloc (.cells #[.int .u8 ((x.f 0).toNat : Int), .int .u8 ((x.f 1).toNat : Int), .int .u8 ((x.f 2).toNat : Int), .int .u8 ((x.f 3).toNat : Int), .int .u8 ((x.f 4).toNat : Int), .int .u8 ((x.f 5).toNat : Int), .int .u8 ((x.f 6).toNat : Int), .int .u8 ((x.f 7).toNat : Int), .int .i64 ma, .int .i64 he, .int .i64 de, .int .i64 ag, .slice ao L.length cap] 25)) w.heap.size 25 #[.int .u8 ((x.f 0).toNat : Int), .int .u8 ((x.f 1).toNat : Int), .int .u8 ((x.f 2).toNat : Int), .int .u8 ((x.f 3).toNat : Int), .int .u8 ((x.f 4).toNat : Int), .int .u8 ((x.f 5).toNat : Int), .int .u8 ((x.f 6).toNat : Int), .int .u8 ((x.f 7).toNat : Int), .int .i64 ma, .int .i64 he, .int .i64 de, .int .i64 ag, .slice ao L.length cap]) := by show RowIs _ _ _ _; exact rowIs_new w _ _
  have hbW : Below w.heap.size w (w.alloc (.cells #[.int .u8 ((x.f 0).toNat : Int), .int .u8 ((x.f 1).toNat : Int), .int .u8 ((x.f 2).toNat : Int), .int .u8 ((x.f 3).toNat : Int), .int .u8 ((x.f 4).toNat : Int), .int .u8 ((x.f 5).toNat : Int), .int .u8 ((x.f 6).toNat : Int), .int .u8 ((x.f 7).toNat : Int), .int .i64 ma, .int .i64 he, .int .i64 de, .int .i64 ag, .slice ao L.length cap] 25)) := (Below.refl _ _).alloc (Nat.le_refl _) _
  generalize w.alloc (.cells #[.int .u8 ((x.f 0).toNat : Int), .int .u8 ((x.f 1).toNat : Int), .int .u8 ((x.f 2).toNat : Int), .int .u8 ((x.f 3).toNat : Int), .int .u8 ((x.f 4).toNat : Int), .int .u8 ((x.f 5).toNat : Int), .int .u8 ((x.f 6).toNat : Int), .int .u8 ((x.f 7).toNat : Int), .int .i64 ma, .int .i64 he, .int .i64 de, .int .i64 ag, .slice ao L.length cap] 25) = w1 at *
  go_wp2_with ((with_reducible refine at_load 25 (.tmp 3) ?_); refine wpList_load_own rfl 25 (.tmp 3) rfl w.heap.size rfl 25 _ _ HX.out Tryz.underlying25 rfl Cf.rinfo_conf ?_)
  refine (awake_any _).mono ?_
  rintro e w2 ⟨rfl, hb⟩
  have HX := Lib.hid (HX.out.kept hb)
  have hbW := hbW.trans (hb.mono hbW.size)
  clear hb
  go_wp2_with ((with_reducible refine at_load 25 (.tmp 3) ?_); refine wpList_load_own rfl 25 (.tmp 3) rfl w.heap.size rfl 25 _ _ HX.out Tryz.underlying25 rfl Cf.rinfo_conf ?_)
  refine (HFW.out _ hbW).mono ?_
  rintro e w3 ⟨rfl, hb⟩
  have HX := Lib.hid (HX.out.kept hb)
  have hbW := hbW.trans (hb.mono hbW.size)
  clear hb
  go_wp2_with ((with_reducible refine at_load 25 (.tmp 3) ?_); refine wpList_load_own rfl 25 (.tmp 3) rfl w.heap.size rfl 25 _ _ HX.out Tryz.underlying25 rfl Cf.rinfo_conf ?_)
  refine (HP1.out _).mono ?_
  rintro e w4 ⟨⟨L1, a1, b1, o1, c1, rfl, ha1, hp1, hl1⟩, hb⟩
  have HX := Lib.hid (HX.out.kept hb)
  have hbW := hbW.trans (hb.mono hbW.size)
  have HA1 := Lib.hid ha1
  have HPI1 := Lib.hid hp1
  have HL1 := Lib.hid hl1
  clear hb ha1 hp1 hl1
  go_upto_region 4 with ((with_reducible refine at_store 33 (.tmp 5) (.tmp 30) ?_); refine wpList_store_own rfl 33 (.tmp 5) (.tmp 30) rfl w4.heap.size #[.int .u8 ((y.f 0).toNat : Int), .int .u8 ((y.f 1).toNat : Int), .int .u8 ((y.f 2).toNat : Int), .int .u8 ((y.f 3).toNat : Int), .int .u8 ((y.f 4).toNat : Int), .int .u8 ((y.f 5).toNat : Int), .int .u8 ((y.f 6).toNat : Int), .int .u8 ((y.f 7).toNat : Int), .int .i64 m, .int .i64 h, .int .i64 d, .int .i64 g, .slice a1 L1.length c1] rfl rfl 33 _ (rowIs_new w4 _ _) Cf.info_conf rfl (by simp [Value.oneCell']) w4.heap.size (Nat.le_refl _) ?_)
  intro w5 hR _ _ hb5
  have hb := ((Below.refl _ w4).alloc (Nat.le_refl _) _).trans hb5
  have HX := Lib.hid (HX.out.kept hb)
  have hbW := hbW.trans (hb.mono hbW.size)
  have HPI1 := Lib.hid (HPI1.out.after hb)
  have H5 := Lib.hid hR
  clear hb hb5 hR
  go_wp2_with fail
  refine (HP2.out _).mono ?_
  rintro e w6 ⟨⟨L2, a2, b2, o2, c2, rfl, ha2, hp2, hl2⟩, hb⟩
  have HX := Lib.hid (HX.out.kept hb)
  have H5 := Lib.hid (H5.out.kept hb)
  have hbW := hbW.trans (hb.mono hbW.size)
  have HPI1 := Lib.hid (HPI1.out.after hb)
  have HA2 := Lib.hid ha2
  have HPI2 := Lib.hid hp2
  have HL2 := Lib.hid hl2
  clear hb ha2 hp2 hl2
  go_upto_region 5 with ((with_reducible refine at_store 25 (.tmp 8) (.tmp 36) ?_); refine wpList_store_own rfl 25 (.tmp 8) (.tmp 36) rfl w6.heap.size #[.int .u8 ((y.f 0).toNat : Int), .int .u8 ((y.f 1).toNat : Int), .int .u8 ((y.f 2).toNat : Int), .int .u8 ((y.f 3).toNat : Int), .int .u8 ((y.f 4).toNat : Int), .int .u8 ((y.f 5).toNat : Int), .int .u8 ((y.f 6).toNat : Int), .int .u8 ((y.f 7).toNat : Int), .int .i64 m, .int .i64 h, .int .i64 d, .int .i64 g, .slice a2 L2.length c2] rfl rfl 25 _ (rowIs_new w6 _ _) Cf.rinfo_conf rfl (by simp [Value.oneCell']) w6.heap.size (Nat.le_refl _) ?_)
  intro w7 hR _ _ hb5
  have hb := ((Below.refl _ w6).alloc (Nat.le_refl _) _).trans hb5
  have HX := Lib.hid (HX.out.kept hb)
  have H5 := Lib.hid (H5.out.kept hb)
  have hbW := hbW.trans (hb.mono hbW.size)
  have HPI1 := Lib.hid (HPI1.out.after hb)
  have HPI2 := Lib.hid (HPI2.out.after hb)
  have H8 := Lib.hid hR
  have hll : L2.length = L1.length := by have := congrArg List.length (HL1.out.trans HL2.out.symm); simpa using this.symm
  have hl1 : L1.length ≤ 10000 := by have := congrArg List.length HL1.out; rw [List.length_map] at this; omega
  have HSM := Lib.hid (same_any y m h d g b1 o1 c1 b2 o2 c2 L1 L2 w7 a1 a2 HA1.out HPI1.out HA2.out HPI2.out (HL1.out.trans HL2.out.symm) hl1)
  rw [← hll] at HSM
  have HSM2 : Hid (Calls Tryz.prog 8 #[.agg #[.int .u8 ((y.f 0).toNat : Int), .int .u8 ((y.f 1).toNat : Int), .int .u8 ((y.f 2).toNat : Int), .int .u8 ((y.f 3).toNat : Int), .int .u8 ((y.f 4).toNat : Int), .int .u8 ((y.f 5).toNat : Int), .int .u8 ((y.f 6).toNat : Int), .int .u8 ((y.f 7).toNat : Int), .int .i64 m, .int .i64 h, .int .i64 d, .int .i64 g, .slice a1 L1.length c1], .agg #[.int .u8 ((y.f 0).toNat : Int), .int .u8 ((y.f 1).toNat : Int), .int .u8 ((y.f 2).toNat : Int), .int .u8 ((y.f 3).toNat : Int), .int .u8 ((y.f 4).toNat : Int), .int .u8 ((y.f 5).toNat : Int), .int .u8 ((y.f 6).toNat : Int), .int .u8 ((y.f 7).toNat : Int), .int .i64 m, .int .i64 h, .int .i64 d, .int .i64 g, .slice a2 L2.length c2]] w7 fun e w' => e = .returned (.int .i64 1) ∧ Below w7.heap.size w7 w') := by
    have h := HSM.out
    rw [hll] at h ⊢
    exact h
  clear hb hb5 hR hll hl1 HSM HA1 HA2 HPI1 HPI2 HL1 HL2 HP1 HP2
  go_wp2_with (first | ((with_reducible refine at_load 33 (.tmp 5) ?_); refine wpList_load_own rfl 33 (.tmp 5) rfl w4.heap.size rfl 33 _ _ H5.out Tryz.underlying33 rfl Cf.info_conf ?_) | ((with_reducible refine at_load 25 (.tmp 8) ?_); refine wpList_load_own rfl 25 (.tmp 8) rfl w6.heap.size rfl 25 _ _ H8.out Tryz.underlying25 rfl Cf.rinfo_conf ?_))
  refine HSM2.out.mono ?_
  rintro e w8 ⟨rfl, hb⟩
  have HX := Lib.hid (HX.out.kept hb)
  have hbW := hbW.trans (hb.mono hbW.size)
  clear hb H5 H8 HSM2
  go_wp2_with ((with_reducible refine at_load 25 (.tmp 3) ?_); refine wpList_load_own rfl 25 (.tmp 3) rfl w.heap.size rfl 25 _ _ HX.out Tryz.underlying25 rfl Cf.rinfo_conf ?_)
  refine (HOF.out _ hbW).mono ?_
  rintro e w9 ⟨⟨a3, b3, o3, c3, rfl, ha3, hp3⟩, hb⟩
  have HX := Lib.hid (HX.out.kept hb)
  have hbW := hbW.trans (hb.mono hbW.size)
  clear hb
  cases hr : Cf.confOk L ag ma he de with
  | false =>
    have HRV := Lib.hid hr
    rw [hr] at HRR
    have HN3 := Lib.hid (HNO.out hr w9 a3 b3 o3 c3 ha3 hp3)
    clear hr ha3 hp3 HNO HPR
    go_wp2_with fail
    refine HN3.out.mono ?_
    rintro e w10 ⟨rfl, hb⟩
    have HX := Lib.hid (HX.out.kept hb)
    have hbW := hbW.trans (hb.mono hbW.size)
    clear hb
    go_wp2_with ((with_reducible refine at_load 25 (.tmp 3) ?_); refine wpList_load_own rfl 25 (.tmp 3) rfl w.heap.size rfl 25 _ _ HX.out Tryz.underlying25 rfl Cf.rinfo_conf ?_)
    refine (HRR.out _ hbW).mono ?_
    rintro e w11 ⟨rfl, hb⟩
    have HX := Lib.hid (HX.out.kept hb)
    have hbW := hbW.trans (hb.mono hbW.size)
    clear hb
    go_wp2_with ((with_reducible refine at_load 25 (.tmp 3) ?_); refine wpList_load_own rfl 25 (.tmp 3) rfl w.heap.size rfl 25 _ _ HX.out Tryz.underlying25 rfl Cf.rinfo_conf ?_)
    refine (HOF.out _ hbW).mono ?_
    rintro e w12 ⟨⟨a4, b4, o4, c4, rfl, ha4, hp4⟩, hb⟩
    have HX := Lib.hid (HX.out.kept hb)
    have hbW := hbW.trans (hb.mono hbW.size)
    clear hb
    have HC4 := Lib.hid (HCR.out w12 a4 b4 o4 c4 ha4 hp4)
    rw [HRV.out] at HC4
    clear ha4 hp4
    go_wp2_with fail
    refine HC4.out.mono ?_
    rintro e w13 ⟨rfl, hb⟩
    have HX := Lib.hid (HX.out.kept hb)
    have hbW := hbW.trans (hb.mono hbW.size)
    clear hb HC4
    go_wp2_with fail
    go_ret
    exact ⟨rfl, hbW⟩
  | true =>
    have HRV := Lib.hid hr
    rw [hr] at HRR
    obtain ⟨tx, ht1, ht2⟩ := HPR.out hr
    have HT2 := Lib.hid ht2
    have HN3 := Lib.hid (ht1 w9 a3 b3 o3 c3 ha3 hp3)
    clear hr ha3 hp3 HNO HPR ht1 ht2
    go_wp2_with fail
    refine HN3.out.mono ?_
    rintro e w10 ⟨rfl, hb⟩
    have HX := Lib.hid (HX.out.kept hb)
    have hbW := hbW.trans (hb.mono hbW.size)
    clear hb
    go_wp2_with ((with_reducible refine at_load 25 (.tmp 3) ?_); refine wpList_load_own rfl 25 (.tmp 3) rfl w.heap.size rfl 25 _ _ HX.out Tryz.underlying25 rfl Cf.rinfo_conf ?_)
    refine (HRR.out _ hbW).mono ?_
    rintro e w11 ⟨rfl, hb⟩
    have HX := Lib.hid (HX.out.kept hb)
    have hbW := hbW.trans (hb.mono hbW.size)
    clear hb
    go_wp2_with ((with_reducible refine at_load 25 (.tmp 3) ?_); refine wpList_load_own rfl 25 (.tmp 3) rfl w.heap.size rfl 25 _ _ HX.out Tryz.underlying25 rfl Cf.rinfo_conf ?_)
    refine (HOF.out _ hbW).mono ?_
    rintro e w12 ⟨⟨a4, b4, o4, c4, rfl, ha4, hp4⟩, hb⟩
    have HX := Lib.hid (HX.out.kept hb)
    have hbW := hbW.trans (hb.mono hbW.size)
    clear hb
    have HC4 := Lib.hid (HCR.out w12 a4 b4 o4 c4 ha4 hp4)
    rw [HRV.out] at HC4
    clear ha4 hp4
    go_wp2_with fail
    refine HC4.out.mono ?_
    rintro e w13 ⟨rfl, hb⟩
    have HX := Lib.hid (HX.out.kept hb)
    have hbW := hbW.trans (hb.mono hbW.size)
    clear hb HC4
    have HR4 := Lib.hid (HT2.out w13 ao b off cap HAO.out (HPW.out _ hbW))
    go_wp2_with ((with_reducible refine at_load 25 (.tmp 3) ?_); refine wpList_load_own rfl 25 (.tmp 3) rfl w.heap.size rfl 25 _ _ HX.out Tryz.underlying25 rfl Cf.rinfo_conf ?_)
    refine HR4.out.mono ?_
    rintro e w14 ⟨rfl, hb⟩
    have hbW := hbW.trans (hb.mono hbW.size)
    clear hb HR4
    go_wp2_with fail
    go_ret
    exact ⟨rfl, hbW⟩
theorem confPlays_walk (s : ByteArray) (x : Id8) (ma he de ag : Int) (b off cap : Nat) (L : List Cf.Pv) (w : World) (ao : Option Addr) (hao : ao = some ⟨b, off, none⟩ ∨ L = []) (hL : Cf.PIn0 w b off L) : Calls Tryz.prog 3 #[.string s, .agg #[.int .u8 ((x.f 0).toNat : Int), .int .u8 ((x.f 1).toNat : Int), .int .u8 ((x.f 2).toNat : Int), .int .u8 ((x.f 3).toNat : Int), .int .u8 ((x.f 4).toNat : Int), .int .u8 ((x.f 5).toNat : Int), .int .u8 ((x.f 6).toNat : Int), .int .u8 ((x.f 7).toNat : Int), .int .i64 ma, .int .i64 he, .int .i64 de, .int .i64 ag, .slice ao L.length cap]] w fun e w' => e = .returned (.bool true) ∧ Below w.heap.size w w' := by
  rcases Nat.lt_or_ge 3000 s.size with h | hs
  · exact confPlays_long s x ma he de ag b off cap L w ao hao hL h
  cases hf : Cf.fewOk L with
  | false => exact confPlays_many s x ma he de ag b off cap L w ao hao hL hs hf
  | true => exact confPlays_main s x ma he de ag b off cap L w ao hao hL hs hf
end Go.Proofs.YthfckdnennfnoaaGreatDoor
-- A configuration as an argument. By an AI agent. 
namespace Go.Proofs.YthfckdnennfnoaaGreatDoor
open Go.ChangeShapes Go.WideShapes Go.ChangeAt Go.RowKit Go.Deep Go.Joins
namespace Cf
def RowsAt0 {α : Type} (w : World) (ao : Option Addr) (encA : α → List Value) (k : Nat) (vs : List α) : Prop := vs = [] ∨ ∃ b off, ao = some ⟨b, off, none⟩ ∧ b < w.heap.size ∧ ∀ i (h : i < vs.length) j v, (encA vs[i])[j]? = some v → w.cell? ⟨b, off + i * k + j, none⟩ = some v
end Cf
section
theorem open_ints_at0 {H : Type} {enc : TypeId × Value → H} {w : World} {held : Bool} {sp : Nat → Bool} {fuel : Nat} {v : Value} {x : DataW H × List MemPlace} (h : DataW.trod enc Tryz.prog w 0 sp held fuel 47 [v] = some x) :
    ∃ (ao : Option Addr) (zs : List Int) (cap : Nat), v = .slice ao zs.length cap ∧ zs.length ≤ 9223372036854775807 ∧ IntsAt w ao zs := by
  rcases open_ints Tryz.underlying47 Tryz.underlying3 (by kernel_rfl) h with ⟨hcs, _⟩ | ⟨a, len, cap, zs, hcs, _, hl, hm, hz, _, hcell, _⟩
  · simp only [List.cons.injEq, and_true] at hcs
    exact ⟨none, [], 0, hcs, by decide, Or.inl rfl⟩
  · simp only [List.cons.injEq, and_true] at hcs
    have hlen : len ≤ zs.length := by rw [hz]; split <;> omega
    have htl : (zs.take len).length = len := by rw [List.length_take]; omega
    refine ⟨some a, zs.take len, cap, by rw [htl]; exact hcs, by unfold maxLen at hm; omega, ?_⟩
    by_cases h0 : len = 0
    · left; rw [h0]; rfl
    · obtain ⟨b, off, rfl, hc⟩ := ints_at hcell (by omega)
      refine Or.inr ⟨b, off, rfl, fun i hi => ?_⟩
      rw [htl] at hi
      rw [hc i (by omega)]
      congr 2
      rw [List.getD, List.getD, List.getElem?_take, if_pos hi]


end
section
variable {H : Type} {enc : TypeId × Value → H} {w : World} {held : Bool} {sp : Nat → Bool}
set_option maxRecDepth 20000 in
theorem open_rows18 {α : Type} {st et : TypeId} {G : α → Prop} (encA : α → List Value) (k : Nat) (hk0 : 0 < k) (hlen : ∀ a, (encA a).length = k) (hst : Tryz.prog.underlying st = some (.slice et)) (hke : Tryz.prog.cellsOf et = k) (hP : ∀ n l x, DataW.trod enc Tryz.prog w 0 sp held n et l = some x → ∃ a, l = encA a ∧ G a)
    {fuel : Nat} {v : Value} {x : DataW H × List MemPlace} (hf : DataW.trod enc Tryz.prog w 0 sp held fuel st [v] = some x) :
    ∃ (ao : Option Addr) (vs : List α) (cap : Nat), v = .slice ao vs.length cap ∧ Cf.RowsAt0 w ao encA k vs ∧ ∀ a ∈ vs, G a := by
  rcases open_slice hst hf with ⟨hcs, _⟩ | ⟨a, len, cap, m, n, D, Pl, hcs, _, hl, hm, hmm, _, hi⟩
  · simp only [List.cons.injEq, and_true] at hcs
    exact ⟨none, [], 0, hcs, .inl rfl, fun u hu => by cases hu⟩
  · simp only [List.cons.injEq, and_true] at hcs
    have hlm : len ≤ m := by rw [hmm]; split <;> omega
    have each : ∀ i, i < len → ∃ v : α, w.cells? 0 (a.add (i * k)) k = some (encA v) ∧ G v := by
      intro i hil
      obtain ⟨cs', hc, ht⟩ := hi i (by omega)
      obtain ⟨v, rfl, h1⟩ := hP _ _ _ ht
      rw [hke] at hc
      exact ⟨v, hc, h1⟩
    refine ⟨some a, (List.range len).attach.map fun i => (each i.1 (List.mem_range.1 i.2)).choose, cap, by rw [List.length_map, List.length_attach, List.length_range]; exact hcs, ?_, ?_⟩
    · by_cases h0 : len = 0
      · subst h0; exact .inl rfl
      · obtain ⟨_, _, hcell⟩ := World.cells?_some (each 0 (by omega)).choose_spec.1
        have hc0 := hcell 0 hk0
        obtain ⟨b, off, spot⟩ := a
        have hc0' : w.cell? (((⟨b, off, spot⟩ : Addr).add (0 * k)).add 0) = some _ := hc0.trans (List.getElem?_eq_getElem (by rw [hlen]; exact hk0))
        have hspot : spot = none := by simpa [Addr.add] using World.cell?_spot hc0'
        subst hspot
        refine .inr ⟨b, off, rfl, ?_, ?_⟩
        · have := block_lt_of_cell hc0'
          simpa [Addr.add] using this
        · intro i hil j v hj
          have hil' : i < len := by simpa using hil
          obtain ⟨_, _, hcell⟩ := World.cells?_some (each i hil').choose_spec.1
          have hj18 : j < k := by
            have := (List.getElem?_eq_some_iff.1 hj).1
            rwa [hlen] at this
          have hq := hcell j hj18
          refine Eq.trans (congrArg w.cell? (show (⟨b, off + i * k + j, none⟩ : Addr) = ((⟨b, off, none⟩ : Addr).add (i * k)).add j by rw [Addr.add_mid, Addr.add_mid])) (hq.trans ?_)
          simpa using hj
    · intro u hu
      obtain ⟨i, _, rfl⟩ := List.mem_map.1 hu
      exact (each i.1 (List.mem_range.1 i.2)).choose_spec.2


set_option maxRecDepth 20000 in
theorem trod_u818 {n : Nat} {v : Value} {x : DataW H × List MemPlace} (h : DataW.trod enc Tryz.prog w 0 sp held n 5 [v] = some x) : ∃ u : UInt8, v = .int .u8 (u.toNat : Int) := by
  obtain ⟨n, e, _, wf⟩ := DataW.trod_int Tryz.underlying5 h
  simp only [List.cons.injEq, and_true] at e
  simp only [Lit.wf, Bool.and_eq_true, decide_eq_true_eq] at wf
  have wf : 0 ≤ n ∧ n ≤ 255 := wf
  refine ⟨UInt8.ofNat n.toNat, ?_⟩
  rw [e]
  congr 1
  rw [UInt8.toNat_ofNat']
  omega

set_option maxRecDepth 20000 in
theorem trod_id18 {n : Nat} {l : List Value} {x : DataW H × List MemPlace} (h : DataW.trod enc Tryz.prog w 0 sp held n 22 l = some x) : ∃ m : Id8, l = [.int .u8 ((m.f 0).toNat : Int), .int .u8 ((m.f 1).toNat : Int), .int .u8 ((m.f 2).toNat : Int), .int .u8 ((m.f 3).toNat : Int), .int .u8 ((m.f 4).toNat : Int), .int .u8 ((m.f 5).toNat : Int), .int .u8 ((m.f 6).toNat : Int), .int .u8 ((m.f 7).toNat : Int)] := by
  obtain ⟨xs, m, _, _, hl, hxl, hi⟩ := DataW.trod_array Tryz.underlying22 h
  have hl : l.length = 8 := hl.trans (by kernel_rfl)
  have key : ∀ i (h8 : i < 8), ∃ u : UInt8, l[i] = .int .u8 (u.toNat : Int) := by
    intro i h8
    have h := hi i h8
    rw [show Tryz.prog.cellsOf 5 = 1 from by kernel_rfl, List.getElem?_eq_getElem (show i < xs.length by omega), Nat.mul_one, List.drop_eq_getElem_cons (by omega)] at h
    simp only [List.take_succ_cons, List.take_zero] at h
    exact trod_u818 h
  obtain ⟨a0, a1, a2, a3, a4, a5, a6, a7, rfl⟩ : ∃ a0 a1 a2 a3 a4 a5 a6 a7, l = [a0, a1, a2, a3, a4, a5, a6, a7] := by
    match l, hl with
    | [a0, a1, a2, a3, a4, a5, a6, a7], _ => exact ⟨a0, a1, a2, a3, a4, a5, a6, a7, rfl⟩
  obtain ⟨u0, h0⟩ := key 0 (by decide)
  obtain ⟨u1, h1⟩ := key 1 (by decide)
  obtain ⟨u2, h2⟩ := key 2 (by decide)
  obtain ⟨u3, h3⟩ := key 3 (by decide)
  obtain ⟨u4, h4⟩ := key 4 (by decide)
  obtain ⟨u5, h5⟩ := key 5 (by decide)
  obtain ⟨u6, h6⟩ := key 6 (by decide)
  obtain ⟨u7, h7⟩ := key 7 (by decide)
  have h0 : a0 = _ := h0
  have h1 : a1 = _ := h1
  have h2 : a2 = _ := h2
  have h3 : a3 = _ := h3
  have h4 : a4 = _ := h4
  have h5 : a5 = _ := h5
  have h6 : a6 = _ := h6
  have h7 : a7 = _ := h7
  subst h0 h1 h2 h3 h4 h5 h6 h7
  exact ⟨⟨u0, u1, u2, u3, u4, u5, u6, u7⟩, rfl⟩

set_option maxRecDepth 20000 in
theorem trod_i0 {n : Nat} {v : Value} {x : DataW H × List MemPlace} (h : DataW.trod enc Tryz.prog w 0 sp held n 3 [v] = some x) : ∃ c : Int, v = .int .i64 c := by
  obtain ⟨c, e, _, _⟩ := DataW.trod_int Tryz.underlying3 h
  simp only [List.cons.injEq, and_true] at e
  exact ⟨c, e⟩
set_option maxRecDepth 20000 in
theorem trod_bool0 {n : Nat} {v : Value} {x : DataW H × List MemPlace} (h : DataW.trod enc Tryz.prog w 0 sp held n 4 [v] = some x) : ∃ c : Bool, v = .bool c := by
  obtain ⟨c, e, _⟩ := DataW.trod_bool Tryz.underlying4 h
  simp only [List.cons.injEq, and_true] at e
  exact ⟨c, e⟩
set_option maxRecDepth 20000 in
theorem trod_is0 {n : Nat} {v : Value} {x : DataW H × List MemPlace} (h : DataW.trod enc Tryz.prog w 0 sp held n 47 [v] = some x) : ∃ (ao : Option Addr) (zs : List Int) (cap : Nat), v = .slice ao zs.length cap ∧ IntsAt w ao zs := by
  obtain ⟨ao, zs, cap, rfl, _, hI⟩ := open_ints_at0 h
  exact ⟨ao, zs, cap, rfl, hI⟩
/-- cells that are letters -/
theorem bytes_of0 : ∀ (l : List Value), (∀ i (h : i < l.length), ∃ u : UInt8, l[i] = .int .u8 (u.toNat : Int)) → ∃ bs : List UInt8, l = byteVals bs ∧ bs.length = l.length
  | [], _ => ⟨[], rfl, rfl⟩
  | a :: l, h => by
    obtain ⟨u, hu⟩ := h 0 (by simp)
    obtain ⟨bs, e, hb⟩ := bytes_of0 l fun i hi => by
      obtain ⟨v, hv⟩ := h (i + 1) (by simpa using hi)
      exact ⟨v, by simpa using hv⟩
    have hu : a = .int .u8 (u.toNat : Int) := by simpa using hu
    exact ⟨u :: bs, by rw [hu, e]; rfl, by simp [hb]⟩
set_option maxRecDepth 20000 in
theorem trod_k320 {n : Nat} {l : List Value} {x : DataW H × List MemPlace} (h : DataW.trod enc Tryz.prog w 0 sp held n 48 l = some x) : ∃ bs : List UInt8, l = byteVals bs ∧ bs.length = 32 := by
  obtain ⟨xs, m, _, _, hl, hxl, hi⟩ := DataW.trod_array Tryz.underlying48 h
  have hl : l.length = 32 := hl.trans (by kernel_rfl)
  obtain ⟨bs, e, hb⟩ := bytes_of0 l fun i h8 => by
    have h := hi i (by omega)
    rw [show Tryz.prog.cellsOf 5 = 1 from by kernel_rfl, List.getElem?_eq_getElem (show i < xs.length by omega), Nat.mul_one, List.drop_eq_getElem_cons (by omega)] at h
    simp only [List.take_succ_cons, List.take_zero] at h
    exact trod_u818 h
  exact ⟨bs, e, by omega⟩
/-- a port's cells, the key's 32 -/
def pvc32 (p : {p : Cf.Pv // p.psk.length = 32}) : List Value := Cf.pvc p.1
theorem pvc32_length (p : {p : Cf.Pv // p.psk.length = 32}) : (pvc32 p).length = 39 := by
  unfold pvc32 Cf.pvc byteVals
  simp [p.2]
set_option maxRecDepth 20000 in
theorem trod_port0 {n : Nat} {l : List Value} {x : DataW H × List MemPlace} (h : DataW.trod enc Tryz.prog w 0 sp held n 50 l = some x) : ∃ a : {p : Cf.Pv // p.psk.length = 32}, l = pvc32 a ∧ IntsAt w a.1.ta a.1.tags := by
  obtain ⟨xs, m, _, _, hl, hxl, hf⟩ := DataW.trod_struct Tryz.underlying50 h
  have hl : l.length = 39 := hl.trans (by kernel_rfl)
  have h0 := hf 0 _ rfl
  have h1 := hf 1 _ rfl
  have h2 := hf 2 _ rfl
  have h3 := hf 3 _ rfl
  have h4 := hf 4 _ rfl
  have h5 := hf 5 _ rfl
  have h6 := hf 6 _ rfl
  have h7 := hf 7 _ rfl
  have hx : xs.length = 8 := hxl.trans rfl
  rw [List.getElem?_eq_getElem (by omega)] at h0 h1 h2 h3 h4 h5 h6 h7
  have ei : Tryz.prog.cellsOf 3 = 1 := by kernel_rfl
  have es : Tryz.prog.cellsOf 47 = 1 := by kernel_rfl
  have eb : Tryz.prog.cellsOf 4 = 1 := by kernel_rfl
  have ek : Tryz.prog.cellsOf 48 = 32 := by kernel_rfl
  obtain ⟨a0, a1, a2, a3, a4, a5, a6, r, rfl⟩ : ∃ a0 a1 a2 a3 a4 a5 a6 r, l = a0 :: a1 :: a2 :: a3 :: a4 :: a5 :: a6 :: r := by
    match l, hl with
    | a0 :: a1 :: a2 :: a3 :: a4 :: a5 :: a6 :: r, _ => exact ⟨a0, a1, a2, a3, a4, a5, a6, r, rfl⟩
  have hr : r.length = 32 := by simpa using hl
  change DataW.trod enc _ w 0 sp held m 3 (List.take (Program.cellsOf _ 3) (List.drop 0 _)) = _ at h0
  change DataW.trod enc _ w 0 sp held m 47 (List.take (Program.cellsOf _ 47) (List.drop 1 _)) = _ at h1
  change DataW.trod enc _ w 0 sp held m 3 (List.take (Program.cellsOf _ 3) (List.drop 2 _)) = _ at h2
  change DataW.trod enc _ w 0 sp held m 3 (List.take (Program.cellsOf _ 3) (List.drop 3 _)) = _ at h3
  change DataW.trod enc _ w 0 sp held m 4 (List.take (Program.cellsOf _ 4) (List.drop 4 _)) = _ at h4
  change DataW.trod enc _ w 0 sp held m 3 (List.take (Program.cellsOf _ 3) (List.drop 5 _)) = _ at h5
  change DataW.trod enc _ w 0 sp held m 4 (List.take (Program.cellsOf _ 4) (List.drop 6 _)) = _ at h6
  change DataW.trod enc _ w 0 sp held m 48 (List.take (Program.cellsOf _ 48) (List.drop 7 _)) = _ at h7
  rw [ei] at h0 h2 h3 h5
  rw [es] at h1
  rw [eb] at h4 h6
  rw [ek] at h7
  simp only [List.drop_zero, List.drop_succ_cons, List.take_succ_cons, List.take_zero] at h0 h1 h2 h3 h4 h5 h6
  have e7 : List.take 32 (List.drop 7 (a0 :: a1 :: a2 :: a3 :: a4 :: a5 :: a6 :: r)) = r := by
    simp only [List.drop_zero, List.drop_succ_cons]
    rw [List.take_of_length_le (by omega)]
  rw [e7] at h7
  obtain ⟨i0, rfl⟩ := trod_i0 h0
  obtain ⟨ao, zs, cap, rfl, hI⟩ := trod_is0 h1
  obtain ⟨i2, rfl⟩ := trod_i0 h2
  obtain ⟨i3, rfl⟩ := trod_i0 h3
  obtain ⟨b4, rfl⟩ := trod_bool0 h4
  obtain ⟨i5, rfl⟩ := trod_i0 h5
  obtain ⟨b6, rfl⟩ := trod_bool0 h6
  obtain ⟨bs, rfl, hb⟩ := trod_k320 h7
  exact ⟨⟨⟨i0, ao, zs, cap, i2, i3, b4, i5, b6, bs⟩, hb⟩, rfl, hI⟩
set_option maxRecDepth 20000 in
theorem open_conf0 {r : Reach} {b0 : Nat} {v : Value} {d : DataW H} {p : List MemPlace} (hv : Value.okWide Tryz.prog w r b0 25 v) (h : DataW.Trod enc Tryz.prog w 0 sp held 25 v d p) :
    ∃ (x : Id8) (ma he de ag : Int) (b off cap : Nat) (L : List Cf.Pv) (ao : Option Addr), v = .agg #[.int .u8 ((x.f 0).toNat : Int), .int .u8 ((x.f 1).toNat : Int), .int .u8 ((x.f 2).toNat : Int), .int .u8 ((x.f 3).toNat : Int), .int .u8 ((x.f 4).toNat : Int), .int .u8 ((x.f 5).toNat : Int), .int .u8 ((x.f 6).toNat : Int), .int .u8 ((x.f 7).toNat : Int), .int .i64 ma, .int .i64 he, .int .i64 de, .int .i64 ag, .slice ao L.length cap] ∧ (ao = some ⟨b, off, none⟩ ∨ L = []) ∧ Cf.PIn0 w b off L := by
  obtain ⟨cs, rfl, hsz⟩ := okWide_struct Tryz.underlying25 hv
  obtain ⟨fuel, hf⟩ := h
  obtain ⟨xs, m, _, _, hl, hxl, hf⟩ := DataW.trod_struct Tryz.underlying25 hf
  obtain ⟨l⟩ := cs
  have hl : l.length = 13 := by have := hsz.trans (show _ = 13 by kernel_rfl); simpa using this
  have h0 := hf 0 _ rfl
  have h1 := hf 1 _ rfl
  have h2 := hf 2 _ rfl
  have h3 := hf 3 _ rfl
  have h4 := hf 4 _ rfl
  have h5 := hf 5 _ rfl
  have hx : xs.length = 6 := hxl.trans rfl
  rw [List.getElem?_eq_getElem (by omega)] at h0 h1 h2 h3 h4 h5
  have ei : Tryz.prog.cellsOf 3 = 1 := by kernel_rfl
  have e8 : Tryz.prog.cellsOf 22 = 8 := by kernel_rfl
  have es : Tryz.prog.cellsOf 23 = 1 := by kernel_rfl
  obtain ⟨a0, a1, a2, a3, a4, a5, a6, a7, a8, a9, a10, a11, a12, rfl⟩ : ∃ a0 a1 a2 a3 a4 a5 a6 a7 a8 a9 a10 a11 a12, l = [a0, a1, a2, a3, a4, a5, a6, a7, a8, a9, a10, a11, a12] := by
    match l, hl with
    | [a0, a1, a2, a3, a4, a5, a6, a7, a8, a9, a10, a11, a12], _ => exact ⟨a0, a1, a2, a3, a4, a5, a6, a7, a8, a9, a10, a11, a12, rfl⟩
  change DataW.trod enc _ w 0 sp held m 22 (List.take (Program.cellsOf _ 22) (List.drop 0 [a0, a1, a2, a3, a4, a5, a6, a7, a8, a9, a10, a11, a12])) = _ at h0
  change DataW.trod enc _ w 0 sp held m 3 (List.take (Program.cellsOf _ 3) (List.drop 8 [a0, a1, a2, a3, a4, a5, a6, a7, a8, a9, a10, a11, a12])) = _ at h1
  change DataW.trod enc _ w 0 sp held m 3 (List.take (Program.cellsOf _ 3) (List.drop 9 [a0, a1, a2, a3, a4, a5, a6, a7, a8, a9, a10, a11, a12])) = _ at h2
  change DataW.trod enc _ w 0 sp held m 3 (List.take (Program.cellsOf _ 3) (List.drop 10 [a0, a1, a2, a3, a4, a5, a6, a7, a8, a9, a10, a11, a12])) = _ at h3
  change DataW.trod enc _ w 0 sp held m 3 (List.take (Program.cellsOf _ 3) (List.drop 11 [a0, a1, a2, a3, a4, a5, a6, a7, a8, a9, a10, a11, a12])) = _ at h4
  change DataW.trod enc _ w 0 sp held m 23 (List.take (Program.cellsOf _ 23) (List.drop 12 [a0, a1, a2, a3, a4, a5, a6, a7, a8, a9, a10, a11, a12])) = _ at h5
  rw [e8] at h0
  rw [ei] at h1 h2 h3 h4
  rw [es] at h5
  simp only [List.drop_zero, List.drop_succ_cons, List.take_succ_cons, List.take_zero] at h0 h1 h2 h3 h4 h5
  obtain ⟨x, hx8⟩ := trod_id18 h0
  obtain ⟨ma, rfl⟩ := trod_i0 h1
  obtain ⟨he, rfl⟩ := trod_i0 h2
  obtain ⟨de, rfl⟩ := trod_i0 h3
  obtain ⟨ag, rfl⟩ := trod_i0 h4
  obtain ⟨v5, hv5⟩ : ∃ v, a12 = v := ⟨_, rfl⟩
  obtain ⟨ao, vs, cap, rfl, hR, hG⟩ := open_rows18 (G := fun p => IntsAt w p.1.ta p.1.tags) pvc32 39 (by decide) pvc32_length Tryz.underlying23 (by kernel_rfl) (fun n l x h => trod_port0 h) h5
  simp only [List.cons.injEq, and_true] at hx8
  obtain ⟨r0, r1, r2, r3, r4, r5, r6, r7⟩ := hx8
  have hE : ∀ p ∈ vs.map (·.1), IntsAt w p.ta p.tags ∧ p.psk.length = 32 := by
    intro p hp
    obtain ⟨q, hq, rfl⟩ := List.mem_map.1 hp
    exact ⟨hG q hq, q.2⟩
  rcases hR with h0 | ⟨b, off, hao, hb, hc⟩
  · subst h0
    refine ⟨x, ma, he, de, ag, 0, 0, cap, [], ao, by rw [r0, r1, r2, r3, r4, r5, r6, r7]; rfl, .inr rfl, ?_, ?_, ?_⟩
    · intro i hi
      exact absurd hi (Nat.not_lt_zero _)
    · intro h
      exact absurd h (Nat.not_lt_zero _)
    · intro p hp
      cases hp
  · refine ⟨x, ma, he, de, ag, b, off, cap, vs.map (·.1), ao, by rw [r0, r1, r2, r3, r4, r5, r6, r7, List.length_map], .inl hao, ?_, fun _ => hb, hE⟩
    intro i hi j v hj
    have hi' : i < vs.length := by simpa using hi
    refine hc i hi' j v ?_
    rw [List.getD_eq_getElem?_getD, List.getElem?_eq_getElem hi, Option.getD_some] at hj
    simpa [pvc32] using hj
end
end Go.Proofs.YthfckdnennfnoaaGreatDoor
