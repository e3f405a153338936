/- causeyref12.Cut: the pieces of a text, by definition. By an AI agent. -/
import Derived.Test.YtmipdbmmhoacpaaTunRefParse
import Derived.Test.YtmipdbmmhoacpaaTunAwake
import Derived.Test.YtmipdbmmhoacpaaCell
namespace Go.Proofs.Ytmipdbmmhoacpaa
open Go.RowKit Go.Sort Grow

/-- a part of a text -/
def Tun.seg (s : ByteArray) (i : Nat) : ByteArray := s.extract (i * 512) (min ((i + 1) * 512) s.size)

theorem heap_alloc_new (w : World) (o : Obj) : (w.alloc o).heap[w.heap.size]? = some o := (MapKept.heap_alloc w o).1

theorem Tun.seg_first (s sk : ByteArray) (k : Nat) (h : sk = s.extract (k * 512) s.size) (h2 : 512 < sk.size) : sk.extract 0 512 = Tun.seg s k ∧ sk.extract 512 sk.size = s.extract ((k + 1) * 512) s.size := by
  have hz : sk.size = s.size - k * 512 := by rw [h, ByteArray.size_extract]; omega
  have hl : s.data.toList.length = s.size := by simp
  constructor
  · apply bytes_eq
    unfold Tun.seg
    rw [Oct.ext_toList, Oct.ext_toList, h, Oct.ext_toList, List.drop_zero, List.take_of_length_le (show (List.drop (k * 512) s.data.toList).length ≤ s.size - k * 512 by rw [List.length_drop]; omega), show min ((k + 1) * 512) s.size - k * 512 = 512 - 0 by omega]
  · apply bytes_eq
    rw [Oct.ext_toList, Oct.ext_toList, hz, h, Oct.ext_toList, List.take_of_length_le (show (List.drop (k * 512) s.data.toList).length ≤ s.size - k * 512 by rw [List.length_drop]; omega), List.drop_drop, show k * 512 + 512 = (k + 1) * 512 by omega, show s.size - k * 512 - 512 = s.size - (k + 1) * 512 by omega]

theorem Tun.seg_last (s sk : ByteArray) (k : Nat) (h : sk = s.extract (k * 512) s.size) (h2 : sk.size ≤ 512) (h3 : k * 512 ≤ s.size) : sk = Tun.seg s k := by
  have hz : sk.size = s.size - k * 512 := by rw [h, ByteArray.size_extract]; omega
  unfold Tun.seg
  rw [h, show min ((k + 1) * 512) s.size = s.size by omega]

set_option maxRecDepth 100000 in
set_option maxHeartbeats 2000000 in
theorem refCut_any (n : Nat) (s : ByteArray) (w : World) (hn : n < 4294967296) (h1 : 1 ≤ s.size) (h2 : s.size ≤ 1536) :
    Calls Try.prog 15 #[.int .u32 n, .string s] w fun e w' => ∃ ao cap, e = .returned (.slice ao (Tun.count s.size) cap) ∧ Strs.At w' ao (Tun.pieces n s) ∧ Below w.heap.size w w' := by
  obtain ⟨ti, tz, hi, hz, hz1, hz2, hz3⟩ := info_str
  have hi := Lib.hid hi
  have hz := Lib.hid hz
  have hz1 := Lib.hid hz1
  have hz2 := Lib.hid hz2
  have hz3 := Lib.hid hz3
  have F4 := Lib.hid fun w => refBytes_any n 4 w (by omega) (by decide)
  have hl := Oct.be_length 4 n
  have q1 : ¬ 9223372036854775807 < 1 + (Oct.be 4 n).length := by omega
  have hcount : Hid (∀ k : Nat, k * 512 < s.size → s.size ≤ (k + 1) * 512 → Tun.count s.size = k + 1) := fun k a b => by unfold Tun.count; omega
  go_enter Try.func15, Try.ntmps15
  go_wp2_with fail
  go_loopw [5, 1] (fun v t wr => ∃ (k : Nat) (sk : ByteArray), k ≤ 2 ∧ t = .string sk ∧ Hid (sk = s.extract (k * 512) s.size) ∧ Hid (sk.size = s.size - k * 512) ∧ k * 512 < s.size ∧ Hid (wr.ownsRow w.heap.size 9 1 v k (Strs.all ((List.range k).map (Tun.seg s)))) ∧ Below w.heap.size w wr) (fun _ t _ => match t with | .string x => x.size | _ => 0)
  case atStart => exact ⟨0, s, by decide, rfl, by show s = _; apply bytes_eq; rw [Oct.ext_toList, Nat.zero_mul, List.drop_zero]; exact (List.take_of_length_le (by simp)).symm, by show s.size = _; omega, by omega, ⟨rfl, .inl ⟨rfl, rfl⟩⟩, Below.refl _ _⟩
  case round =>
    rename_i mv _ wr
    obtain ⟨k, sk, hk, rfl, hsk, hsz, hks, hown, hbW⟩ := hrel
    by_cases h5 : 512 < sk.size
    · obtain ⟨e1, e2⟩ := Tun.seg_first s sk k hsk.out h5
      have E2 := Lib.hid e2
      have E1 := Lib.hid e1
      have E3 := Lib.hid (show Strs.all ((List.range (k + 1)).map (Tun.seg s)) = Strs.all ((List.range k).map (Tun.seg s)) ++ [.string (sk.extract 0 512)] by rw [List.range_succ, List.map_append, e1]; exact Strs.all_snoc _ _)
      clear e1 e2
      go_wp2_with (at_builtin; refine wpList_append_lies _ rfl (.tmp 10) (.tmp 13) 38 rfl w.heap.size 9 ti tz 1 16 Try.underlying38 hi.out hz.out hz1.out hz2.out hz3.out (by decide) _ k _ rfl (hown.out.alloc _) ⟨wr.heap.size, 0, none⟩ 1 1 [.string (sk.extract 0 512)] rfl rfl (World.news_of_block (heap_alloc_new _ _)) (by intro u hu; simp at hu; subst hu; rfl) (by decide) (by unfold maxLen; omega) (by omega) (Nat.le_trans hbW.size (by simp)) _ rfl ?_)
      intro g cap' w3 hown3 hgrow _ _
      have hbW := hbW.trans ((Below.alloc (Below.refl _ _) hbW.size _).trans (below_of_grown hgrow (Nat.le_trans hbW.size (by simp)) (fun q hq => (hown.out.lt q hq).1)))
      have HO := Lib.hid hown3
      clear hown3 hgrow
      go_wp2_with fail
      have hsz' := hsz.out
      refine ⟨⟨k + 1, _, by omega, rfl, E2.out, ?_, by omega, by show World.ownsRow _ _ _ _ _ _ _; rw [E3.out]; exact HO.out, hbW⟩, ?_⟩
      · show _ = _
        rw [ByteArray.size_extract]; omega
      · show (sk.extract 512 sk.size).size < sk.size
        rw [ByteArray.size_extract]; omega
    · have E1 := Lib.hid (Tun.seg_last s sk k hsk.out (by omega) (by omega))
      have hc := hcount.out k hks (by have := hsz.out; omega)
      have E3 := Lib.hid (show Strs.all ((List.range (k + 1)).map (Tun.seg s)) = Strs.all ((List.range k).map (Tun.seg s)) ++ [.string sk] by rw [List.range_succ, List.map_append]; rw [show [k].map (Tun.seg s) = [sk] by rw [List.map_singleton, ← E1.out]]; exact Strs.all_snoc _ _)
      have HC := Lib.hid hc
      clear hc
      go_wp2_with (at_builtin; refine wpList_append_lies _ rfl (.tmp 17) (.tmp 19) 38 rfl w.heap.size 9 ti tz 1 16 Try.underlying38 hi.out hz.out hz1.out hz2.out hz3.out (by decide) _ k _ rfl (hown.out.alloc _) ⟨wr.heap.size, 0, none⟩ 1 1 [.string (sk)] rfl rfl (World.news_of_block (heap_alloc_new _ _)) (by intro u hu; simp at hu; subst hu; rfl) (by decide) (by unfold maxLen; omega) (by omega) (Nat.le_trans hbW.size (by simp)) _ rfl ?_)
      intro g cap' w3 hown3 hgrow _ _
      have hbW := hbW.trans ((Below.alloc (Below.refl _ _) hbW.size _).trans (below_of_grown hgrow (Nat.le_trans hbW.size (by simp)) (fun q hq => (hown.out.lt q hq).1)))
      rw [← E3.out] at hown3
      obtain ⟨cur, hR, hcs, hgB, hcur⟩ : ∃ cur : Array Value, RowIs w3 g 9 cur ∧ k + 1 ≤ cur.size ∧ w.heap.size ≤ g ∧ ∀ j, j < k + 1 → cur[j]? = some (.string (if j < 0 then Tun.piece n (k + 1) s j else Tun.seg s j)) := by
        rcases hown3.2 with ⟨h, _⟩ | ⟨g', cap2, cur, hv, hg, hc, hle, hm, hs', ht⟩
        · cases h
        · simp only [Value.slice.injEq, Option.some.injEq, Addr.mk.injEq, and_true] at hv
          obtain ⟨rfl, _, rfl⟩ := hv
          refine ⟨cur, hc, by omega, hg, fun j hj => ?_⟩
          rw [if_neg (Nat.not_lt_zero j), ← Array.getElem?_toList]
          have e : (Strs.all ((List.range (k + 1)).map (Tun.seg s)))[j]? = some (.string (Tun.seg s j)) := by simp [Strs.all, hj]
          rw [← ht, List.getElem?_take_of_lt (by omega)] at e
          exact e
      clear hown3 hgrow
      go_wp2_with fail
      go_loopw [6] (fun i w4 => ∃ (q : Nat) (cur : Array Value), q ≤ k + 1 ∧ i = .int .i64 q ∧ Hid (RowIs w4 g 9 cur) ∧ k + 1 ≤ cur.size ∧ Hid (∀ j, j < k + 1 → cur[j]? = some (.string (if j < q then Tun.piece n (k + 1) s j else Tun.seg s j))) ∧ Below w.heap.size w w4) (fun i _ => k + 1 - (intOf i).toNat)
      case atStart => exact ⟨0, cur, Nat.zero_le _, rfl, hR, hcs, hcur, hbW⟩
      case round =>
        obtain ⟨q, cur, hq, rfl, HR, hcs, hcur, hbW⟩ := hrel
        by_cases hqk : q < k + 1
        · have hcell : wr.cell? ⟨g, q, none⟩ = some (.string (Tun.seg s q)) := by
            rw [HR.out.cell q, hcur.out q hqk, if_neg (Nat.lt_irrefl q)]
          have hP : Hid ((⟨#[1]⟩ : ByteArray) ++ ⟨(Oct.be 4 n).toArray⟩ ++ ⟨#[UInt8.ofNat q, UInt8.ofNat (k + 1)]⟩ ++ Tun.seg s q = Tun.piece n (k + 1) s q) := by
            show _ = _
            unfold Tun.piece Tun.seg
            congr 1
          have hsq : (Tun.seg s q).size ≤ 512 := by unfold Tun.seg; rw [ByteArray.size_extract]; omega
          generalize hsg : Tun.seg s q = sg at hcell hP hsq
          clear hsg
          have kc := cell_regrown hcell
          clear hcell
          have w1 : IntKind.i64.wrap (n : Int) = n := by rw [IntKind.wrap_i64]; omega
          have w2 : IntKind.u8.wrap (q : Int) = q := by rw [IntKind.wrap_u8']; omega
          have w3 : IntKind.u8.wrap ((k : Int) + 1) = (k : Int) + 1 := by rw [IntKind.wrap_u8']; omega
          have HK8 := Lib.hid (show ((UInt8.ofNat q).toNat : Int) = q by rw [UInt8.toNat_ofNat']; omega)
          have HC8 := Lib.hid (show ((UInt8.ofNat (k + 1)).toNat : Int) = (k : Int) + 1 by rw [UInt8.toNat_ofNat']; omega)
          go_upto_region 9 with fail
          refine wp_region_mix 20 (by kernel_rfl) (by kernel_rfl) (by kernel_rfl) ?_
          (refine mix_step (by kernel_rfl) (by kernel_rfl) (fun K hK => ?_); go_simp; (try (simp only [↓IntWalk.iteOmega]; go_simp)); (first | (refine hK _ ?_; clear hK K) | (apply Exists.intro; refine ⟨fun _ => ?_, hK _ ?_⟩; (first | fail); clear hK K)))
          (refine mix_step (by kernel_rfl) (by kernel_rfl) (fun K hK => ?_); go_simp; (try (simp only [↓IntWalk.iteOmega]; go_simp)); (first | (refine hK _ ?_; clear hK K) | (apply Exists.intro; refine ⟨fun _ => ?_, hK _ ?_⟩; (first | fail); clear hK K)))
          (refine mix_step (by kernel_rfl) (by kernel_rfl) (fun K hK => ?_); go_simp; (try (simp only [↓IntWalk.iteOmega]; go_simp)); (first | (refine hK _ ?_; clear hK K) | (apply Exists.intro; refine ⟨fun _ => ?_, hK _ ?_⟩; (first | fail); clear hK K)))
          (refine mix_step (by kernel_rfl) (by kernel_rfl) (fun K hK => ?_); go_simp; (try (simp only [↓IntWalk.iteOmega]; go_simp)); (first | (refine hK _ ?_; clear hK K) | (apply Exists.intro; refine ⟨fun _ => ?_, hK _ ?_⟩; (first | fail); clear hK K)))
          (refine mix_step (by kernel_rfl) (by kernel_rfl) (fun K hK => ?_); go_simp; (try (simp only [↓IntWalk.iteOmega]; go_simp)); (first | (refine hK _ ?_; clear hK K) | (apply Exists.intro; refine ⟨fun _ => ?_, hK _ ?_⟩; (first | exact F4.out _); clear hK K)))
          (refine mix_step (by kernel_rfl) (by kernel_rfl) (fun K hK => ?_); go_simp; (try (simp only [↓IntWalk.iteOmega]; go_simp)); (first | (refine hK _ ?_; clear hK K) | (apply Exists.intro; refine ⟨fun _ => ?_, hK _ ?_⟩; (first | fail); clear hK K)))
          (refine mix_step (by kernel_rfl) (by kernel_rfl) (fun K hK => ?_); go_simp; (try (simp only [↓IntWalk.iteOmega]; go_simp)); (first | (refine hK _ ?_; clear hK K) | (apply Exists.intro; refine ⟨fun _ => ?_, hK _ ?_⟩; (first | fail); clear hK K)))
          (refine mix_step (by kernel_rfl) (by kernel_rfl) (fun K hK => ?_); go_simp; (try (simp only [↓IntWalk.iteOmega]; go_simp)); (first | (refine hK _ ?_; clear hK K) | (apply Exists.intro; refine ⟨fun _ => ?_, hK _ ?_⟩; (first | fail); clear hK K)))
          (refine mix_step (by kernel_rfl) (by kernel_rfl) (fun K hK => ?_); go_simp; (try (simp only [↓IntWalk.iteOmega]; go_simp)); (first | (refine hK _ ?_; clear hK K) | (apply Exists.intro; refine ⟨fun _ => ?_, hK _ ?_⟩; (first | fail); clear hK K)))
          (refine mix_step (by kernel_rfl) (by kernel_rfl) (fun K hK => ?_); go_simp; (try (simp only [↓IntWalk.iteOmega]; go_simp)); (first | (refine hK _ ?_; clear hK K) | (apply Exists.intro; refine ⟨fun _ => ?_, hK _ ?_⟩; (first | fail); clear hK K)))
          (refine mix_step (by kernel_rfl) (by kernel_rfl) (fun K hK => ?_); go_simp; (try (simp only [↓IntWalk.iteOmega]; go_simp)); (first | (refine hK _ ?_; clear hK K) | (apply Exists.intro; refine ⟨fun _ => ?_, hK _ ?_⟩; (first | fail); clear hK K)))
          refine mix_special _ 38 rfl rfl (stable_row _ _ _ _) (owes_buildSlice (cells := #[.int .u8 (q : Int), .int .u8 ((k : Int) + 1)]) rfl (by simp) Try.underlying60 (sz := 1) (z := .int .u8 0) (by kernel_rfl) (by decide) (by decide) (by kernel_rfl)) ?_
          refine mix_exact (.string ⟨#[UInt8.ofNat q, UInt8.ofNat (k + 1)]⟩) rfl (exact_string (B := wr.heap.size) (t := 5) (l := [UInt8.ofNat q, UInt8.ofNat (k + 1)]) rfl (by simp only [byteVals, List.map_cons, List.map_nil, HK8.out, HC8.out, List.length_cons, List.length_nil]; simp) Try.underlying60 Try.underlying5 Try.underlying9) ?_
          (refine mix_step (by kernel_rfl) (by kernel_rfl) (fun K hK => ?_); go_simp; (try (simp only [↓IntWalk.iteOmega]; go_simp)); (first | (refine hK _ ?_; clear hK K) | (apply Exists.intro; refine ⟨fun _ => ?_, hK _ ?_⟩; (first | fail); clear hK K)))
          (refine mix_step (by kernel_rfl) (by kernel_rfl) (fun K hK => ?_); go_simp; (try (simp only [↓IntWalk.iteOmega]; go_simp)); (first | (refine hK _ ?_; clear hK K) | (apply Exists.intro; refine ⟨fun _ => ?_, hK _ ?_⟩; (first | fail); clear hK K)))
          (refine mix_step (by kernel_rfl) (by kernel_rfl) (fun K hK => ?_); go_simp; (try (simp only [↓IntWalk.iteOmega]; go_simp)); (first | (refine hK _ ?_; clear hK K) | (apply Exists.intro; refine ⟨fun _ => ?_, hK _ ?_⟩; (first | fail); clear hK K)))
          (refine mix_step (by kernel_rfl) (by kernel_rfl) (fun K hK => ?_); go_simp; (try (simp only [↓IntWalk.iteOmega]; go_simp)); (first | (refine hK _ ?_; clear hK K) | (apply Exists.intro; refine ⟨fun _ => ?_, hK _ ?_⟩; (first | fail); clear hK K)))
          (refine mix_step (by kernel_rfl) (by kernel_rfl) (fun K hK => ?_); go_simp; (try (simp only [↓IntWalk.iteOmega]; go_simp)); (first | (refine hK _ ?_; clear hK K) | (apply Exists.intro; refine ⟨fun _ => ?_, hK _ ?_⟩; (first | fail); clear hK K)))
          (refine mix_step (by kernel_rfl) (by kernel_rfl) (fun K hK => ?_); go_simp; (try (simp only [↓IntWalk.iteOmega]; go_simp)); (first | (refine hK _ ?_; clear hK K) | (apply Exists.intro; refine ⟨fun _ => ?_, hK _ ?_⟩; (first | fail); clear hK K)))
          (refine mix_step (by kernel_rfl) (by kernel_rfl) (fun K hK => ?_); go_simp; (try (simp only [↓IntWalk.iteOmega]; go_simp)); (first | (refine hK _ ?_; clear hK K) | (apply Exists.intro; refine ⟨fun _ => ?_, hK _ ?_⟩; (first | fail); clear hK K)))
          refine mix_nil ?_
          rintro ⟨dq, osq⟩ u38 -
          have hb3 := below_regrown wr dq osq
          have hbW3 := hbW.trans (hb3.mono hbW.size)
          have HR3 : Hid (RowIs (grow (redrawn wr dq) osq) g 9 cur) := HR.out.kept hb3
          generalize grow (redrawn wr dq) osq = W9 at *
          refine (show wpList _ _ _ _ _ _ from ?_)
          simp only [List.drop, Act.put, List.setIfInBounds_toArray, List.set]
          go_wp2_with ((with_reducible refine at_store 9 (.tmp 46) (.tmp 45) ?_); refine wpList_store_cell rfl 9 (.tmp 46) (.tmp 45) rfl g q _ rfl rfl 9 _ HR3.out (by omega) (by kernel_rfl) rfl w.heap.size hgB ?_)
          intro w5 hR5 _ _ hb5
          rw [show UInt8.ofNat k + 1 = UInt8.ofNat (k + 1) by simp, hP.out] at hR5
          have HR5 := Lib.hid hR5
          have hbW5 := hbW3.trans hb5
          clear hR5 hb5 hb3
          go_wp2_with fail
          refine ⟨⟨q + 1, _, by omega, by go_num, HR5.out, by rw [Array.size_setIfInBounds]; omega, fun j hj => ?_, hbW5⟩, by simp [intOf]; omega⟩
          by_cases hjq : j = q
          · subst hjq
            rw [Array.getElem?_setIfInBounds_self_of_lt (by omega), if_pos (Nat.lt_succ_self j)]
          · rw [Array.getElem?_setIfInBounds_ne (Ne.symm hjq), hcur.out j hj]
            by_cases hlt : j < q
            · rw [if_pos hlt, if_pos (by omega)]
            · rw [if_neg hlt, if_neg (by omega)]
        · obtain rfl : q = k + 1 := by omega
          have hA : Strs.At wr (some ⟨g, 0, none⟩) (Tun.pieces n s) := .inr ⟨g, 0, rfl, HR.out.lt, fun i hi => by
            rw [Tun.pieces_length, HC.out] at hi
            rw [HR.out.cell, Nat.zero_add, hcur.out i hi, if_pos hi, Tun.pieces_get, HC.out]⟩
          have hA := Lib.hid hA
          go_wp2_with fail
          go_ret
          exact ⟨_, cap', by rw [HC.out]; rfl, hA.out, hbW⟩
end Go.Proofs.Ytmipdbmmhoacpaa
