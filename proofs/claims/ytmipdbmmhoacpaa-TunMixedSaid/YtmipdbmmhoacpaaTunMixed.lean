/- The walk of TunMixed. By an AI agent. -/
import Derived.Test.YtmipdbmmhoacpaaTunPieces
import Derived.Deep.DeepCutAuto
namespace Go.Proofs.Ytmipdbmmhoacpaa
open Go.RowKit Go.Sort Grow

namespace Tun
/-- what is kept of a text of which i pieces came, in order -/
def ent (n : Nat) (s : ByteArray) (i : Nat) : List Ab := if i = 0 ∨ i = count s.size then [] else [(n, count s.size, (List.range i).map (partKV s))]
def Mx (E F L : List Ab) : Prop := L = E ++ F ∨ L = F ++ E
theorem Mx.swap {E F L : List Ab} (h : Mx E F L) : Mx F E L := h.elim .inr .inl
theorem ent_length (n : Nat) (s : ByteArray) (i : Nat) : (ent n s i).length ≤ 1 := by
  unfold ent
  split <;> simp
theorem ent_name (n : Nat) (s : ByteArray) (i : Nat) : ∀ a ∈ ent n s i, a.1 = n := by
  intro a ha
  unfold ent at ha
  split at ha
  · cases ha
  · rw [List.mem_singleton.1 ha]

theorem mixed_step (B J n i : Nat) (s : ByteArray) (F L : List Ab) (w : World) (hB : B ≤ w.heap.size) (hn : n < 4294967296) (h1 : 1 ≤ s.size) (h2 : s.size ≤ 1536) (hi : i < count s.size) (hF : ∀ a ∈ F, a.1 ≠ n) (hFl : F.length ≤ 1) (h : JIs B J w L) (hM : Mx (ent n s i) F L) :
    Calls Try.prog 17 #[.pointer (some ⟨J, 0, none⟩), .string (piece n (count s.size) s i)] w fun e w' => e = .returned (.tuple #[.string (if i + 1 = count s.size then s else ⟨#[]⟩), .bool (decide (i + 1 = count s.size)), .int .i64 0]) ∧ (∃ L', JIs B J w' L' ∧ Mx (ent n s (i + 1)) F L') ∧ Below B w w' := by
  obtain ⟨A1, A2, ho, hA⟩ : ∃ A1 A2, openA L n (count s.size) = A1 ++ (n, count s.size, (List.range i).map (partKV s)) :: A2 ∧ (A1 = [] ∧ A2 = F ∨ A1 = F ∧ A2 = []) := by
    by_cases h0 : i = 0
    · subst h0
      have e : L = F := by
        rcases hM with h | h
        · simpa [ent] using h
        · simpa [ent] using h
      subst e
      refine ⟨L, [], ?_, .inr ⟨rfl, rfl⟩⟩
      unfold openA
      rw [if_neg, if_neg (by omega)]
      · rfl
      · intro hm
        obtain ⟨a, ha, e⟩ := List.mem_map.1 hm
        exact hF a ha e
    · have e : ent n s i = [(n, count s.size, (List.range i).map (partKV s))] := by
        unfold ent
        rw [if_neg (by omega)]
      rw [e] at hM
      rcases hM with h | h
      · refine ⟨[], F, ?_, .inl ⟨rfl, rfl⟩⟩
        unfold openA
        rw [if_pos (by rw [h]; simp), h]
        rfl
      · refine ⟨F, [], ?_, .inr ⟨rfl, rfl⟩⟩
        unfold openA
        rw [if_pos (by rw [h]; simp), h]
  have hL8 : L.length ≤ 8 := by
    have := ent_length n s i
    rcases hM with h | h <;> rw [h, List.length_append] <;> omega
  have hnd : (List.range i).Nodup := List.nodup_range
  have hlt : ∀ x ∈ List.range i, x < count s.size := fun x hx => by have := List.mem_range.1 hx; omega
  by_cases hl : i + 1 = count s.size
  · refine (take_place_whole B J n i s (List.range i) A1 A2 L w h hL8 hB hn h2 hi (by simp) hnd hlt ho (by simpa using hl) (by rcases hA with ⟨rfl, rfl⟩ | ⟨rfl, rfl⟩ <;> simp <;> omega)).mono ?_
    rintro e w' ⟨rfl, hj, hb, _⟩
    refine ⟨by rw [if_pos hl, decide_eq_true hl], ⟨_, hj, ?_⟩, hb⟩
    have e : ent n s (i + 1) = [] := by
      unfold ent
      rw [if_pos (.inr hl)]
    rw [e]
    rcases hA with ⟨rfl, rfl⟩ | ⟨rfl, rfl⟩
    · exact .inl rfl
    · exact .inr rfl
  · refine (take_place B J n i s (List.range i) A1 A2 L w h hL8 hB hn h2 hi (by simp) hnd hlt ho (by simp; omega)).mono ?_
    rintro e w' ⟨rfl, hj, hb, _⟩
    refine ⟨by rw [if_neg hl, decide_eq_false hl], ⟨_, hj, ?_⟩, hb⟩
    have e : ent n s (i + 1) = [(n, count s.size, (List.range i ++ [i]).map (partKV s))] := by
      unfold ent
      rw [if_neg (by omega), List.range_succ]
    rw [e]
    rcases hA with ⟨rfl, rfl⟩ | ⟨rfl, rfl⟩
    · exact .inl rfl
    · exact .inr rfl
end Tun

set_option maxRecDepth 20000 in
set_option maxHeartbeats 8000000 in
theorem tunMixed_main (n m : Nat) (s t : ByteArray) (ao : Option Addr) (len cap : Nat) (f : Nat → Bool) (w : World) (hn : n < 4294967296) (hm : m < 4294967296) (hnm : n ≠ m) (h1 : 1 ≤ s.size) (h2 : s.size ≤ 1536) (h3 : 1 ≤ t.size) (h4 : t.size ≤ 1536) (h60 : len ≤ 60)
    (hA : len = 0 ∨ ∃ b off, ao = some ⟨b, off, none⟩ ∧ b < w.heap.size ∧ ∀ i, i < len → w.cell? ⟨b, off + i, none⟩ = some (.bool (f i))) :
    Calls Try.prog 6 #[.int .u32 n, .int .u32 m, .string s, .string t, .slice ao len cap] w fun e w' => e = .returned (.bool true) ∧ Below w.heap.size w w' := by
  have HCA := Lib.hid (fun w => cut_any n s w hn h1 h2)
  have HCB := Lib.hid (fun w => cut_any m t w hm h3 h4)
  have hca1 : 1 ≤ Tun.count s.size := by unfold Tun.count; omega
  have hca3 : Tun.count s.size ≤ 3 := by unfold Tun.count; omega
  have hcb1 : 1 ≤ Tun.count t.size := by unfold Tun.count; omega
  have hcb3 : Tun.count t.size ≤ 3 := by unfold Tun.count; omega
  have HSA : Hid (∀ (i k : Nat) (w' : World) {B : Nat}, B ≤ w'.heap.size → i < Tun.count s.size → (∃ L, JIs B B w' L ∧ Tun.Mx (Tun.ent n s i) (Tun.ent m t k) L) → Calls Try.prog 17 #[.pointer (some ⟨B, 0, none⟩), .string (Tun.piece n (Tun.count s.size) s i)] w' fun e w'' => e = .returned (.tuple #[.string (if i + 1 = Tun.count s.size then s else ⟨#[]⟩), .bool (decide (i + 1 = Tun.count s.size)), .int .i64 0]) ∧ (∃ L', JIs B B w'' L' ∧ Tun.Mx (Tun.ent n s (i + 1)) (Tun.ent m t k) L') ∧ Below B w' w'') := fun i k w' B hB hi ⟨L, hj, hM⟩ =>
    Tun.mixed_step B B n i s _ L w' hB hn h1 h2 hi (fun a ha e => hnm (by rw [← e, Tun.ent_name _ _ _ a ha])) (Tun.ent_length _ _ _) hj hM
  have HSB : Hid (∀ (i k : Nat) (w' : World) {B : Nat}, B ≤ w'.heap.size → k < Tun.count t.size → (∃ L, JIs B B w' L ∧ Tun.Mx (Tun.ent n s i) (Tun.ent m t k) L) → Calls Try.prog 17 #[.pointer (some ⟨B, 0, none⟩), .string (Tun.piece m (Tun.count t.size) t k)] w' fun e w'' => e = .returned (.tuple #[.string (if k + 1 = Tun.count t.size then t else ⟨#[]⟩), .bool (decide (k + 1 = Tun.count t.size)), .int .i64 0]) ∧ (∃ L', JIs B B w'' L' ∧ Tun.Mx (Tun.ent n s i) (Tun.ent m t (k + 1)) L') ∧ Below B w' w'') := fun i k w' B hB hi ⟨L, hj, hM⟩ =>
    (Tun.mixed_step B B m k t _ L w' hB hm h3 h4 hi (fun a ha e => hnm (by rw [← e, Tun.ent_name _ _ _ a ha])) (Tun.ent_length _ _ _) hj hM.swap).mono fun e w'' ⟨h, ⟨L', a, b⟩, c⟩ => ⟨h, ⟨L', a, b.swap⟩, c⟩
  have HPca : Hid (∀ (ao : Option Addr) (w' : World), Strs.At w' ao (Tun.pieces n s) → ∃ b off, ao = some ⟨b, off, none⟩ ∧ b < w'.heap.size ∧ ∀ i, i < Tun.count s.size → w'.cell? ⟨b, off + i, none⟩ = some (.string (Tun.piece n (Tun.count s.size) s i))) := fun ao w' h => Tun.pieces_at h hca1
  have HPcb : Hid (∀ (ao : Option Addr) (w' : World), Strs.At w' ao (Tun.pieces m t) → ∃ b off, ao = some ⟨b, off, none⟩ ∧ b < w'.heap.size ∧ ∀ i, i < Tun.count t.size → w'.cell? ⟨b, off + i, none⟩ = some (.string (Tun.piece m (Tun.count t.size) t i))) := fun ao w' h => Tun.pieces_at h hcb1
  have HE0 : Hid (∀ L, L = [] → Tun.Mx (Tun.ent n s 0) (Tun.ent m t 0) L) := fun L h => .inl (by rw [h]; simp [Tun.ent])
  have HE1 : Hid (∀ L, Tun.Mx (Tun.ent n s (Tun.count s.size)) (Tun.ent m t (Tun.count t.size)) L → L = []) := fun L h => by
    rcases h with h | h <;> simpa [Tun.ent] using h
  generalize hcca : Tun.count s.size = ca at *
  generalize hccb : Tun.count t.size = cb at *
  clear hcca hccb hn hm
  have hnm' : ¬ ((n : Int) = (m : Int)) := by omega
  have HORD := Lib.hid hA
  clear hA
  have e1 : decide (1536 < (s.size : Int)) = false := decide_eq_false (by omega)
  have e2 : decide (1536 < (t.size : Int)) = false := decide_eq_false (by omega)
  have e3 : ((s.size : Int) == 0) = false := by simp only [beq_eq_false_iff_ne, ne_eq]; omega
  have e4 : ((t.size : Int) == 0) = false := by simp only [beq_eq_false_iff_ne, ne_eq]; omega
  have e5 : ((n : Int) == (m : Int)) = false := by simp only [beq_eq_false_iff_ne, ne_eq]; omega
  have e6 : decide (60 < (len : Int)) = false := decide_eq_false (by omega)
  go_enter Try.func6, Try.ntmps6
  go_wp2_with fail
  refine (awake_any _).mono ?_
  rintro e w1 ⟨rfl, hb1⟩
  have hbW := hb1
  go_wp2_with fail
  refine (HCA.out _).mono ?_
  rintro e w2 ⟨aoca, capca, rfl, hat, hb2⟩
  have hbW := hbW.trans (hb2.mono hbW.size)
  obtain ⟨abca, offca, rfl, hablca, hcell⟩ : ∃ b off, aoca = some ⟨b, off, none⟩ ∧ b < w2.heap.size ∧ ∀ i, i < ca → w2.cell? ⟨b, off + i, none⟩ = some (.string (Tun.piece n ca s i)) := HPca.out _ _ hat
  have HCELLca := Lib.hid hcell
  clear hat hb2 hcell HPca HCA
  go_wp2_with fail
  refine (HCB.out _).mono ?_
  rintro e w4 ⟨aocb, capcb, rfl, hat, hb2⟩
  have hbW := hbW.trans (hb2.mono hbW.size)
  obtain ⟨abcb, offcb, rfl, hablcb, hcell⟩ : ∃ b off, aocb = some ⟨b, off, none⟩ ∧ b < w4.heap.size ∧ ∀ i, i < cb → w4.cell? ⟨b, off + i, none⟩ = some (.string (Tun.piece m cb t i)) := HPcb.out _ _ hat
  have HCELLcb := Lib.hid hcell
  have HCELLca : Hid (∀ i, i < ca → w4.cell? ⟨abca, offca + i, none⟩ = some (.string (Tun.piece n ca s i))) := fun i hi => (hb2.cell (p := ⟨abca, offca + i, none⟩) hablca).trans (HCELLca.out i hi)
  have hablca := Nat.lt_of_lt_of_le hablca hb2.size
  clear hat hb2 hcell HPcb HCB hb1
  go_upto_region 8 with fail
  clear h1 h2 h3 h4 h60 e1 e2 e3 e4 e5 e6
  have hJ0 := joinIs_new w4 w4.heap.size (Nat.le_refl _)
  have HJ0 : Hid (JIs w4.heap.size w4.heap.size (w4.alloc (.cells #[.slice none 0 0, .map none] 48)) []) := ⟨[], hJ0, rfl⟩
  have hb3 : Below w4.heap.size w4 (w4.alloc (.cells #[.slice none 0 0, .map none] 48)) := (Below.refl _ _).alloc (Nat.le_refl _) _
  clear hJ0
  have HORD : Hid (len = 0 ∨ ∃ b off, ao = some ⟨b, off, none⟩ ∧ b < w4.heap.size ∧ ∀ i, i < len → w4.cell? ⟨b, off + i, none⟩ = some (.bool (f i))) := by
    rcases HORD.out with h | ⟨b, off, e, hb, hc⟩
    · exact .inl h
    · exact .inr ⟨b, off, e, Nat.lt_of_lt_of_le hb hbW.size, fun i hi => (hbW.cell (p := ⟨b, off + i, none⟩) hb).trans (hc i hi)⟩
  generalize (w4.alloc (.cells #[.slice none 0 0, .map none] 48)) = w3 at *
  generalize hB : w4.heap.size = B at *
  have hablcaB := hablca
  have hablcbB := hablcb
  go_wp2_with fail
  go_loopw [16, 17, 18, 19] (fun a b o x wr => ∃ i k q : Nat, i ≤ ca ∧ k ≤ cb ∧ a = .int .i64 i ∧ b = .int .i64 k ∧ o = .int .i64 q ∧ x = .int .i64 ((i + k : Nat) : Int) ∧ Hid (q = (if i = ca then 1 else 0) + (if k = cb then 1 else 0)) ∧ Hid (∃ L, JIs B B wr L ∧ Tun.Mx (Tun.ent n s i) (Tun.ent m t k) L) ∧ Below B w4 wr) (fun a b _ _ _ => ca + cb - ((intOf a).toNat + (intOf b).toNat))
  case atStart => exact ⟨0, 0, 0, by omega, by omega, rfl, rfl, rfl, rfl, by show _ = _; rw [if_neg (by omega), if_neg (by omega)], ⟨[], HJ0.out, HE0.out _ rfl⟩, hb3⟩
  case round =>
    rename_i wr
    obtain ⟨i, k, q, hi, hk, rfl, rfl, rfl, rfl, HQ, HM, hbr⟩ := hrel
    have hBr : B ≤ wr.heap.size := by rw [← hB]; exact hbr.size
    have hq2 : q ≤ 2 := by
      rw [HQ.out]
      split <;> split <;> omega
    by_cases hend : i = ca ∧ k = cb
    · obtain ⟨rfl, rfl⟩ := hend
      obtain rfl : q = 2 := by rw [HQ.out, if_pos rfl, if_pos rfl]
      have HH : Hid (Calls Try.prog 18 #[.pointer (some ⟨B, 0, none⟩)] wr fun e w' => e = .returned (.int .i64 0) ∧ wr = w') := by
        obtain ⟨L, hj, hx⟩ := HM.out
        have := held_any B B L wr hj
        rw [HE1.out L hx] at this
        exact this
      go_wp2_with fail
      refine HH.out.mono ?_
      rintro e w5 ⟨rfl, rfl⟩
      go_wp2_with fail
      go_ret
      exact ⟨rfl, hbW.trans (hbr.mono (by rw [← hB]; exact hbW.size))⟩
    · have hend' : ¬ (i = ca) ∨ ¬ (k = cb) := by omega
      go_upto_region 10 with fail
      go_cut [89] (fun v wx => v = .bool true ∧ wr = wx)
      case first =>
        rcases Nat.lt_or_ge i ca with h | h
        · go_wp2_with fail
          go_meet
          exact ⟨rfl, rfl⟩
        · have h' : k < cb := by omega
          go_wp2_with fail
          go_meet
          exact ⟨rfl, rfl⟩
      case rest =>
      obtain ⟨rfl, rfl⟩ := hcut
      go_upto_region 12 with fail
      go_cut [20] (fun v wx => ((v = .bool true ∧ i < ca) ∨ (v = .bool false ∧ k < cb)) ∧ wr = wx)
      case first =>
        rcases Nat.lt_or_ge k cb with hkc | hkc
        · rcases Nat.lt_or_ge i ca with hic | hic
          · rcases Nat.lt_or_ge (i + k) len with hx | hx
            · obtain ⟨b, off, rfl, hbl, hcl⟩ : ∃ b off, ao = some ⟨b, off, none⟩ ∧ b < B ∧ ∀ i, i < len → w4.cell? ⟨b, off + i, none⟩ = some (.bool (f i)) := by
                rcases HORD.out with h | h
                · omega
                · exact h
              have cx : wr.cell? ⟨b, off + (i + k), none⟩ = some (.bool (f (i + k))) := (hbr.cell (p := ⟨b, off + (i + k), none⟩) hbl).trans (hcl _ hx)
              clear hcl
              rcases hfx : f (i + k)
              all_goals
                rw [hfx] at cx
                go_wp2_with fail
                go_meet
              · exact ⟨.inr ⟨by simp; omega, hkc⟩, rfl⟩
              · exact ⟨.inl ⟨rfl, hic⟩, rfl⟩
            · go_wp2_with fail
              go_meet
              exact ⟨.inl ⟨rfl, hic⟩, rfl⟩
          · go_wp2_with fail
            go_meet
            exact ⟨.inr ⟨by simp; omega, hkc⟩, rfl⟩
        · go_wp2_with fail
          go_meet
          exact ⟨.inl ⟨rfl, by omega⟩, rfl⟩
      case rest =>
      obtain ⟨h, rfl⟩ := hcut
      rcases h with ⟨rfl, hf⟩ | ⟨rfl, hf⟩
      · skip
        have c0 : wr.cell? ⟨abca, offca + i, none⟩ = some (.string (Tun.piece n ca s i)) := (hbr.cell (p := ⟨abca, offca + i, none⟩) hablcaB).trans (HCELLca.out _ hf)
        have H1 := HSA.out i k wr hBr hf HM.out
        by_cases hl : i + 1 = ca
        · skip
          have hdec : (((i : Int) + 1) == (ca : Int)) = true := by simp; omega
          have hdec2 : decide (i + 1 = ca) = true := decide_eq_true hl
          rw [if_pos hl, hdec2] at H1
          have H1 := Lib.hid H1
          go_wp2_with fail
          refine H1.out.mono ?_
          rintro e w5 ⟨rfl, hj5, hb5⟩
          have HM5 := Lib.hid hj5
          have hbr5 := hbr.trans hb5
          clear hj5 hb5 H1 c0
          go_wp2_with fail
          refine ⟨⟨i + 1, k, q + 1, by omega, by omega, by go_num, by go_num, by go_num, by go_num, ?_, HM5.out, hbr5⟩, by simp [intOf]; omega⟩
          have := HQ.out
          show _ = _
          rw [this]
          rw [if_pos hl, if_neg (show ¬ i = ca by omega)]; try omega
        · skip
          have hdec : (((i : Int) + 1) == (ca : Int)) = false := by simp; omega
          have hdec2 : decide (i + 1 = ca) = false := decide_eq_false hl
          rw [if_neg hl, hdec2] at H1
          have H1 := Lib.hid H1
          go_wp2_with fail
          refine H1.out.mono ?_
          rintro e w5 ⟨rfl, hj5, hb5⟩
          have HM5 := Lib.hid hj5
          have hbr5 := hbr.trans hb5
          clear hj5 hb5 H1 c0
          go_wp2_with fail
          refine ⟨⟨i + 1, k, q, by omega, by omega, by go_num, by go_num, by go_num, by go_num, ?_, HM5.out, hbr5⟩, by simp [intOf]; omega⟩
          have := HQ.out
          show _ = _
          rw [this]
          rw [if_neg hl, if_neg (show ¬ i = ca by omega)]
      · skip
        have c0 : wr.cell? ⟨abcb, offcb + k, none⟩ = some (.string (Tun.piece m cb t k)) := (hbr.cell (p := ⟨abcb, offcb + k, none⟩) hablcbB).trans (HCELLcb.out _ hf)
        have H1 := HSB.out i k wr hBr hf HM.out
        by_cases hl : k + 1 = cb
        · skip
          have hdec : (((k : Int) + 1) == (cb : Int)) = true := by simp; omega
          have hdec2 : decide (k + 1 = cb) = true := decide_eq_true hl
          rw [if_pos hl, hdec2] at H1
          have H1 := Lib.hid H1
          go_wp2_with fail
          refine H1.out.mono ?_
          rintro e w5 ⟨rfl, hj5, hb5⟩
          have HM5 := Lib.hid hj5
          have hbr5 := hbr.trans hb5
          clear hj5 hb5 H1 c0
          go_wp2_with fail
          refine ⟨⟨i, k + 1, q + 1, by omega, by omega, by go_num, by go_num, by go_num, by go_num, ?_, HM5.out, hbr5⟩, by simp [intOf]; omega⟩
          have := HQ.out
          show _ = _
          rw [this]
          rw [if_pos hl, if_neg (show ¬ k = cb by omega)]; try omega
        · skip
          have hdec : (((k : Int) + 1) == (cb : Int)) = false := by simp; omega
          have hdec2 : decide (k + 1 = cb) = false := decide_eq_false hl
          rw [if_neg hl, hdec2] at H1
          have H1 := Lib.hid H1
          go_wp2_with fail
          refine H1.out.mono ?_
          rintro e w5 ⟨rfl, hj5, hb5⟩
          have HM5 := Lib.hid hj5
          have hbr5 := hbr.trans hb5
          clear hj5 hb5 H1 c0
          go_wp2_with fail
          refine ⟨⟨i, k + 1, q, by omega, by omega, by go_num, by go_num, by go_num, by go_num, ?_, HM5.out, hbr5⟩, by simp [intOf]; omega⟩
          have := HQ.out
          show _ = _
          rw [this]
          rw [if_neg hl, if_neg (show ¬ k = cb by omega)]

set_option maxRecDepth 20000 in
set_option maxHeartbeats 2000000 in
theorem tunMixed_walk (n : Int) (hn : (Lit.int .u32 n).wf = true) (m : Int) (hm : (Lit.int .u32 m).wf = true) (s t : ByteArray) (ao : Option Addr) (len cap : Nat) (f : Nat → Bool) (w : World) (hl : len ≤ 9223372036854775807)
    (hA : len = 0 ∨ ∃ b off, ao = some ⟨b, off, none⟩ ∧ b < w.heap.size ∧ ∀ i, i < len → w.cell? ⟨b, off + i, none⟩ = some (.bool (f i))) :
    Calls Try.prog 6 #[.int .u32 n, .int .u32 m, .string s, .string t, .slice ao len cap] w fun e w' => e = .returned (.bool true) ∧ Below w.heap.size w w' := by
  simp only [Lit.wf, Bool.and_eq_true, decide_eq_true_eq] at hn hm
  have hn : 0 ≤ n ∧ n ≤ 4294967295 := hn
  have hm : 0 ≤ m ∧ m ≤ 4294967295 := hm
  obtain ⟨n, rfl⟩ := Int.eq_ofNat_of_zero_le hn.1
  obtain ⟨m, rfl⟩ := Int.eq_ofNat_of_zero_le hm.1
  rcases c1 : decide (1536 < (s.size : Int))
  · skip
    rcases c2 : decide (1536 < (t.size : Int))
    · skip
      rcases c3 : ((s.size : Int) == 0)
      · skip
        rcases c4 : ((t.size : Int) == 0)
        · skip
          rcases c5 : ((n : Int) == (m : Int))
          · skip
            rcases c6 : decide (60 < (len : Int))
            · skip
              simp only [decide_eq_false_iff_not, beq_eq_false_iff_ne, ne_eq] at c1 c2 c3 c4 c5 c6
              exact tunMixed_main n m s t ao len cap f w (by omega) (by omega) (by omega) (by omega) (by omega) (by omega) (by omega) (by omega) hA
            · clear hA
              go_enter Try.func6, Try.ntmps6
              go_wp2_with fail
              refine (awake_any _).mono ?_
              rintro e w1 ⟨rfl, hb⟩
              go_wp2_with fail
              refine (awake_any _).mono ?_
              rintro e w2 ⟨rfl, hb2⟩
              have hbW := hb.trans (hb2.mono hb.size)
              clear hb hb2
              go_wp2_with fail
              go_ret
              exact ⟨rfl, hbW⟩
          · clear hA
            go_enter Try.func6, Try.ntmps6
            go_wp2_with fail
            refine (awake_any _).mono ?_
            rintro e w1 ⟨rfl, hb⟩
            go_wp2_with fail
            refine (awake_any _).mono ?_
            rintro e w2 ⟨rfl, hb2⟩
            have hbW := hb.trans (hb2.mono hb.size)
            clear hb hb2
            go_wp2_with fail
            go_ret
            exact ⟨rfl, hbW⟩
        · clear hA
          go_enter Try.func6, Try.ntmps6
          go_wp2_with fail
          refine (awake_any _).mono ?_
          rintro e w1 ⟨rfl, hb⟩
          go_wp2_with fail
          refine (awake_any _).mono ?_
          rintro e w2 ⟨rfl, hb2⟩
          have hbW := hb.trans (hb2.mono hb.size)
          clear hb hb2
          go_wp2_with fail
          go_ret
          exact ⟨rfl, hbW⟩
      · clear hA
        go_enter Try.func6, Try.ntmps6
        go_wp2_with fail
        refine (awake_any _).mono ?_
        rintro e w1 ⟨rfl, hb⟩
        go_wp2_with fail
        refine (awake_any _).mono ?_
        rintro e w2 ⟨rfl, hb2⟩
        have hbW := hb.trans (hb2.mono hb.size)
        clear hb hb2
        go_wp2_with fail
        go_ret
        exact ⟨rfl, hbW⟩
    · clear hA
      go_enter Try.func6, Try.ntmps6
      go_wp2_with fail
      refine (awake_any _).mono ?_
      rintro e w1 ⟨rfl, hb⟩
      go_wp2_with fail
      refine (awake_any _).mono ?_
      rintro e w2 ⟨rfl, hb2⟩
      have hbW := hb.trans (hb2.mono hb.size)
      clear hb hb2
      go_wp2_with fail
      go_ret
      exact ⟨rfl, hbW⟩
  · clear hA
    go_enter Try.func6, Try.ntmps6
    go_wp2_with fail
    refine (awake_any _).mono ?_
    rintro e w1 ⟨rfl, hb⟩
    go_wp2_with fail
    refine (awake_any _).mono ?_
    rintro e w2 ⟨rfl, hb2⟩
    have hbW := hb.trans (hb2.mono hb.size)
    clear hb hb2
    go_wp2_with fail
    go_ret
    exact ⟨rfl, hbW⟩
end Go.Proofs.Ytmipdbmmhoacpaa
