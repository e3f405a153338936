/- One piece, to the document and to the joiner. By an AI agent. -/
import Derived.Test.YtmipdbmmhoacpaaTt3
import Derived.Test.YtmipdbmmhoacpaaTunPieces
import Derived.Test.YtmipdbmmhoacpaaBeNum
namespace Go.Proofs.Ytmipdbmmhoacpaa
open Go.RowKit Go.Sort Grow

theorem first_of (s : ByteArray) (h : 0 < s.size) : (s.extract 0 1).toList = [s[0]] := by
  rw [Lib.toList_data, Oct.ext_toList]
  have hl : s.data.toList.length = s.size := by simp
  have hg : s.data.toList[0]? = some s[0] := by simp [ByteArray.getElem_eq_getElem_data, show 0 < s.data.size from h]
  cases hd : s.data.toList with
  | nil => rw [hd] at hl; simp at hl; omega
  | cons a l =>
    rw [hd] at hg
    simp only [List.getElem?_cons_zero, Option.some.injEq] at hg
    simp [hg]
theorem idle_of (s : ByteArray) (h : s.size = 1) (h0 : s[0] = 0) : (s.toList == [0]) = true := by
  have hl : s.data.toList.length = s.size := by simp
  have hg : s.data.toList[0]? = some s[0] := by simp [ByteArray.getElem_eq_getElem_data, show 0 < s.data.size from by show 0 < s.size; omega]
  rw [Lib.toList_data]
  match hd : s.data.toList with
  | [] => rw [hd] at hl; simp at hl; omega
  | [a] =>
    rw [hd] at hg
    simp only [List.getElem?_cons_zero, Option.some.injEq] at hg
    rw [hg, h0]
    rfl
  | a :: b :: l => rw [hd] at hl; simp at hl; omega
theorem idle_not (s : ByteArray) (h1 : 0 < s.size) (h : 1 < s.size ∨ s[0] ≠ 0) : (s.toList == [0]) = false := by
  have hl : s.data.toList.length = s.size := by simp
  have hg : s.data.toList[0]? = some s[0] := by simp [ByteArray.getElem_eq_getElem_data, show 0 < s.data.size from h1]
  rw [Lib.toList_data, beq_eq_false_iff_ne]
  intro e
  rw [e] at hl hg
  simp only [List.getElem?_cons_zero, Option.some.injEq] at hg
  simp at hl
  rcases h with h | h
  · omega
  · exact h hg.symm

def Fine (M : List RT) : Prop := M.length ≤ 8 ∧ ∀ t ∈ M, ∀ i, (t.p i).size ≤ 512
/-- what the joiner's Take of s answers, and keeps -/
def TakesTo (s : ByteArray) (L : List Ab) (T : ByteArray) (ok : Bool) (er : Int) (L' : List Ab) : Prop :=
  ∀ B J w, B ≤ w.heap.size → JIs B J w L → Calls Try.prog 17 #[.pointer (some ⟨J, 0, none⟩), .string s] w fun e w' => e = .returned (.tuple #[.string T, .bool ok, .int .i64 er]) ∧ JIs B J w' L' ∧ Below B w w' ∧ Others w w'

theorem takes_bad {s : ByteArray} {er : Int} (L : List Ab) (HREAD : ∀ w, Calls Try.prog 26 #[.string s] w fun e w' => e = .returned (.tuple #[.agg #[.int .u32 0, .int .i64 0, .int .i64 0, .string ⟨#[]⟩], .bool false, .int .i64 er]) ∧ Below w.heap.size w w') : TakesTo s L ⟨#[]⟩ false er L := fun B J w hB hj => by
  refine (take_bad J s er w HREAD).mono ?_
  rintro e w' ⟨rfl, hb⟩
  exact ⟨rfl, hj.later hb, hb.mono hB, Others.of_below hb⟩

theorem openR_eight {M : List RT} {n y : Nat} (h : M.length ≤ 8) : (openR M n y).length ≤ 8 := by
  unfold openR
  split
  · exact h
  · rw [List.length_append]
    split
    · rw [List.length_tail]; simp; omega
    · simp; omega
theorem fine_mid {A C : List RT} {t t' : RT} (h : Fine (A ++ t :: C)) (ht : ∀ i, (t'.p i).size ≤ 512) : Fine (A ++ t' :: C) := by
  refine ⟨by have := h.1; simpa using this, fun u hu => ?_⟩
  rcases List.mem_append.1 hu with hu | hu
  · exact h.2 u (by simp [hu])
  · rcases List.mem_cons.1 hu with rfl | hu
    · exact ht
    · exact h.2 u (by simp [hu])
theorem fine_out {A C : List RT} {t : RT} (h : Fine (A ++ t :: C)) : Fine (A ++ C) := by
  refine ⟨by have := h.1; simp at this ⊢; omega, fun u hu => ?_⟩
  rcases List.mem_append.1 hu with hu | hu
  · exact h.2 u (by simp [hu])
  · exact h.2 u (by simp [hu])
theorem put_size {t : RT} {x : Nat} {b : ByteArray} (h : ∀ i, (t.p i).size ≤ 512) (hb : b.size ≤ 512) : ∀ i, ((t.put x b).p i).size ≤ 512 := fun i => by
  show (if i = x then b else t.p i).size ≤ 512
  split
  · exact hb
  · exact h i

theorem both_step (s : ByteArray) (hs : s.size ≤ 2000) (v0 : Value) (L : List Ab) (M : List RT) (w : World) (hT : TAt w v0 M) (hP : Pairs L M) (hF : Fine M) :
    Calls Try.prog 20 #[v0, .string s] w fun e w' => (∃ v' T ok er L' M', e = .returned (.tuple #[v', .string T, .bool ok, .int .i64 er]) ∧ TAt w' v' M' ∧ Pairs L' M' ∧ Fine M' ∧ TakesTo s L T ok er L') ∧ Below w.heap.size w w' := by
  by_cases h0 : s.size = 0
  · obtain rfl : s = ⟨#[]⟩ := by
      apply ByteArray.ext
      apply Array.eq_empty_of_size_eq_zero
      exact h0
    refine (refTake_empty v0 w).mono ?_
    rintro e w' ⟨rfl, hb⟩
    exact ⟨⟨v0, _, _, _, L, M, rfl, hT.later hb, hP, hF, takes_bad L read_empty⟩, hb⟩
  have h1 : 1 ≤ s.size := by omega
  have hx := s[0].toNat_lt
  have hfst := first_of s h1
  have hz : s[0].toNat = 0 → s[0] = 0 := fun h => UInt8.toNat_inj.1 h
  have ho : s[0].toNat = 1 → s[0] = 1 := fun h => UInt8.toNat_inj.1 h
  by_cases hc0 : s[0].toNat = 0
  · by_cases hc1 : s.size = 1
    · refine (refTake_small v0 s w h1 0 hc0 0 (.inr (.inl ⟨rfl, hc1, rfl⟩))).mono ?_
      rintro e w' ⟨rfl, hb⟩
      exact ⟨⟨v0, _, _, _, L, M, rfl, hT.later hb, hP, hF, takes_bad L (fun w => read_idle s w h1 (by rw [hfst, hz hc0]) (idle_of s hc1 (hz hc0)))⟩, hb⟩
    · refine (refTake_small v0 s w h1 0 hc0 3 (.inl ⟨rfl, by omega, rfl⟩)).mono ?_
      rintro e w' ⟨rfl, hb⟩
      exact ⟨⟨v0, _, _, _, L, M, rfl, hT.later hb, hP, hF, takes_bad L (fun w => read_mark s w h1 s[0] hfst (by rw [hz hc0]; decide) (idle_not s h1 (.inl (by omega))))⟩, hb⟩
  by_cases hc1 : s[0].toNat ≠ 1
  · refine (refTake_small v0 s w h1 s[0].toNat rfl 3 (.inr (.inr (.inl ⟨by omega, rfl⟩)))).mono ?_
    rintro e w' ⟨rfl, hb⟩
    exact ⟨⟨v0, _, _, _, L, M, rfl, hT.later hb, hP, hF, takes_bad L (fun w => read_mark s w h1 s[0] hfst (fun h => hc1 (by rw [h]; rfl)) (idle_not s h1 (.inr (fun h => hc0 (by rw [h]; rfl)))))⟩, hb⟩
  have hc1 : s[0].toNat = 1 := Decidable.not_not.1 hc1
  by_cases h8 : s.size < 8
  · refine (refTake_small v0 s w h1 1 hc1 2 (.inr (.inr (.inr ⟨rfl, h8, rfl⟩)))).mono ?_
    rintro e w' ⟨rfl, hb⟩
    exact ⟨⟨v0, _, _, _, L, M, rfl, hT.later hb, hP, hF, takes_bad L (fun w => read_short s w h1 h8 (by rw [hfst, ho hc1]))⟩, hb⟩
  have h8 : 8 ≤ s.size := by omega
  have hidle := idle_not s h1 (.inr (fun h => hc0 (by rw [h]; rfl)))
  by_cases hfit : ¬ Tun.fits s[5].toNat s[6].toNat (s.size - 7)
  · refine (refTake_form v0 s w _ _ h8 (by omega) hc1 rfl rfl hfit).mono ?_
    rintro e w' ⟨rfl, hb⟩
    exact ⟨⟨v0, _, _, _, L, M, rfl, hT.later hb, hP, hF, takes_bad L (fun w => read_form s w _ _ h8 (by omega) (by rw [hfst, ho hc1]) hidle rfl rfl hfit)⟩, hb⟩
  have hfit := Classical.not_not.1 hfit
  refine (refTake_ok v0 M s w _ _ _ hT hF.1 hF.2 h8 (by omega) hc1 rfl rfl hfit rfl).mono ?_
  have HREAD := fun w => read_ok s w _ _ h8 (by omega) (by rw [hfst, ho hc1]) hidle rfl rfl hfit
  generalize s[5].toNat = x at *
  generalize s[6].toNat = y at *
  generalize Oct.num (s.extract 1 5).data.toList = n at *
  have hbs : (s.extract 7 s.size).size ≤ 512 := by
    obtain ⟨_, _, _, h, _⟩ := hfit
    rw [ByteArray.size_extract]
    omega
  generalize s.extract 7 s.size = bd at *
  obtain ⟨f1, f2, f3, -, -⟩ := hfit
  rintro e w' ⟨⟨A, t, C, hop, htn, v', hcase⟩, hb⟩
  refine ⟨?_, hb⟩
  have hPo := hP.open n y f2
  have hFo : Fine (openR M n y) := ⟨openR_eight hF.1, fun t ht => openR_size hF.2 ht⟩
  rw [hop] at hPo hFo
  obtain ⟨A1, a, A2, hao, hA, ha, hC⟩ := hPo.split
  have hlen := ha.len
  have hput := ha.put (x := x) (b := bd)
  obtain ⟨n', c, ps⟩ := a
  obtain rfl : n' = n := ha.n.symm.trans htn
  have hL8 : L.length ≤ 8 := by rw [hP.len]; exact hF.1
  have hc3 : c ≤ 3 := ha.c3
  have hct : t.c = c := ha.c
  have hps3 : ps.length ≤ 3 := Nat.le_trans hlen hc3
  have hA100 : A1.length + A2.length ≤ 100 := by
    rw [hA.len, hC.len]
    have := hFo.1
    simp at this
    omega
  have hts : ∀ i, (t.p i).size ≤ 512 := hFo.2 t (by simp)
  have HOPEN : ∀ B J w, B ≤ w.heap.size → JIs B J w L → ∀ w0, Below w.heap.size w w0 → _ := fun B J w hB hj w0 hb => open_any B J n' c x y bd ps A1 A2 L w0 (hj.later hb) hL8 (Nat.le_trans hB hb.size) hao
  rcases hcase with ⟨h1, rfl, hTa⟩ | ⟨h1, h2, rfl, hTa⟩ | ⟨h1, h2, ⟨i, hi, h3⟩, rfl, hTa⟩ | ⟨h1, h2, h3, rfl, hTa⟩
  · exact ⟨v', _, _, _, _, _, rfl, hTa, hA.append (.cons ha hC), hFo, fun B J w hB hj => take_unlike B J n' c x y bd s ps A1 A2 w hB hps3 f2 hc3 HREAD (HOPEN B J w hB hj) (by rw [← hct]; exact h1)⟩
  · have hm := (ha.has x).1 h2
    obtain ⟨p, hp, hpx⟩ := List.mem_map.1 hm
    refine ⟨v', _, _, _, _, _, rfl, hTa, hA.append (.cons ha hC), hFo, fun B J w hB hj => take_twice B J n' c x y bd s ps A1 A2 w hB hps3 f2 hc3 HREAD (HOPEN B J w hB hj) (by rw [← hct]; exact h1) (t.p x) ⟨p, hp, hpx⟩ (fun q hq e => ?_)⟩
    rw [← e]
    exact (ha.part q hq).symm
  · have hcy : c = y := by rw [← hct]; exact h1
    have hp2 := hput (by show x < c; omega) h2 hbs
    have hx : ∀ p ∈ ps, p.1 ≠ x := fun p hp e => by
      rw [(ha.has x).2 (List.mem_map.2 ⟨p, hp, e⟩)] at h2
      cases h2
    have hw := hp2.whole
    have hl2 := hp2.len
    refine ⟨v', _, _, _, _, _, rfl, hTa, hA.append (.cons hp2 hC), fine_mid hFo (put_size hts hbs), fun B J w hB hj => take_some B J n' c x y bd s ps A1 A2 w hB hps3 f2 hc3 HREAD (HOPEN B J w hB hj) hcy hx ?_⟩
    simp only [List.length_append, List.length_cons, List.length_nil] at hw hl2
    rcases Nat.lt_or_ge (ps.length + 1) y with h | h
    · exact h
    · exfalso
      have := hw.2 (by omega) i (by omega)
      rw [h3] at this
      cases this
  · have hcy : c = y := by rw [← hct]; exact h1
    have hp2 := hput (by show x < c; omega) h2 hbs
    have hx : ∀ p ∈ ps, p.1 ≠ x := fun p hp e => by
      rw [(ha.has x).2 (List.mem_map.2 ⟨p, hp, e⟩)] at h2
      cases h2
    have hw := hp2.whole.1 (fun i hi => h3 i (by rw [← hcy]; exact hi))
    simp only [List.length_append, List.length_cons, List.length_nil] at hw
    refine ⟨v', _, _, _, _, _, rfl, hTa, hA.append hC, fine_out hFo, fun B J w hB hj => take_whole B J n' c x y bd s ps A1 A2 w hB hps3 f2 hc3 HREAD (HOPEN B J w hB hj) hcy hx (by omega) (t.put x bd).p (fun p hp => (hp2.part p hp).symm) (fun i hi => ?_) (fun i _ => put_size hts hbs i) hA100⟩
    obtain ⟨p, hp, hpi⟩ := List.mem_map.1 ((hp2.has i).1 (h3 i hi))
    exact ⟨p, hp, hpi⟩

theorem TAt.others {w w' : World} {v : Value} {M : List RT} (h : TAt w v M) (ho : Others w w') : TAt w' v M := by
  rcases h with h | ⟨b, off, cap, h1, h2, h3, ⟨cs, h5⟩, h4⟩
  · exact .inl h
  · have h6 := ho b _ cs h5 (by decide) (by decide) (by decide)
    exact .inr ⟨b, off, cap, h1, h2, h6.lt, ⟨cs, h6⟩, fun i hi j x hx => by rw [h6.cell, ← h5.cell]; exact h4 i hi j x hx⟩
theorem TAt.len {w : World} {v : Value} {M : List RT} (h : TAt w v M) : ∃ ao cap, v = .slice ao M.length cap := by
  rcases h with ⟨rfl, rfl⟩ | ⟨b, off, cap, rfl, _⟩
  · exact ⟨_, _, rfl⟩
  · exact ⟨_, _, rfl⟩
end Go.Proofs.Ytmipdbmmhoacpaa
