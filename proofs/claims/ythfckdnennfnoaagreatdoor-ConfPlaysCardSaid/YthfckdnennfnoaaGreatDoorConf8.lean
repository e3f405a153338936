/- strings.CutSuffix of a line's end, strings.Split at one byte. By an AI agent. -/
import Derived.Test.YthfckdnennfnoaaGreatDoorSplit
import Derived.Test.YthfckdnennfnoaaGreatDoorStrs
import Derived.Lib.Split
import Derived.Lib.SplitLaws
import Derived.Lib.Bytealg
import Derived.Deep.OwnRows
import Derived.Laws.Strings3
import Derived.Deep.DeepCutAuto
namespace Go.Proofs.YthfckdnennfnoaaGreatDoor
open Go.RowKit Go.Shelf
open Go.Lib

namespace Oct
theorem parts_count (c : UInt8) : ∀ l : List UInt8, (parts c l).length = l.count c + 1
  | [] => rfl
  | a :: l => by
    have ih := parts_count c l
    unfold parts
    by_cases h : a = c
    · subst h
      rw [if_pos rfl, List.length_cons, ih, List.count_cons_self]
    · rw [if_neg h, List.count_cons_of_ne h]
      cases hp : parts c l with
      | nil => rw [hp] at ih; simp at ih
      | cons p ps => rw [hp] at ih; simpa using ih
theorem pieces_count (c : UInt8) (s : ByteArray) : (pieces c s).length = s.data.toList.count c + 1 := by
  unfold pieces
  rw [List.length_map, parts_count]
theorem pieces_pos (c : UInt8) (s : ByteArray) : 1 ≤ (pieces c s).length := by rw [pieces_count]; omega
theorem pieces_hit {c : UInt8} {s : ByteArray} (h : 2 ≤ (pieces c s).length) : 0 ≤ Lib.indexByte s.data.toList c := by
  rcases Int.lt_or_le (Lib.indexByte s.data.toList c) 0 with h1 | h1
  · rw [pieces_no h1] at h
    simp at h
  · exact h1
theorem pieces_last {c : UInt8} {s : ByteArray} (h : (pieces c s).length = 1) : pieces c s = [s] := by
  rcases Int.lt_or_le (Lib.indexByte s.data.toList c) 0 with h1 | h1
  · exact pieces_no h1
  · obtain ⟨i, _, _, e⟩ := pieces_at h1
    have := pieces_pos c (s.extract (i + 1) s.size)
    rw [e] at h
    simp at h
    rw [h] at this
    simp at this
end Oct

set_option maxHeartbeats 1000000 in
set_option maxRecDepth 100000 in
theorem count_one_any (s : ByteArray) (c : UInt8) (w : World) : Calls Tryz.prog 74 #[.string s, .string ⟨#[c]⟩] w fun e w' => e = .returned (.int .i64 (Lib.countByte s.data.toList c)) ∧ w = w' := by
  go_enter Tryz.func74, Tryz.ntmps74
  go_wp2
  rw [run_callFunc_extern Tryz.func85 (by kernel_rfl) (by kernel_rfl) (by kernel_rfl) (e := Extern.BytealgCount.count) (by kernel_rfl), Lib.run_countString]
  simp only [Result.andThen]
  rw [Oper.upon_value]
  go_wp2
  go_ret
  exact ⟨rfl, rfl⟩

set_option maxHeartbeats 4000000 in
set_option maxRecDepth 1000000 in
theorem genSplit_one (s : ByteArray) (c : UInt8) (w : World) (hs : s.size < 1000000) :
    Calls Tryz.prog 57 #[.string s, .string ⟨#[c]⟩, .int .i64 0, .int .i64 (-1)] w fun e w' =>
      e = .returned (.slice (some ⟨w.heap.size, 0, none⟩) (Oct.pieces c s).length (Oct.pieces c s).length) ∧ w' = w.alloc (.cells (Strs.all (Oct.pieces c s)).toArray 9) := by
  obtain ⟨N, hN⟩ : ∃ N, (Oct.pieces c s).length = N := ⟨_, rfl⟩
  have hN1 : 1 ≤ N := by rw [← hN]; exact Oct.pieces_pos c s
  have hcn : (Lib.countByte s.data.toList c : Int) = (N : Int) - 1 := by
    rw [← hN, Oct.pieces_count]
    show ((s.data.toList.count c : Nat) : Int) = _
    omega
  have hNs : N ≤ s.size + 1 := by
    rw [← hN, Oct.pieces_count]
    have := List.count_le_length (a := c) (l := s.data.toList)
    have e : s.data.toList.length = s.size := by simp
    omega
  have HC := Lib.hid (fun w => count_one_any s c w)
  rw [hcn] at HC
  clear hcn
  have eN : min (N : Int) ((s.size : Int) + 1) = (N : Int) := by omega
  have hmk := run_make_row' (P := Tryz.prog) 51 9 (.string ByteArray.empty) 16 Tryz.underlying51 (by kernel_rfl) rfl .i64 .i64 N (by omega) (by omega)
  go_enter Tryz.func57, Tryz.ntmps57
  go_wp2_with fail
  refine (HC.out _).mono ?_
  rintro e w' ⟨rfl, rfl⟩
  go_upto_region 11 with fail

  clear hmk HC
  have HN := Lib.hid hN
  clear hN
  go_loopw [0, 10] (fun s0 s10 wr => ∃ (done : List ByteArray) (r : ByteArray), s0 = .string r ∧ s10 = .int .i64 done.length ∧ done.length + 1 ≤ N ∧ r.size < 1000000 ∧ Hid (Oct.pieces c s = done ++ Oct.pieces c r) ∧ wr = w.alloc (.cells (Lib.cellsOf done N) 9)) (fun _ i _ => N - (RowKit.intOf i).toNat)
  case atStart => exact ⟨[], s, rfl, rfl, hN1, hs, rfl, by rw [Lib.cellsOf_nil]⟩
  case round =>
    obtain ⟨done, r, rfl, rfl, hd, hr, HP, rfl⟩ := hrel
    have hnext : (Lib.cellsOf done N)[done.length]? = some (.string ByteArray.empty) := Lib.cellsOf_next (by omega)
    have hlen : done.length + (Oct.pieces c r).length = N := by rw [← HN.out, HP.out, List.length_append]
    by_cases hlt : done.length < N - 1
    · have hltz : ((done.length : Nat) : Int) < (N : Int) - 1 := by omega
      obtain ⟨i, e1, e2, e3⟩ := Oct.pieces_at (Oct.pieces_hit (c := c) (s := r) (by omega))
      have HI := Lib.hid (fun w => index_one_any r c w)
      rw [e1] at HI
      have HE := Lib.hid e3
      have c0 : ¬ ((i : Int) < 0) := by omega
      have c1 : (0 : Int) ≤ (i : Int) + 0 := by omega
      have c2 : ((i : Int) + 0 : Int) ≤ (r.size : Int) := by omega
      have c3 : (0 : Int) ≤ (i : Int) + 1 := by omega
      have c4 : ((i : Int) + 1 : Int) ≤ (r.size : Int) := by omega
      clear e1 e3
      go_wp2_with fail
      refine (HI.out _).mono ?_
      rintro e w' ⟨rfl, rfl⟩
      go_wp2_with fail
      refine ⟨⟨done ++ [r.extract 0 i], r.extract (i + 1) r.size, rfl, by simp, by simp; omega, by rw [ByteArray.size_extract]; omega, ?_, by rw [← Lib.cellsOf_set (by omega)]⟩, by simp [RowKit.intOf]; omega⟩
      show _ = _
      rw [HP.out, HE.out, List.append_assoc]
      rfl
    · have hltz : ¬ (((done.length : Nat) : Int) < (N : Int) - 1) := by omega
      have HL := Lib.hid (Oct.pieces_last (c := c) (s := r) (by omega))
      clear hlen
      go_wp2_with fail
      go_ret
      have e : Oct.pieces c s = done ++ [r] := by rw [HP.out, HL.out]
      have e2 : done.length + 1 = N := by omega
      refine ⟨?_, ?_⟩
      · rw [HN.out]
        show Ending.returned (.slice (some ⟨w.heap.size, 0, none⟩) (done.length + 1) N) = _
        rw [e2]
      · rw [Lib.cellsOf_set (by omega), e]
        have hl : (done ++ [r]).length = N := by simp [e2]
        rw [← hl, Lib.cellsOf_full]
        rfl

set_option maxHeartbeats 1000000 in
theorem split_any (s : ByteArray) (c : UInt8) (w : World) (hs : s.size < 1000000) :
    Calls Tryz.prog 38 #[.string s, .string ⟨#[c]⟩] w fun e w' =>
      e = .returned (.slice (some ⟨w.heap.size, 0, none⟩) (Oct.pieces c s).length (Oct.pieces c s).length) ∧ w' = w.alloc (.cells (Strs.all (Oct.pieces c s)).toArray 9) := by
  have H := Lib.hid (fun w => genSplit_one s c w hs)
  go_enter Tryz.func38, Tryz.ntmps38
  go_wp2_with fail
  refine (H.out _).mono ?_
  rintro e w' ⟨rfl, rfl⟩
  go_wp2_with fail
  go_ret
  exact ⟨rfl, rfl⟩

namespace Cf
/-- a line without its end -/
def cut (s : ByteArray) : Option ByteArray := if s.data.toList.getLast? = some 10 then some ⟨s.data.toList.dropLast.toArray⟩ else none
def CutAns (s : ByteArray) (e : Ending) : Prop := match cut s with
  | some t => e = .returned (.tuple #[.string t, .bool true])
  | none => e = .returned (.tuple #[.string s, .bool false])
end Cf
set_option maxHeartbeats 1000000 in
theorem suffix_any (l : List UInt8) (x : UInt8) (hl : l.length < 1000000) (w : World) : Calls Tryz.prog 72 #[.string ⟨(l ++ [x]).toArray⟩, .string ⟨#[10]⟩] w fun e w' => e = .returned (.bool (x == 10)) ∧ w = w' := by
  obtain ⟨s, hs⟩ : ∃ s : ByteArray, s = ⟨(l ++ [x]).toArray⟩ := ⟨_, rfl⟩
  have hz : s.size = l.length + 1 := by rw [hs]; simp [ByteArray.size]
  have he : s.extract l.length (l.length + 1) = ⟨#[x]⟩ := by
    rw [hs]
    apply ByteArray.ext
    apply Array.toList_inj.1
    simp
  rw [← hs]
  have HX : Hid ((([x] : List UInt8) == [10]) = (x == 10)) := by show _ = _; cases h : x == 10 <;> simp_all
  generalize l.length = k at *
  have hsl : ∀ w, (Instr.slice 9 (.string s) (some (.int .i64 (k : Int))) none none).run Tryz.prog w = .ok (.string ⟨#[x]⟩) w := fun w => by
    have h := run_slice_string_l (P := Tryz.prog) (t := 9) (s := s) (w := w) Tryz.underlying9 .i64 (k : Int) (by omega) (by omega)
    rw [h, hz]
    show Result.ok (Value.string (s.extract ((k : Nat) : Int).toNat (k + 1))) w = _
    rw [Int.toNat_natCast, he]
  have d1 : decide ((1 : Int) ≤ (s.size : Int)) = true := decide_eq_true (by omega)
  have d2 : wrap64 ((s.size : Int) - 1) = (k : Int) := by unfold wrap64; omega
  have d3 : IntKind.i64.wrap ((s.size : Int) - 1) = (k : Int) := by rw [IntKind.wrap_i64]; omega
  clear hs he hz
  go_enter Tryz.func72, Tryz.ntmps72
  go_wp2_with fail
  go_ret
  exact ⟨rfl, rfl⟩
set_option maxHeartbeats 1000000 in
theorem suffix_nil (w : World) : Calls Tryz.prog 72 #[.string ⟨#[]⟩, .string ⟨#[10]⟩] w fun e w' => e = .returned (.bool false) ∧ w = w' := by
  go_enter Tryz.func72, Tryz.ntmps72
  go_wp2_with fail
  go_ret
  exact ⟨rfl, rfl⟩

theorem Cf.snoc_of (s : ByteArray) : s = ⟨#[]⟩ ∨ ∃ (l : List UInt8) (x : UInt8), s = ⟨(l ++ [x]).toArray⟩ := by
  obtain ⟨⟨l⟩⟩ := s
  rcases List.eq_nil_or_concat l with rfl | ⟨l', x, rfl⟩
  · exact .inl rfl
  · exact .inr ⟨l', x, by simp⟩
theorem Cf.cut_snoc (l : List UInt8) (x : UInt8) : Cf.cut ⟨(l ++ [x]).toArray⟩ = if x = 10 then some ⟨l.toArray⟩ else none := by
  unfold Cf.cut
  simp
set_option maxHeartbeats 1000000 in
theorem lcut_any (s : ByteArray) (hs : s.size < 1000000) (w : World) : Calls Tryz.prog 56 #[.string s, .string ⟨#[10]⟩] w fun e w' => Cf.CutAns s e ∧ w = w' := by
  rcases Cf.snoc_of s with rfl | ⟨l, x, rfl⟩
  · go_enter Tryz.func56, Tryz.ntmps56
    go_wp2_with fail
    refine (suffix_nil _).mono ?_
    rintro e w' ⟨rfl, rfl⟩
    go_wp2_with fail
    go_ret2
    exact ⟨rfl, rfl⟩
  · have hl : l.length < 1000000 := by simp [ByteArray.size] at hs; omega
    have H := Lib.hid (fun w => suffix_any l x hl w)
    have HA := Lib.hid (Cf.cut_snoc l x)
    have hz : (⟨(l ++ [x]).toArray⟩ : ByteArray).size = l.length + 1 := by simp [ByteArray.size]
    have he : (⟨(l ++ [x]).toArray⟩ : ByteArray).extract 0 l.length = ⟨l.toArray⟩ := by
      apply ByteArray.ext
      apply Array.toList_inj.1
      simp
    generalize (⟨(l ++ [x]).toArray⟩ : ByteArray) = s at *
    generalize l.length = k at *
    have d2 : wrap64 ((s.size : Int) - 1) = (k : Int) := by unfold wrap64; omega
    have d3 : IntKind.i64.wrap ((s.size : Int) - 1) = (k : Int) := by rw [IntKind.wrap_i64]; omega
    have hsl : ∀ w, (Instr.slice 9 (.string s) none (some (.int .i64 (k : Int))) none).run Tryz.prog w = .ok (.string ⟨l.toArray⟩) w := fun w => by
      have h := run_slice_string_h (P := Tryz.prog) (t := 9) (s := s) (w := w) Tryz.underlying9 .i64 (k : Int) (by omega) (by omega)
      rw [h]
      show Result.ok (Value.string (s.extract 0 ((k : Nat) : Int).toNat)) w = _
      rw [Int.toNat_natCast, he]
    clear he hz
    by_cases hx : x = 10
    · have hb : (x == 10) = true := beq_iff_eq.2 hx
      rw [hb] at H
      rw [if_pos hx] at HA
      clear hx hb
      go_enter Tryz.func56, Tryz.ntmps56
      go_wp2_with fail
      refine (H.out _).mono ?_
      rintro e w' ⟨rfl, rfl⟩
      go_wp2_with fail
      go_ret2
      refine ⟨?_, rfl⟩
      unfold Cf.CutAns
      rw [HA.out]
      rfl
    · have hb : (x == 10) = false := beq_eq_false_iff_ne.2 hx
      rw [hb] at H
      rw [if_neg hx] at HA
      clear hx hb
      go_enter Tryz.func56, Tryz.ntmps56
      go_wp2_with fail
      refine (H.out _).mono ?_
      rintro e w' ⟨rfl, rfl⟩
      go_wp2_with fail
      go_ret2
      refine ⟨?_, rfl⟩
      unfold Cf.CutAns
      rw [HA.out]
      rfl
set_option maxHeartbeats 1000000 in
theorem cut_any (s : ByteArray) (hs : s.size < 1000000) (w : World) : Calls Tryz.prog 36 #[.string s, .string ⟨#[10]⟩] w fun e w' => Cf.CutAns s e ∧ w = w' := by
  have H := Lib.hid (fun w => lcut_any s hs w)
  clear hs
  cases h : Cf.cut s with
  | none =>
    have HC := Lib.hid h
    clear h
    go_enter Tryz.func36, Tryz.ntmps36
    go_wp2_with fail
    refine (H.out _).mono ?_
    rintro e w' ⟨he, rfl⟩
    unfold Cf.CutAns at he
    rw [HC.out] at he
    obtain rfl := he
    go_wp2_with fail
    go_ret2
    refine ⟨?_, rfl⟩
    unfold Cf.CutAns
    rw [HC.out]
    rfl
  | some t =>
    have HC := Lib.hid h
    clear h
    go_enter Tryz.func36, Tryz.ntmps36
    go_wp2_with fail
    refine (H.out _).mono ?_
    rintro e w' ⟨he, rfl⟩
    unfold Cf.CutAns at he
    rw [HC.out] at he
    obtain rfl := he
    go_wp2_with fail
    go_ret2
    refine ⟨?_, rfl⟩
    unfold Cf.CutAns
    rw [HC.out]
    rfl
end Go.Proofs.YthfckdnennfnoaaGreatDoor
