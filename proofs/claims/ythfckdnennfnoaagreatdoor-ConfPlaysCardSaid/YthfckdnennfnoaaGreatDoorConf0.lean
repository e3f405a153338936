/- conf: must, decimal, number, next. By an AI agent. -/
import Derived.Test.YthfckdnennfnoaaGreatDoorConfLaw
import Derived.Test.YthfckdnennfnoaaGreatDoorRangeP
import Derived.Test.YthfckdnennfnoaaGreatDoorRow
namespace Go.Proofs.YthfckdnennfnoaaGreatDoor
open Go.RowKit

/-- the functions that there are -/
def Kn : Fence := { fn := fun f => ∃ fn, Tryz.prog.funcs[f]? = some fn, depth := none, alive := false }
@[simp, go_sem] theorem Kn.round_no : Kn.round = none := rfl
@[simp, go_sem] theorem Kn.depth_no : Kn.depth = none := rfl
theorem Kn.calls {n : Nat} {f : FuncId} {args : Array Value} {w : World} {R : Ending → World → Prop} (h : CallsIn Kn n Tryz.prog f args w R) : Calls Tryz.prog f args w R := h.calls fun _ _ h => by cases h
/-- what a line that can't be read panics with -/
def Cf.ch : List PanicEntry := [{ v := .iface 99 (.agg #[]), recovered := false }]

theorem must_in (n : Nat) (b : Bool) (w : World) : CallsIn Kn n Tryz.prog 37 #[.bool b] w fun e w' => (if b then e = .returned (.tuple #[]) else e = .panicked Cf.ch) ∧ w = w' := by
  have hro : Kn.round = none := rfl
  refine callsIn_of_wp Tryz.func37 rfl ⟨_, Tryz.func37⟩ ?_ rfl
  simp only [Tryz.ntmps37, List.size_toArray, List.length_cons, List.length_nil, Nat.reduceAdd, Nat.reduceSub, Array.replicate_succ, Array.replicate_zero, List.push_toArray, List.append_toArray, List.nil_append, List.cons_append]
  cases b
  · gi_wp2
    exact ⟨rfl, rfl, rfl⟩
  · gi_wp2
    go_end0
    exact ⟨rfl, rfl⟩

set_option maxHeartbeats 1000000 in
theorem decimal_in (n : Nat) (f : Nat) (hf : f ≤ 20) : ∀ (x : Nat) (w : World), x < 10 ^ (f + 1) → x < 9223372036854775808 →
    CallsIn Kn n Tryz.prog 44 #[.int .i64 x] w fun e w' => e = .returned (.string ⟨(Oct.decF f x).toArray⟩) ∧ Below w.heap.size w w' := by
  have hro : Kn.round = none := rfl
  induction f generalizing n with
  | zero =>
    intro x w h1 h2
    have h1' : x < 10 := by simpa using h1
    clear h1
    have hc := fun w : World => run_string_one w (48 + (x : Int) % 10)
    refine callsIn_of_wp Tryz.func44 rfl ⟨_, Tryz.func44⟩ ?_ rfl
    simp only [Tryz.ntmps44, List.size_toArray, List.length_cons, List.length_nil, Nat.reduceAdd, Nat.reduceSub, Array.replicate_succ, Array.replicate_zero, List.push_toArray, List.append_toArray, List.nil_append, List.cons_append]
    gi_wp2_with fail
    go_ret
    exact ⟨rfl, (Below.refl _ _).alloc (Nat.le_refl _) _⟩
  | succ f ih =>
    intro x w h1 h2
    have hc := fun w : World => run_string_one w (48 + (x : Int) % 10)
    by_cases h10 : x < 10
    · refine callsIn_of_wp Tryz.func44 rfl ⟨_, Tryz.func44⟩ ?_ rfl
      simp only [Tryz.ntmps44, List.size_toArray, List.length_cons, List.length_nil, Nat.reduceAdd, Nat.reduceSub, Array.replicate_succ, Array.replicate_zero, List.push_toArray, List.append_toArray, List.nil_append, List.cons_append]
      gi_wp2_with fail
      go_ret
      refine ⟨?_, (Below.refl _ _).alloc (Nat.le_refl _) _⟩
      rw [Oct.decF, if_pos h10]
      rfl
    · have h3 : x / 10 < 10 ^ (f + 1) := by
        rw [Nat.div_lt_iff_lt_mul (by decide)]
        rw [Nat.pow_succ] at h1
        exact h1
      have hlen : (Oct.decF f (x / 10)).length ≤ 30 := by have := Oct.decF_length f (x / 10); omega
      have IH := Lib.hid (fun n w => ih n (by omega) (x / 10) w)
      clear ih h1
      have H3 := Lib.hid h3
      clear h3
      refine callsIn_of_wp Tryz.func44 rfl ⟨_, Tryz.func44⟩ ?_ rfl
      simp only [Tryz.ntmps44, List.size_toArray, List.length_cons, List.length_nil, Nat.reduceAdd, Nat.reduceSub, Array.replicate_succ, Array.replicate_zero, List.push_toArray, List.append_toArray, List.nil_append, List.cons_append]
      gi_wp2_with fail
      refine ⟨⟨_, Tryz.func44⟩, (IH.out _ _ H3.out (by omega)).mono ?_⟩
      rintro e w1 ⟨rfl, hb1⟩
      gi_wp2_with fail
      go_ret
      refine ⟨?_, ((Below.refl _ _).alloc (Nat.le_refl _) _).trans (hb1.mono (by simp))⟩
      rw [Oct.decF, if_neg h10]
      show Ending.returned (.string _) = _
      rw [Oct.mk_append_list]
      simp
namespace Cf
theorem numOf_len {l : List UInt8} (h : l.length = 0 ∨ 10 < l.length) : numOf l = none := by
  unfold numOf
  rw [if_neg (by omega)]
theorem numOf_digit {l : List UInt8} {d : UInt8} (hd : d ∈ l) (h : d.toNat < 48 ∨ 57 < d.toNat) : numOf l = none := by
  unfold numOf
  rw [if_neg]
  intro hc
  have := List.all_eq_true.1 hc.2.1 d hd
  unfold dig at this
  simp at this
  omega
theorem numOf_is {l : List UInt8} (h1 : 1 ≤ l.length) (h2 : l.length ≤ 10) (h3 : l.all dig = true) : numOf l = if dec (val l) = l then some (val l) else none := by
  unfold numOf
  by_cases h : dec (val l) = l
  · rw [if_pos ⟨⟨h1, h2⟩, h3, h⟩, if_pos h]
  · rw [if_neg (fun hc => h hc.2.2), if_neg h]
theorem val_takeB (s : ByteArray) (k : Nat) (h : k < s.size) : val (s.data.toList.take (k + 1)) = 10 * val (s.data.toList.take k) + (s[k].toNat - 48) := by
  rw [val_take _ _ (by simpa using h)]
  simp [ByteArray.getElem_eq_getElem_data]
theorem all_takeB (s : ByteArray) (k : Nat) (h : k < s.size) (ha : (s.data.toList.take k).all dig = true) (hd : 48 ≤ s[k].toNat) (hd2 : s[k].toNat ≤ 57) : (s.data.toList.take (k + 1)).all dig = true := by
  rw [List.take_succ_eq_append_getElem (by simpa using h), List.all_append, ha]
  have : s.data.toList[k]'(by simpa using h) = s[k] := by simp [ByteArray.getElem_eq_getElem_data]
  rw [this]
  simp [dig, hd, hd2]
theorem numOf_lt {l : List UInt8} {n : Nat} (h : numOf l = some n) : n < 10000000000 := by
  unfold numOf at h
  by_cases hc : (1 ≤ l.length ∧ l.length ≤ 10) ∧ l.all dig = true ∧ dec (val l) = l
  · rw [if_pos hc] at h
    have h1 := val_lt l hc.2.1
    have h2 : 10 ^ l.length ≤ 10 ^ 10 := Nat.pow_le_pow_right (by decide) hc.1.2
    obtain rfl := Option.some.inj h
    exact Nat.lt_of_lt_of_le h1 h2
  · rw [if_neg hc] at h
    cases h
/-- a number, or a panic -/
def NumAns (s : ByteArray) (e : Ending) : Prop := match numOf s.data.toList with
  | some n => e = .returned (.int .i64 n)
  | none => e = .panicked ch
theorem numAns_no {s : ByteArray} (h : numOf s.data.toList = none) : NumAns s (.panicked ch) := by unfold NumAns; rw [h]
theorem numAns_yes {s : ByteArray} {n : Nat} (h : numOf s.data.toList = some n) : NumAns s (.returned (.int .i64 n)) := by unfold NumAns; rw [h]
end Cf

set_option maxRecDepth 20000 in
set_option maxHeartbeats 2000000 in
theorem number_in (n : Nat) (s : ByteArray) (w : World) : CallsIn Kn n Tryz.prog 60 #[.string s] w fun e w' => Cf.NumAns s e ∧ Below w.heap.size w w' := by
  have hro : Kn.round = none := rfl
  have hsl : s.data.toList.length = s.size := by simp
  by_cases h0 : s.size = 0
  · have hno := Cf.numOf_len (l := s.data.toList) (.inl (by omega))
    obtain rfl : s = ⟨#[]⟩ := by
      apply ByteArray.ext
      apply Array.eq_empty_of_size_eq_zero
      exact h0
    have HNO := Lib.hid hno
    clear hno hsl h0
    refine callsIn_of_wp Tryz.func60 rfl ⟨_, Tryz.func60⟩ ?_ rfl
    simp only [Tryz.ntmps60, List.size_toArray, List.length_cons, List.length_nil, Nat.reduceAdd, Nat.reduceSub, Array.replicate_succ, Array.replicate_zero, List.push_toArray, List.append_toArray, List.nil_append, List.cons_append]
    gi_wp2_with fail
    refine ⟨⟨_, Tryz.func37⟩, (must_in _ false _).mono ?_⟩
    rintro e w' ⟨rfl, rfl⟩
    exact ⟨rfl, Cf.numAns_no HNO.out, Below.refl _ _⟩
  have he : s.toList.isEmpty = false := by
    rw [Lib.toList_data]
    cases hl : s.data.toList with
    | nil => rw [hl] at hsl; simp at hsl; omega
    | cons a l => rfl
  by_cases h3 : 10 < s.size
  · have hno := Lib.hid (Cf.numOf_len (l := s.data.toList) (.inr (by omega)))
    have d1 : decide ((s.size : Int) ≤ 10) = false := decide_eq_false (by omega)
    refine callsIn_of_wp Tryz.func60 rfl ⟨_, Tryz.func60⟩ ?_ rfl
    simp only [Tryz.ntmps60, List.size_toArray, List.length_cons, List.length_nil, Nat.reduceAdd, Nat.reduceSub, Array.replicate_succ, Array.replicate_zero, List.push_toArray, List.append_toArray, List.nil_append, List.cons_append]
    gi_wp2_with fail
    refine ⟨⟨_, Tryz.func37⟩, (must_in _ false _).mono ?_⟩
    rintro e w' ⟨rfl, rfl⟩
    exact ⟨rfl, Cf.numAns_no hno.out, Below.refl _ _⟩
  have d1 : decide ((s.size : Int) ≤ 10) = true := decide_eq_true (by omega)
  clear hsl
  refine callsIn_of_wp Tryz.func60 rfl ⟨_, Tryz.func60⟩ ?_ rfl
  simp only [Tryz.ntmps60, List.size_toArray, List.length_cons, List.length_nil, Nat.reduceAdd, Nat.reduceSub, Array.replicate_succ, Array.replicate_zero, List.push_toArray, List.append_toArray, List.nil_append, List.cons_append]
  gi_wp2_with fail
  refine ⟨⟨_, Tryz.func37⟩, (must_in _ true _).mono ?_⟩
  rintro e w' ⟨rfl, rfl⟩
  gi_wp2_with fail
  gi_loop [3, 15] (fun n i => ∃ k m : Nat, k ≤ s.size ∧ i = .int .i64 k ∧ n = .int .i64 m ∧ m < 10 ^ k ∧ Hid (m = Cf.val (s.data.toList.take k) ∧ (s.data.toList.take k).all Cf.dig = true)) (fun _ i => s.size - (intOf i).toNat)
  case atStart => exact ⟨0, 0, Nat.zero_le _, rfl, rfl, by decide, rfl, rfl⟩
  case round =>
    obtain ⟨k, m, hk, rfl, rfl, hmk, hm⟩ := hrel
    have hm999 : m < 10000000000 := Nat.lt_of_lt_of_le hmk (Nat.le_trans (Nat.pow_le_pow_right (by decide) (show k ≤ 10 by omega)) (by decide))
    by_cases hlt : k < s.size
    · have hb := s[k].toNat_lt
      have HT := Lib.hid (Cf.val_takeB s k hlt)
      have hmem : s[k] ∈ s.data.toList := by
        rw [ByteArray.getElem_eq_getElem_data]
        simp
      by_cases hd : s[k].toNat < 48
      · have hno := Lib.hid (Cf.numOf_digit hmem (.inl hd))
        clear hmk
        have d2 : decide (48 ≤ (s[k].toNat : Int)) = false := decide_eq_false (by omega)
        gi_wp2_with fail
        refine ⟨⟨_, Tryz.func37⟩, (must_in _ false _).mono ?_⟩
        rintro e w' ⟨rfl, rfl⟩
        exact ⟨rfl, Cf.numAns_no hno.out, Below.refl _ _⟩
      · have d2 : decide (48 ≤ (s[k].toNat : Int)) = true := decide_eq_true (by omega)
        by_cases hd2 : 57 < s[k].toNat
        · have hno := Lib.hid (Cf.numOf_digit hmem (.inr hd2))
          clear hmk
          have d3 : decide ((s[k].toNat : Int) ≤ 57) = false := decide_eq_false (by omega)
          gi_wp2_with fail
          refine ⟨⟨_, Tryz.func37⟩, (must_in _ false _).mono ?_⟩
          rintro e w' ⟨rfl, rfl⟩
          exact ⟨rfl, Cf.numAns_no hno.out, Below.refl _ _⟩
        · have hpow : 10 * m + (s[k].toNat - 48) < 10 ^ (k + 1) := by rw [Nat.pow_succ]; omega
          have HPOW := Lib.hid hpow
          have d3 : decide ((s[k].toNat : Int) ≤ 57) = true := decide_eq_true (by omega)
          clear hmk hpow hmem
          have HAL := Lib.hid (Cf.all_takeB s k hlt hm.out.2 (by omega) (by omega))
          gi_wp2_with fail
          refine ⟨⟨_, Tryz.func37⟩, (must_in _ true _).mono ?_⟩
          rintro e w' ⟨rfl, rfl⟩
          gi_wp2_with fail
          refine ⟨⟨k + 1, 10 * m + (s[k].toNat - 48), by omega, by go_num, by go_num, HPOW.out, ?_, HAL.out⟩, by simp [intOf]; omega⟩
          rw [HT.out, hm.out.1]
    · have hm2 := hm.out
      rw [List.take_of_length_le (by simp; omega)] at hm2
      have HM := Lib.hid hm2
      clear hm hm2 hmk
      have HD := Lib.hid (fun n w => decimal_in n 20 (by decide) m w (by omega) (by omega))
      gi_wp2_with fail
      refine ⟨⟨_, Tryz.func44⟩, (HD.out _ _).mono ?_⟩
      rintro e w2 ⟨rfl, hb2⟩
      have HN := Lib.hid (Cf.numOf_is (l := s.data.toList) (by simp; omega) (by simp; omega) HM.out.2)
      have hs1 : ((Oct.decF 20 m) == s.toList) = decide (Cf.dec (Cf.val s.data.toList) = s.data.toList) := by
        rw [Lib.toList_data, Bool.eq_iff_iff, beq_iff_eq, decide_eq_true_iff, ← HM.out.1]
        rfl
      by_cases hq : Cf.dec (Cf.val s.data.toList) = s.data.toList
      · have hs2 : ((Oct.decF 20 m) == s.toList) = true := hs1.trans (decide_eq_true hq)
        have HQ := Lib.hid hq
        clear hs1 hq
        gi_wp2_with fail
        refine ⟨⟨_, Tryz.func37⟩, (must_in _ true _).mono ?_⟩
        rintro e w' ⟨rfl, rfl⟩
        gi_wp2_with fail
        go_ret
        refine ⟨?_, hb2⟩
        rw [HM.out.1]
        exact Cf.numAns_yes (by rw [HN.out, if_pos HQ.out])
      · have hs2 : ((Oct.decF 20 m) == s.toList) = false := hs1.trans (decide_eq_false hq)
        have HQ := Lib.hid hq
        clear hs1 hq
        gi_wp2_with fail
        refine ⟨⟨_, Tryz.func37⟩, (must_in _ false _).mono ?_⟩
        rintro e w' ⟨rfl, rfl⟩
        exact ⟨rfl, Cf.numAns_no (by rw [HN.out, if_neg HQ.out]), hb2⟩

theorem number_any (s : ByteArray) (w : World) : Calls Tryz.prog 60 #[.string s] w fun e w' => Cf.NumAns s e ∧ Below w.heap.size w w' := (number_in 0 s w).calls fun _ _ h => by cases h
theorem must_any (b : Bool) (w : World) : Calls Tryz.prog 37 #[.bool b] w fun e w' => (if b then e = .returned (.tuple #[]) else e = .panicked Cf.ch) ∧ w = w' := (must_in 0 b w).calls fun _ _ h => by cases h
theorem must_ok (w : World) : Calls Tryz.prog 37 #[.bool true] w fun e w' => e = .returned (.tuple #[]) ∧ w = w' := must_any true w
theorem must_not (w : World) : Calls Tryz.prog 37 #[.bool false] w fun e w' => e = .panicked Cf.ch ∧ w = w' := (must_any false w).mono fun e w' h => ⟨h.1, h.2⟩
theorem decimal_any (f : Nat) (hf : f ≤ 20) (x : Nat) (w : World) (h1 : x < 10 ^ (f + 1)) (h2 : x < 9223372036854775808) : Calls Tryz.prog 44 #[.int .i64 x] w fun e w' => e = .returned (.string ⟨(Oct.decF f x).toArray⟩) ∧ Below w.heap.size w w' :=
  (decimal_in 0 f hf x w h1 h2).calls fun _ _ h => by cases h
end Go.Proofs.YthfckdnennfnoaaGreatDoor
