/- oct.decimal and IpText: bytes in decimal. By an AI agent. -/
import Derived.Test.YtknnadnjikfibaaDoorBytes
import Derived.Deep.RegionHeld3
import Derived.Deep.QuietTactic
import Derived.BigQuiet
namespace Go.Proofs.YtknnadnjikfibaaDoor
open Go.RowKit
namespace Oct
/-- decimal, with fuel -/
def decF : Nat → Nat → List UInt8
  | 0, n => [UInt8.ofNat (48 + n % 10)]
  | f + 1, n => if n < 10 then [UInt8.ofNat (48 + n % 10)] else decF f (n / 10) ++ [UInt8.ofNat (48 + n % 10)]

/-- a byte in decimal -/
def dec8 (n : Nat) : List UInt8 := decF 2 n

theorem decF_fuel : ∀ (f n : Nat), n < 10 ^ (f + 1) → ∀ g, f ≤ g → decF g n = decF f n
  | 0, n, h, 0, _ => rfl
  | 0, n, h, g + 1, _ => by
    have : n < 10 := by simpa using h
    simp [decF, this]
  | f + 1, n, h, 0, hg => by omega
  | f + 1, n, h, g + 1, hg => by
    unfold decF
    have h2 : n / 10 < 10 ^ (f + 1) := by
      rw [Nat.div_lt_iff_lt_mul (by decide)]
      rw [Nat.pow_succ] at h
      exact h
    rw [decF_fuel f (n / 10) h2 g (by omega)]
def ipText (a b c d : UInt8) : List UInt8 := dec8 a.toNat ++ 46 :: (dec8 b.toNat ++ 46 :: (dec8 c.toNat ++ 46 :: dec8 d.toNat))

theorem decF_length : ∀ (f n : Nat), (decF f n).length ≤ f + 1
  | 0, n => by simp [decF]
  | f + 1, n => by
    unfold decF
    split
    · simp
    · have := decF_length f (n / 10)
      rw [List.length_append]; simp; omega

theorem mk_append_list (x : List UInt8) (y : Array UInt8) : (ByteArray.mk x.toArray ++ ByteArray.mk y) = ByteArray.mk (x ++ y.toList).toArray := by
  have := ByteArray.mk_append_mk x y.toList
  rw [Array.toArray_toList] at this
  exact this
end Oct

set_option maxHeartbeats 400000 in
theorem decimal_any (f : Nat) (hf : f ≤ 20) : ∀ (n : Nat) (w : World), n < 10 ^ (f + 1) → n < 256 →
    Calls Tryd.prog 28 #[.int .u8 n] w fun e w' => e = .returned (.string ⟨(Oct.decF f n).toArray⟩) ∧ Below w.heap.size w w' := by
  induction f with
  | zero =>
    intro n w h1 h2
    have h1' : n < 10 := by simpa using h1
    clear h1
    have hc := fun w : World => run_string_one w (48 + (n : Int) % 10)
    go_enter Tryd.func28, Tryd.ntmps28
    go_wp2_with fail
    go_ret
    exact ⟨rfl, (Below.refl _ _).alloc (Nat.le_refl _) _⟩
  | succ f ih =>
    intro n w h1 h2
    have hc := fun w : World => run_string_one w (48 + (n : Int) % 10)
    by_cases h10 : n < 10
    · go_enter Tryd.func28, Tryd.ntmps28
      go_wp2_with fail
      go_ret
      refine ⟨?_, (Below.refl _ _).alloc (Nat.le_refl _) _⟩
      rw [Oct.decF, if_pos h10]
      rfl
    · have h3 : n / 10 < 10 ^ (f + 1) := by
        rw [Nat.div_lt_iff_lt_mul (by decide)]
        rw [Nat.pow_succ] at h1
        exact h1
      have hlen : (Oct.decF f (n / 10)).length ≤ 30 := by have := Oct.decF_length f (n / 10); omega
      have IH := Lib.hid (ih (by omega) (n / 10))
      clear ih h1
      have H3 := Lib.hid h3
      clear h3
      go_enter Tryd.func28, Tryd.ntmps28
      go_wp2_with fail
      refine (IH.out _ H3.out (by omega)).mono ?_
      rintro e w1 ⟨rfl, hb1⟩
      go_wp2_with fail
      go_ret
      refine ⟨?_, ((Below.refl _ _).alloc (Nat.le_refl _) _).trans (hb1.mono (by simp))⟩
      rw [Oct.decF, if_neg h10]
      show Ending.returned (.string _) = _
      rw [Oct.mk_append_list]
      simp
      apply UInt8.toNat_inj.1
      rw [UInt8.toNat_mod, UInt8.toNat_ofNat', UInt8.toNat_ofNat']
      have e10 : (10 : UInt8).toNat = 10 := rfl
      rw [e10]
      omega
theorem ip_start (w : World) (a b c d : Value) :
    w.heap.size < (w.alloc (.cells #[a, b, c, d] 28)).drew.heap.size ∧ (w.alloc (.cells #[a, b, c, d] 28)).drew.cell? ⟨w.heap.size, 0, none⟩ = some a ∧ (w.alloc (.cells #[a, b, c, d] 28)).drew.cell? ⟨w.heap.size, 1, none⟩ = some b ∧
      (w.alloc (.cells #[a, b, c, d] 28)).drew.cell? ⟨w.heap.size, 2, none⟩ = some c ∧ (w.alloc (.cells #[a, b, c, d] 28)).drew.cell? ⟨w.heap.size, 3, none⟩ = some d ∧ Below w.heap.size w (w.alloc (.cells #[a, b, c, d] 28)).drew :=
  ⟨by simp, by simp, by simp, by simp, by simp, ((Below.refl _ _).alloc (Nat.le_refl _) _).drew⟩

theorem ip_step {n : Nat} {w w' w1 : World} {a b c d : Value} (hb : Below w'.heap.size w' w1)
    (h : n < w'.heap.size ∧ w'.cell? ⟨n, 0, none⟩ = some a ∧ w'.cell? ⟨n, 1, none⟩ = some b ∧ w'.cell? ⟨n, 2, none⟩ = some c ∧ w'.cell? ⟨n, 3, none⟩ = some d ∧ Below n w w') :
    n < w1.heap.size ∧ w1.cell? ⟨n, 0, none⟩ = some a ∧ w1.cell? ⟨n, 1, none⟩ = some b ∧ w1.cell? ⟨n, 2, none⟩ = some c ∧ w1.cell? ⟨n, 3, none⟩ = some d ∧ Below n w w1 := by
  obtain ⟨h0, h1, h2, h3, h4, h5⟩ := h
  have hz := hb.size
  refine ⟨by omega, ?_, ?_, ?_, ?_, h5.trans (hb.mono (by omega))⟩
  · rw [hb.cell (p := ⟨n, 0, none⟩) h0]; exact h1
  · rw [hb.cell (p := ⟨n, 1, none⟩) h0]; exact h2
  · rw [hb.cell (p := ⟨n, 2, none⟩) h0]; exact h3
  · rw [hb.cell (p := ⟨n, 3, none⟩) h0]; exact h4

set_option maxHeartbeats 4000000 in
set_option maxRecDepth 100000 in
theorem ipText_any (a b c d : UInt8) (w : World) :
    Calls Tryd.prog 10 #[.agg #[.int .u8 (a.toNat : Int), .int .u8 (b.toNat : Int), .int .u8 (c.toNat : Int), .int .u8 (d.toNat : Int)]] w
      fun e' w' => e' = .returned (.string ⟨(Oct.ipText a b c d).toArray⟩) ∧ Below w.heap.size w w' := by
  have la := Oct.decF_length 2 a.toNat
  have lb := Oct.decF_length 2 b.toNat
  have lc := Oct.decF_length 2 c.toNat
  have ld := Oct.decF_length 2 d.toNat
  have ha := a.toNat_lt
  have hb := b.toNat_lt
  have hc := c.toNat_lt
  have hd := d.toNat_lt
  have q1 : ¬ 9223372036854775807 < (Oct.decF 2 a.toNat).length + 1 := by omega
  have q2 : ¬ 9223372036854775807 < (Oct.decF 2 a.toNat).length + 1 + (Oct.decF 2 b.toNat).length := by omega
  have q3 : ¬ 9223372036854775807 < (Oct.decF 2 a.toNat).length + 1 + (Oct.decF 2 b.toNat).length + 1 := by omega
  have q4 : ¬ 9223372036854775807 < (Oct.decF 2 a.toNat).length + 1 + (Oct.decF 2 b.toNat).length + 1 + (Oct.decF 2 c.toNat).length := by omega
  have q5 : ¬ 9223372036854775807 < (Oct.decF 2 a.toNat).length + 1 + (Oct.decF 2 b.toNat).length + 1 + (Oct.decF 2 c.toNat).length + 1 := by omega
  have q6 : ¬ 9223372036854775807 < (Oct.decF 2 a.toNat).length + 1 + (Oct.decF 2 b.toNat).length + 1 + (Oct.decF 2 c.toNat).length + 1 + (Oct.decF 2 d.toNat).length := by omega
  go_enter Tryd.func10, Tryd.ntmps10
  go_wp2_with fail
  go_region_held3 (fun w' => w.heap.size < w'.heap.size ∧ w'.cell? ⟨w.heap.size, 0, none⟩ = some (.int .u8 (a.toNat : Int)) ∧ w'.cell? ⟨w.heap.size, 1, none⟩ = some (.int .u8 (b.toNat : Int)) ∧
      w'.cell? ⟨w.heap.size, 2, none⟩ = some (.int .u8 (c.toNat : Int)) ∧ w'.cell? ⟨w.heap.size, 3, none⟩ = some (.int .u8 (d.toNat : Int)) ∧ Below w.heap.size w w')
    (first | exact ip_start _ _ _ _ _ | exact ip_step hb1 (by assumption) | go_keep | (trace_state; fail))
    (first | (go_at_call 28; refine (decimal_any 2 (by omega) _ _ (by omega) (by omega)).mono ?_; rintro e' w1 ⟨rfl, hb1⟩))
  go_wp2
  go_ret
  refine ⟨?_, ?_⟩
  · show Ending.returned (.string _) = _
    rw [Oct.mk_append_list, Oct.mk_append_list, Oct.mk_append_list, Oct.mk_append_list, Oct.mk_append_list, Oct.mk_append_list]
    simp [Oct.ipText, Oct.dec8]
  · first
    | assumption
    | (go_split_ands; assumption)
    | trace_state
end Go.Proofs.YtknnadnjikfibaaDoor
