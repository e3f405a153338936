/- The cost of a whole rate is the nearest of 20000 by it. By an AI agent. -/
import Derived.Test.YthadlpiioabajaaCostLaws
namespace Go.Proofs.Ythadlpiioabajaa
open Go.RowKit Ieee
namespace Fl
/-- the document's cost of a whole rate from 1 on -/
def wantP (n : Nat) : Nat := min (max ((40000 + n) / (2 * n)) 1) 65535
/-- a whole number as a double -/
def flo (n : Nat) : Nat := floatOfInt .f64 (n : Int)

theorem flo_eq (n : Nat) (h : 0 < n) : flo n = rung (n.log2 : Int) n := by
  have e := nearest_normal false n 0 (n.log2 : Int) h (by omega) (by omega)
  have e2 : flo n = double.nearest false n 0 := by
    have h1 : flo n = Format.write double (.number (decide ((n : Int) < 0)) ((n : Int)).natAbs 0) := rfl
    rw [h1, decide_eq_false (by omega), Int.natAbs_natCast]
    simp only [Format.write]
  rw [e2, e]
  simp only [Format.word, Bool.false_eq_true, if_false]

theorem log2_le {n m : Nat} (h : 0 < n) (hm : n ≤ m) : n.log2 ≤ m.log2 := by
  rw [Nat.le_log2 (by omega)]
  exact Nat.le_trans (Nat.log2_self_le (by omega)) hm

theorem sig_mono {n m : Nat} (h : n.log2 = m.log2) (hm : n ≤ m) : sig n ≤ sig m := by
  unfold sig
  rw [h]
  exact ev_mono (Nat.pow_pos (by decide)) (Nat.pow_pos (by decide)) (Nat.mul_le_mul_right _ (Nat.mul_le_mul_right _ hm))

theorem flo_mono {n m : Nat} (h : 0 < n) (hm : n ≤ m) : flo n ≤ flo m := by
  rw [flo_eq n h, flo_eq m (by omega)]
  rcases Nat.lt_or_eq_of_le (log2_le h hm) with hl | hl
  · exact rung_mono_k h (by omega) (by omega) (by omega)
  · exact rung_mono_sig (by omega) (sig_mono hl hm)

theorem flo_one : flo 1 = 4607182418800017408 := by decide +kernel
theorem flo_max : flo 65535 = 4679239875398991872 := by decide +kernel

theorem flo_bd (n : Nat) (h : 0 < n) (hm : n ≤ 65535) : 0 < flo n ∧ flo n < inf ∧ flo n < 18446744073709551616 := by
  have h1 := flo_mono (n := 1) (by decide) h
  have h2 := flo_mono h hm
  rw [flo_one] at h1
  rw [flo_max] at h2
  unfold inf
  omega

theorem rate_anti {n m : Nat} (h : 0 < n) (hm : n ≤ m) (hb : m ≤ 65535) : cost (flo m) ≤ cost (flo n) := by
  obtain ⟨n0, n1, _⟩ := flo_bd n h (by omega)
  obtain ⟨m0, m1, _⟩ := flo_bd m (by omega) hb
  rw [cost_pos _ n0 n1, cost_pos _ m0 m1]
  exact Int.ofNat_le.2 (costR_mono (qr_anti n0 (flo_mono h hm) m1))

theorem want_anti {n m : Nat} (h : 0 < n) (hm : n ≤ m) : wantP m ≤ wantP n := by
  have : (40000 + m) / (2 * m) ≤ (40000 + n) / (2 * n) := by
    have hq := Nat.div_mul_le_self (40000 + m) (2 * m)
    rw [Nat.le_div_iff_mul_le (by omega)]
    generalize (40000 + m) / (2 * m) = q at hq ⊢
    obtain ⟨d, rfl⟩ := Nat.exists_eq_add_of_le hm
    rcases Nat.eq_zero_or_pos q with rfl | hq0
    · omega
    · have e1 : q * (2 * (n + d)) = q * (2 * n) + 2 * (q * d) := by rw [Nat.mul_add, Nat.mul_add, Nat.mul_left_comm q 2 d]
      have e2 : d ≤ q * d := Nat.le_mul_of_pos_left d hq0
      omega
  unfold wantP
  omega

def rateOk (n : Nat) : Bool := decide (cost (flo n) = (wantP n : Nat))
/-- the greatest number of the same cost -/
def lastOf (a : Nat) : Nat := if wantP a ≤ 1 then 65535 else 40000 / (2 * wantP a - 1)
/-- from a on: both ends of each run of one cost are right -/
def runsOk : Nat → Nat → Bool
  | 0, _ => false
  | f + 1, a => decide (65535 < a) || (decide (a ≤ lastOf a) && decide (lastOf a ≤ 65535) && decide (wantP a = wantP (lastOf a)) && rateOk a && rateOk (lastOf a) && runsOk f (lastOf a + 1))

theorem runsOk_spec : ∀ (f a : Nat), 0 < a → runsOk f a = true → ∀ n, a ≤ n → n ≤ 65535 → cost (flo n) = (wantP n : Nat)
  | 0, _, _, h, _, _, _ => by cases h
  | f + 1, a, h0, h, n, h1, h2 => by
    simp only [runsOk, Bool.or_eq_true, Bool.and_eq_true, decide_eq_true_eq] at h
    rcases h with h | ⟨⟨⟨⟨⟨k1, k2⟩, k3⟩, k4⟩, k5⟩, k6⟩
    · omega
    · generalize lastOf a = b at *
      rcases Nat.lt_or_ge b n with hb | hb
      · exact runsOk_spec f (b + 1) (by omega) k6 n (by omega) h2
      · simp only [rateOk, decide_eq_true_eq] at k4 k5
        have c1 := rate_anti h0 h1 h2
        have c2 := rate_anti (show 0 < n by omega) hb k2
        have w1 := want_anti h0 h1
        have w2 := want_anti (show 0 < n by omega) hb
        omega

theorem runs : runsOk 400 1 = true := by decide +kernel

/-- the cost of a whole rate from 1 to 65535 -/
theorem cost_rate (n : Nat) (h : 0 < n) (hm : n ≤ 65535) : cost (flo n) = (wantP n : Nat) := runsOk_spec 400 1 (by decide) runs n h hm
end Fl
end Go.Proofs.Ythadlpiioabajaa
