/- Doubles: what a word reads as, and the order of words: plain laws. By an AI agent. -/
import Derived.Test.YthadlpiioabajaaFloatQuo
namespace Go.Proofs.Ythadlpiioabajaa.Fl
open Ieee

/-- the digits, and the place above the least, of a rung -/
def mg (r : Nat) : Nat := if r < 4503599627370496 then r else 4503599627370496 + r % 4503599627370496
def pl (r : Nat) : Nat := r / 4503599627370496 - 1

theorem mg_lt (r : Nat) : mg r < 9007199254740992 := by unfold mg; split <;> omega
theorem mg_ge (r : Nat) (h : 4503599627370496 ≤ r) : 4503599627370496 ≤ mg r := by unfold mg; rw [if_neg (by omega)]; omega

theorem read_neg (neg : Bool) (r : Nat) (h : r < inf) : double.read (double.word neg r) = .number neg (mg r) (-1074 + (pl r : Int)) := by
  unfold inf at h
  have hn : ((double.word neg r) / 9223372036854775808 % 2 == 1) = neg := by
    unfold Format.word
    rw [double_weight]
    cases neg
    · simp; omega
    · simp; omega
  have hr : double.word neg r % 9223372036854775808 = r := by
    unfold Format.word
    rw [double_weight]
    cases neg
    · simp; omega
    · simp; omega
  unfold Format.read
  simp only [double_weight, double_binade, double_inf, double_least]
  rw [hn, hr]
  unfold mg pl inf
  by_cases c : r < 4503599627370496
  · rw [if_pos c, if_pos c]
    congr 1
    omega
  · rw [if_neg c, if_neg c, if_pos h]

theorem read_pos (r : Nat) (h : r < inf) : double.read r = .number false (mg r) (-1074 + (pl r : Int)) := read_neg false r h
theorem read_inf : double.read inf = .infinity false := by decide
theorem read_ninf : double.read (9223372036854775808 + inf) = .infinity true := by decide

theorem read_nan (w : Nat) (h : inf < w % 9223372036854775808) : ∃ s t, double.read w = .nan s t := by
  unfold Format.read
  simp only [double_weight, double_binade, double_inf, double_least]
  unfold inf at *
  rw [if_neg (by omega), if_neg (by omega), if_neg (by omega)]
  exact ⟨_, _, rfl⟩

theorem val_lt {r s : Nat} (h : r < s) : mg r * 2 ^ pl r < mg s * 2 ^ pl s := by
  have b1 := mg_lt r
  rcases Nat.lt_or_ge (pl r) (pl s) with c | c
  · have b2 : 4503599627370496 ≤ s := by unfold pl at c; omega
    have b3 := mg_ge s b2
    have e1 : mg r * 2 ^ pl r < 9007199254740992 * 2 ^ pl r := Nat.mul_lt_mul_of_pos_right b1 (Nat.two_pow_pos _)
    have e2 : 4503599627370496 * 2 ^ (pl r + 1) ≤ 4503599627370496 * 2 ^ pl s := Nat.mul_le_mul_left _ (Nat.pow_le_pow_right (by decide) c)
    have e3 : 4503599627370496 * 2 ^ pl s ≤ mg s * 2 ^ pl s := Nat.mul_le_mul_right _ b3
    rw [Nat.pow_succ] at e2
    omega
  · have hp : pl r = pl s := by unfold pl at *; omega
    rw [hp]
    refine Nat.mul_lt_mul_of_pos_right ?_ (Nat.two_pow_pos _)
    unfold pl at hp
    unfold mg
    split <;> split <;> omega

theorem compare_of {a b : Int} {c d : Nat} (h1 : c < d → a < b) (h2 : d < c → b < a) (h3 : c = d → a = b) : compare a b = compare c d := by
  rcases Nat.lt_trichotomy c d with h | h | h
  · rw [Nat.compare_eq_lt.2 h, Int.compare_eq_lt.2 (h1 h)]
  · rw [Nat.compare_eq_eq.2 h, Int.compare_eq_eq.2 (h3 h)]
  · rw [Nat.compare_eq_gt.2 h, Int.compare_eq_gt.2 (h2 h)]

theorem shift_lt {r s : Nat} (h : r < s) (b : Nat) (hb : b = min (pl r) (pl s)) : mg r <<< (pl r - b) < mg s <<< (pl s - b) := by
  have v := val_lt h
  have e1 : mg r * 2 ^ pl r = mg r <<< (pl r - b) * 2 ^ b := by
    rw [Nat.shiftLeft_eq, Nat.mul_assoc, ← Nat.pow_add, Nat.sub_add_cancel (by omega)]
  have e2 : mg s * 2 ^ pl s = mg s <<< (pl s - b) * 2 ^ b := by
    rw [Nat.shiftLeft_eq, Nat.mul_assoc, ← Nat.pow_add, Nat.sub_add_cancel (by omega)]
  rw [e1, e2] at v
  exact Nat.lt_of_mul_lt_mul_right v

/-- words above 0 stand as their rungs do -/
theorem order_pos (r s : Nat) (hr : r < inf) (hs : s < inf) : double.order r s = some (compare r s) := by
  unfold Format.order
  rw [read_pos r hr, read_pos s hs]
  simp only [Datum.order, signed, Bool.false_eq_true, if_false]
  congr 1
  have e : min (-1074 + (pl r : Int)) (-1074 + (pl s : Int)) = -1074 + ((min (pl r) (pl s) : Nat) : Int) := by omega
  rw [e, show (-1074 + (pl r : Int) - (-1074 + ((min (pl r) (pl s) : Nat) : Int))).toNat = pl r - min (pl r) (pl s) by omega,
    show (-1074 + (pl s : Int) - (-1074 + ((min (pl r) (pl s) : Nat) : Int))).toNat = pl s - min (pl r) (pl s) by omega]
  refine compare_of (fun h => ?_) (fun h => ?_) (fun h => ?_)
  · exact Int.ofNat_lt.2 (shift_lt h _ rfl)
  · have := shift_lt h (min (pl r) (pl s)) (Nat.min_comm _ _)
    exact Int.ofNat_lt.2 this
  · subst h; rfl

theorem mg_zero {r : Nat} (h : mg r = 0) : r = 0 := by
  unfold mg at h; split at h <;> omega

/-- a word below 0, and 0 -/
theorem order_neg_zero (r : Nat) (hr : r < inf) : double.order (9223372036854775808 + r) 0 = some (if r = 0 then .eq else .lt) := by
  have h := read_neg true r hr
  have e : double.word true r = 9223372036854775808 + r := by unfold Format.word; rw [double_weight]; rfl
  rw [e] at h
  have z := read_pos 0 (by decide)
  unfold Format.order
  rw [h, z]
  simp only [Datum.order, signed]
  have p0 : pl 0 = 0 := rfl
  have m0 : mg 0 = 0 := rfl
  rw [p0, m0]
  simp only [if_true, Bool.false_eq_true, if_false, Nat.zero_shiftLeft]
  by_cases c : r = 0
  · subst c
    rw [m0, p0]
    rfl
  · rw [if_neg c]
    have pos : 0 < mg r := Nat.pos_of_ne_zero (fun x => c (mg_zero x))
    have : 0 < mg r <<< (-1074 + (pl r : Int) - min (-1074 + (pl r : Int)) (-1074 + ((0 : Nat) : Int))).toNat := by
      rw [Nat.shiftLeft_eq]; exact Nat.mul_pos pos (Nat.two_pow_pos _)
    congr 1
    rw [Int.compare_eq_lt]
    generalize mg r <<< _ = y at this ⊢
    simp
    omega
end Go.Proofs.Ythadlpiioabajaa.Fl
