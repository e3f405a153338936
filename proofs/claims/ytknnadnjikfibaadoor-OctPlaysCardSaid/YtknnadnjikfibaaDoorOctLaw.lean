/- Plain laws of the sums of 16 bits: no program in sight. By an AI agent. -/
namespace Go.Proofs.YtknnadnjikfibaaDoor.Oct

/-- what a byte counts at place i -/
def val (i b : Nat) : Nat := if i % 2 = 0 then 256 * b else b

/-- the whole sum of bytes from place i on -/
def wsum : Nat → List UInt8 → Nat
  | _, [] => 0
  | i, b :: l => val i b.toNat + wsum (i + 1) l

/-- the representative from 1 to 65535 of what is above 0 -/
def norm (s : Nat) : Nat := if s = 0 then 0 else (s - 1) % 65535 + 1

theorem norm_le (s : Nat) : norm s ≤ 65535 := by
  unfold norm; split <;> omega

theorem norm_zero : norm 0 = 0 := rfl

/-- one step of the code: the low 16 bits and what is above them -/
theorem norm_step (s v : Nat) (hv : v ≤ 65280) : (norm s + v) % 65536 + (norm s + v) / 65536 = norm (s + v) := by
  unfold norm
  split <;> split <;> omega

theorem wsum_append (l t : List UInt8) : ∀ i, wsum i (l ++ t) = wsum i l + wsum (i + l.length) t := by
  induction l with
  | nil => intro i; simp [wsum]
  | cons b l ih =>
    intro i
    simp only [List.cons_append, wsum, List.length_cons, ih]
    rw [show i + 1 + l.length = i + (l.length + 1) from by omega]
    omega

theorem wsum_two (l : List UInt8) : ∀ i, wsum (i + 2) l = wsum i l := by
  induction l with
  | nil => intro i; rfl
  | cons b l ih =>
    intro i
    simp only [wsum]
    rw [show i + 2 + 1 = i + 1 + 2 from by omega, ih]
    unfold val
    rw [show (i + 2) % 2 = i % 2 from by omega]

theorem wsum_even (l : List UInt8) (k : Nat) : wsum (2 * k) l = wsum 0 l := by
  induction k with
  | zero => rfl
  | succ k ih => rw [show 2 * (k + 1) = 2 * k + 2 from by omega, wsum_two, ih]

theorem wsum_at (l : List UInt8) (n : Nat) (h : n % 2 = 0) : wsum (0 + n) l = wsum 0 l := by
  have := wsum_even l (n / 2)
  rw [show 0 + n = 2 * (n / 2) from by omega]
  exact this

theorem val_le (i : Nat) (b : UInt8) : val i b.toNat ≤ 65280 := by
  have := b.toNat_lt
  unfold val; split <;> omega

/-- the sum that the code answers -/
def sum16 (l : List UInt8) : Int := 65535 - (norm (wsum 0 l) : Nat)

theorem sum16_bd (l : List UInt8) : 0 ≤ sum16 l ∧ sum16 l ≤ 65535 := by
  have := norm_le (wsum 0 l)
  unfold sum16; omega

theorem norm_add (a b : Nat) : (norm (a + b) : Int) = if (65535 : Int) < (norm a : Int) + norm b then (norm a : Int) + norm b - 65535 else (norm a : Int) + norm b := by
  unfold norm
  split <;> split <;> split <;> split <;> omega

theorem wsum_pad (l : List UInt8) (i : Nat) : wsum i (l ++ [0]) = wsum i l := by
  rw [wsum_append]; simp [wsum, val]

theorem sum16_add (l t : List UInt8) (h : l.length % 2 = 0) :
    sum16 (l ++ t) = 65535 - (if (65535 : Int) < (65535 - sum16 l) + (65535 - sum16 t) then (65535 - sum16 l) + (65535 - sum16 t) - 65535 else (65535 - sum16 l) + (65535 - sum16 t)) := by
  have hl : (norm (wsum 0 l) : Int) = 65535 - sum16 l := by unfold sum16; omega
  have ht : (norm (wsum 0 t) : Int) = 65535 - sum16 t := by unfold sum16; omega
  have e := norm_add (wsum 0 l) (wsum 0 t)
  rw [hl, ht] at e
  have e2 : sum16 (l ++ t) = 65535 - (norm (wsum 0 l + wsum 0 t) : Nat) := by
    unfold sum16
    rw [wsum_append, wsum_at t _ h]
  rw [e2, e]

theorem sum16_comm (l t : List UInt8) (h : l.length % 2 = 0) (h' : t.length % 2 = 0) : sum16 (t ++ l) = sum16 (l ++ t) := by
  unfold sum16
  rw [wsum_append, wsum_append, wsum_at t _ h, wsum_at l _ h', Nat.add_comm]

/-- a text of even length with its own sum behind it -/
theorem sum16_own (l : List UInt8) (h : l.length % 2 = 0) (a b : UInt8) (hab : (256 * a.toNat + b.toNat : Int) = sum16 l) : sum16 (l ++ [a, b]) = 0 := by
  have e : wsum 0 (l ++ [a, b]) = wsum 0 l + (256 * a.toNat + b.toNat) := by
    rw [wsum_append, wsum_at _ _ h]; simp [wsum, val]
  unfold sum16 at hab
  unfold sum16
  rw [e]
  have : norm (wsum 0 l + (256 * a.toNat + b.toNat)) = 65535 := by
    generalize wsum 0 l = s at *
    unfold norm at *
    split at hab <;> split <;> omega
  omega
end Go.Proofs.YtknnadnjikfibaaDoor.Oct
