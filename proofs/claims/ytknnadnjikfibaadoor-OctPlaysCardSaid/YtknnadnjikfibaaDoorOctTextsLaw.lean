/- Plain laws of addresses' texts: their lengths; unlike addresses have unlike texts. By an AI agent. -/
import Derived.Test.YtknnadnjikfibaaDoorMacText
import Derived.Test.YtknnadnjikfibaaDoorDecimal
namespace Go.Proofs.YtknnadnjikfibaaDoor.Oct

theorem hexd_inj (a b : Nat) (ha : a < 16) (hb : b < 16) (h : hexd a = hexd b) : a = b := by
  have key : ∀ x : Fin 16, ∀ y : Fin 16, hexd x.val = hexd y.val → x = y := by decide
  have := key ⟨a, ha⟩ ⟨b, hb⟩ h
  simpa using this

theorem hex2_inj (a b : UInt8) (h : hex2 a = hex2 b) : a = b := by
  simp only [hex2, List.cons.injEq, and_true] at h
  have h1 := hexd_inj _ _ (by have := a.toNat_lt; omega) (by have := b.toNat_lt; omega) h.1
  have h2 := hexd_inj _ _ (by omega) (by omega) h.2
  apply UInt8.toNat_inj.1
  omega

theorem flat_inj : ∀ m n : List UInt8, (m.flatMap fun b => 58 :: hex2 b) = (n.flatMap fun b => 58 :: hex2 b) → m = n
  | [], [], _ => rfl
  | [], b :: n, h => by simp at h
  | a :: m, [], h => by simp at h
  | a :: m, b :: n, h => by
    rw [List.flatMap_cons, List.flatMap_cons] at h
    have h1 := List.append_inj h (by simp [hex2])
    rw [flat_inj m n h1.2]
    have := h1.1
    simp only [List.cons.injEq, true_and] at this
    rw [hex2_inj a b this]

theorem macText_inj (m n : List UInt8) (hm : 0 < m.length) (hn : 0 < n.length) (h : macText m = macText n) : m = n := by
  unfold macText macPart at h
  rw [List.take_length, List.take_length] at h
  match m, n with
  | a :: m, b :: n =>
    apply flat_inj
    rw [List.flatMap_cons, List.flatMap_cons] at h ⊢
    simpa using h

theorem macText_length (m : List UInt8) : (macText m).length = 3 * m.length - 1 := macPart_length m m.length (Nat.le_refl _)

/-- the number that digits say -/
def numOf (l : List UInt8) : Nat := l.foldl (fun n d => 10 * n + (d.toNat - 48)) 0

theorem numOf_snoc (l : List UInt8) (d : UInt8) : numOf (l ++ [d]) = 10 * numOf l + (d.toNat - 48) := by simp [numOf]

theorem digit_toNat (n : Nat) : (UInt8.ofNat (48 + n % 10)).toNat = 48 + n % 10 := by
  rw [UInt8.toNat_ofNat']
  omega

theorem numOf_decF : ∀ (f n : Nat), n < 10 ^ (f + 1) → numOf (decF f n) = n
  | 0, n, h => by
    have : n < 10 := by simpa using h
    have h2 := numOf_snoc [] (UInt8.ofNat (48 + n % 10))
    rw [digit_toNat] at h2
    simp only [List.nil_append] at h2
    rw [decF, h2]
    simp [numOf]; omega
  | f + 1, n, h => by
    unfold decF
    have h3 : n / 10 < 10 ^ (f + 1) := by
      rw [Nat.div_lt_iff_lt_mul (by decide)]
      rw [Nat.pow_succ] at h
      exact h
    split
    · have h2 := numOf_snoc [] (UInt8.ofNat (48 + n % 10))
      rw [digit_toNat] at h2
      simp only [List.nil_append] at h2
      rw [h2]
      simp [numOf]; omega
    · rw [numOf_snoc, numOf_decF f (n / 10) h3, digit_toNat]
      omega

theorem decF_digits : ∀ (f n : Nat), ∀ d ∈ decF f n, 48 ≤ d.toNat ∧ d.toNat ≤ 57
  | 0, n, d, h => by
    simp only [decF, List.mem_singleton] at h
    rw [h, digit_toNat]; omega
  | f + 1, n, d, h => by
    unfold decF at h
    split at h
    · simp only [List.mem_singleton] at h
      rw [h, digit_toNat]; omega
    · rw [List.mem_append] at h
      rcases h with h | h
      · exact decF_digits f _ d h
      · simp only [List.mem_singleton] at h
        rw [h, digit_toNat]; omega

theorem decF_pos : ∀ (f n : Nat), 0 < (decF f n).length
  | 0, n => by simp [decF]
  | f + 1, n => by
    unfold decF
    split <;> simp

theorem dec8_inj (a b : UInt8) (h : dec8 a.toNat = dec8 b.toNat) : a = b := by
  have ha := numOf_decF 2 a.toNat (by have := a.toNat_lt; omega)
  have hb := numOf_decF 2 b.toNat (by have := b.toNat_lt; omega)
  unfold dec8 at h
  rw [h] at ha
  apply UInt8.toNat_inj.1
  omega

theorem dot_cut (x y r s : List UInt8) (hx : ∀ d ∈ x, 48 ≤ d.toNat) (hy : ∀ d ∈ y, 48 ≤ d.toNat) (h : x ++ 46 :: r = y ++ 46 :: s) : x = y ∧ r = s := by
  induction x generalizing y with
  | nil =>
    cases y with
    | nil => simpa using h
    | cons b y =>
      simp only [List.nil_append, List.cons_append, List.cons.injEq] at h
      have := hy b (by simp)
      rw [← h.1] at this
      exact absurd this (by decide)
  | cons a x ih =>
    cases y with
    | nil =>
      simp only [List.nil_append, List.cons_append, List.cons.injEq] at h
      have := hx a (by simp)
      rw [h.1] at this
      exact absurd this (by decide)
    | cons b y =>
      simp only [List.cons_append, List.cons.injEq] at h
      have := ih y (fun d hd => hx d (by simp [hd])) (fun d hd => hy d (by simp [hd])) h.2
      exact ⟨by rw [h.1, this.1], this.2⟩

theorem dec8_ge (n : Nat) : ∀ d ∈ dec8 n, 48 ≤ d.toNat := fun d hd => (decF_digits 2 n d hd).1

theorem ipText_inj (a b c d a' b' c' d' : UInt8) (h : ipText a b c d = ipText a' b' c' d') : a = a' ∧ b = b' ∧ c = c' ∧ d = d' := by
  unfold ipText at h
  have h1 := dot_cut _ _ _ _ (dec8_ge _) (dec8_ge _) h
  have h2 := dot_cut _ _ _ _ (dec8_ge _) (dec8_ge _) h1.2
  have h3 := dot_cut _ _ _ _ (dec8_ge _) (dec8_ge _) h2.2
  exact ⟨dec8_inj _ _ h1.1, dec8_inj _ _ h2.1, dec8_inj _ _ h3.1, dec8_inj _ _ h3.2⟩

theorem ipText_length (a b c d : UInt8) : 7 ≤ (ipText a b c d).length ∧ (ipText a b c d).length ≤ 15 := by
  have := decF_pos 2 a.toNat
  have := decF_pos 2 b.toNat
  have := decF_pos 2 c.toNat
  have := decF_pos 2 d.toNat
  have := decF_length 2 a.toNat
  have := decF_length 2 b.toNat
  have := decF_length 2 c.toNat
  have := decF_length 2 d.toNat
  simp only [ipText, dec8, List.length_append, List.length_cons]
  omega
end Go.Proofs.YtknnadnjikfibaaDoor.Oct
