/- An address of four numbers, read from the left: plain laws. By an AI agent. -/
import Derived.Test.YtknnadnjikfibaaDoorReadLaw
namespace Go.Proofs.YtknnadnjikfibaaDoor.Oct

def isDig (d : UInt8) : Bool := decide (48 ≤ d.toNat ∧ d.toNat ≤ 57)
/-- how many digits stand at the front: three at most -/
def digs (k : Nat) : List UInt8 → Nat
  | [] => 0
  | d :: l => if k = 0 then 0 else if isDig d then digs (k - 1) l + 1 else 0
theorem digs_le : ∀ (k : Nat) (l : List UInt8), digs k l ≤ k ∧ digs k l ≤ l.length
  | _, [] => ⟨Nat.zero_le _, Nat.zero_le _⟩
  | 0, _ :: _ => ⟨Nat.le_refl _, Nat.zero_le _⟩
  | k + 1, d :: l => by
    have := digs_le k l
    show (if k + 1 = 0 then 0 else if isDig d then digs k l + 1 else 0) ≤ _ ∧ (if k + 1 = 0 then 0 else if isDig d then digs k l + 1 else 0) ≤ _
    rw [if_neg (by omega), List.length_cons]
    split <;> omega
/-- j digits are there, and j is not yet all: the next is a digit -/
theorem digs_at : ∀ (k : Nat) (l : List UInt8) (j : Nat), (∀ i, i < j → ∃ d, l[i]? = some d ∧ isDig d = true) → j ≤ k → (j = k ∨ l[j]? = none ∨ ∃ d, l[j]? = some d ∧ isDig d = false) → digs k l = j
  | k, [], j, h, _, _ => by
    cases j with
    | zero => rfl
    | succ j => obtain ⟨d, h1, _⟩ := h 0 (by omega); simp at h1
  | 0, _ :: _, j, _, h, _ => by
    obtain rfl : j = 0 := by omega
    rfl
  | k + 1, d :: l, j, h, hj, hs => by
    show (if k + 1 = 0 then 0 else if isDig d then digs k l + 1 else 0) = j
    rw [if_neg (by omega)]
    cases j with
    | zero =>
      rcases hs with h1 | h1 | ⟨x, h1, h2⟩
      · omega
      · simp at h1
      · obtain rfl := Option.some.inj h1
        rw [h2]
        rfl
    | succ j =>
      obtain ⟨x, h1, h2⟩ := h 0 (by omega)
      obtain rfl := Option.some.inj h1
      rw [h2, if_pos rfl, digs_at k l j (fun i hi => h (i + 1) (by omega)) (by omega) (by simpa using hs)]
theorem digs_front {x r : List UInt8} (hx : ∀ d ∈ x, isDig d = true) (hl : x.length ≤ 3) (hr : r = [] ∨ ∃ r', r = 46 :: r') : digs 3 (x ++ r) = x.length := by
  refine digs_at 3 (x ++ r) x.length (fun i hi => ⟨x[i], by rw [List.getElem?_append_left hi, List.getElem?_eq_getElem hi], hx _ (List.getElem_mem hi)⟩) hl ?_
  rcases hr with rfl | ⟨r', rfl⟩
  · exact .inr (.inl (by simp))
  · exact .inr (.inr ⟨46, by simp, by decide⟩)
theorem dec_dig (a : UInt8) : (∀ d ∈ dec8 a.toNat, isDig d = true) ∧ (dec8 a.toNat).length ≤ 3 ∧ 0 < (dec8 a.toNat).length :=
  ⟨fun d hd => decide_eq_true (decF_digits 2 a.toNat d hd), decF_length 2 _, decF_pos 2 _⟩

/-- what follows the numbers that are read -/
def tailOf : List UInt8 → List UInt8
  | [] => []
  | a :: l => dec8 a.toNat ++ (if l = [] then [] else 46 :: tailOf l)
theorem tailOf_ip (a b c d : UInt8) : tailOf [a, b, c, d] = ipText a b c d := by
  simp [tailOf, ipText]
/-- one number is read at the front of l: what is left -/
def Front (l : List UInt8) (n : Nat) (r : List UInt8) : Prop := 1 ≤ digs 3 l ∧ n = numOf (l.take (digs 3 l)) ∧ n ≤ 255 ∧ dec8 n = l.take (digs 3 l) ∧ r = l.drop (digs 3 l)
theorem front_of {a : UInt8} {r : List UInt8} (hr : r = [] ∨ ∃ r', r = 46 :: r') : Front (dec8 a.toNat ++ r) a.toNat r := by
  obtain ⟨h1, h2, h3⟩ := dec_dig a
  have ha := a.toNat_lt
  have hd := digs_front h1 h2 hr
  have hn : numOf (dec8 a.toNat) = a.toNat := numOf_decF 2 a.toNat (by omega)
  refine ⟨by omega, ?_, by omega, ?_, ?_⟩
  · rw [hd, List.take_left, hn]
  · rw [hd, List.take_left]
  · rw [hd, List.drop_left]
theorem front_text {l : List UInt8} {n : Nat} {r : List UInt8} (h : Front l n r) : l = dec8 n ++ r := by
  obtain ⟨_, _, _, h4, h5⟩ := h
  rw [h4, h5, List.take_append_drop]
theorem front_one {l : List UInt8} {n n' : Nat} {r r' : List UInt8} (h : Front l n r) (h' : Front l n' r') : n = n' ∧ r = r' :=
  ⟨h.2.1.trans h'.2.1.symm, h.2.2.2.2.trans h'.2.2.2.2.symm⟩
theorem tailOf_cons (a : UInt8) (l : List UInt8) : tailOf (a :: l) = dec8 a.toNat ++ (if l = [] then [] else 46 :: tailOf l) := rfl
theorem front_tail (a : UInt8) (l : List UInt8) : Front (tailOf (a :: l)) a.toNat (if l = [] then [] else 46 :: tailOf l) := by
  rw [tailOf_cons]
  refine front_of ?_
  split
  · exact .inl rfl
  · exact .inr ⟨_, rfl⟩

/-- i numbers are read, and the text from p on is left -/
structure IpInv (l : List UInt8) (i p : Nat) (vals : List UInt8) : Prop where
  len : vals.length = i
  fwd : ∀ us, us.length = 4 → l = tailOf us → us.take i = vals ∧ l.drop p = tailOf (us.drop i)
  bwd : ∀ us, (vals ++ us).length = 4 → l.drop p = tailOf us → l = tailOf (vals ++ us)
theorem inv_start (l : List UInt8) : IpInv l 0 0 [] := ⟨rfl, fun us _ h => ⟨rfl, h⟩, fun us _ h => h⟩
theorem inv_front {l : List UInt8} {i p : Nat} {vals us : List UInt8} (h : IpInv l i p vals) (hi : i < 4) (hu : us.length = 4) (hl : l = tailOf us) : ∃ a, us[i]? = some a ∧ Front (l.drop p) a.toNat (if us.drop (i + 1) = [] then [] else 46 :: tailOf (us.drop (i + 1))) := by
  have h2 := (h.fwd us hu hl).2
  have hlt : i < us.length := by omega
  refine ⟨us[i], List.getElem?_eq_getElem hlt, ?_⟩
  rw [List.drop_eq_getElem_cons hlt] at h2
  rw [h2]
  exact front_tail _ _
theorem ofNat_toNat {n : Nat} (h : n ≤ 255) : (UInt8.ofNat n).toNat = n := by rw [UInt8.toNat_ofNat']; omega
theorem inv_dot {l r : List UInt8} {i p n : Nat} {vals : List UInt8} (h : IpInv l i p vals) (hi : i < 3) (hf : Front (l.drop p) n (46 :: r)) : IpInv l (i + 1) (p + digs 3 (l.drop p) + 1) (vals ++ [UInt8.ofNat n]) := by
  have hn := ofNat_toNat hf.2.2.1
  have hr : l.drop (p + digs 3 (l.drop p) + 1) = r := by
    have h5 := hf.2.2.2.2
    rw [List.drop_drop] at h5
    rw [← List.drop_drop, ← h5]
    rfl
  refine ⟨by rw [List.length_append, h.len]; rfl, fun us hu hl => ?_, fun us hu hl => ?_⟩
  · obtain ⟨a, ha, hfa⟩ := inv_front h (by omega) hu hl
    obtain ⟨e1, e2⟩ := front_one hf hfa
    have hne : us.drop (i + 1) ≠ [] := fun e => by
      have := congrArg List.length e
      rw [List.length_drop, hu, List.length_nil] at this
      omega
    rw [if_neg hne] at e2
    refine ⟨?_, by rw [hr]; exact (List.cons.inj e2).2⟩
    rw [List.take_add_one, ha, (h.fwd us hu hl).1, e1, UInt8.ofNat_toNat]
    rfl
  · rw [hr] at hl
    have hus : us ≠ [] := fun e => by
      subst e
      rw [List.append_nil, List.length_append, h.len] at hu
      simp at hu
      omega
    rw [List.append_assoc]
    refine h.bwd _ (by rw [← List.append_assoc]; exact hu) ?_
    rw [front_text hf, List.singleton_append, tailOf_cons, if_neg hus, hn, hl]
theorem inv_last {l r : List UInt8} {p n : Nat} {vals : List UInt8} (h : IpInv l 3 p vals) (hf : Front (l.drop p) n r) : IpInv l 4 (p + digs 3 (l.drop p)) (vals ++ [UInt8.ofNat n]) := by
  have hn := ofNat_toNat hf.2.2.1
  have hr : l.drop (p + digs 3 (l.drop p)) = r := by rw [← List.drop_drop]; exact hf.2.2.2.2.symm
  refine ⟨by rw [List.length_append, h.len]; rfl, fun us hu hl => ?_, fun us hu hl => ?_⟩
  · obtain ⟨a, ha, hfa⟩ := inv_front h (by omega) hu hl
    obtain ⟨e1, e2⟩ := front_one hf hfa
    have he : us.drop 4 = [] := List.drop_eq_nil_of_le (by omega)
    rw [if_pos he] at e2
    refine ⟨?_, by rw [hr, e2, he]; rfl⟩
    rw [List.take_add_one, ha, (h.fwd us hu hl).1, e1, UInt8.ofNat_toNat]
    rfl
  · rw [hr] at hl
    obtain rfl : us = [] := by
      apply List.eq_nil_of_length_eq_zero
      have h9 := h.len
      simp only [List.length_append, List.length_cons, List.length_nil] at hu
      omega
    rw [List.append_assoc]
    refine h.bwd _ (by rw [← List.append_assoc]; exact hu) ?_
    rw [front_text hf, List.singleton_append, tailOf_cons, if_pos rfl, hn, hl]
    rfl
/-- why a text is none -/
theorem none_front {l : List UInt8} {i p : Nat} {vals : List UInt8} (h : IpInv l i p vals) (hi : i < 4) (hno : ∀ n r, ¬ Front (l.drop p) n r) : ∀ a b c d : UInt8, l ≠ ipText a b c d := fun a b c d e => by
  obtain ⟨x, _, hf⟩ := inv_front (us := [a, b, c, d]) h hi rfl (by rw [e, tailOf_ip])
  exact hno _ _ hf
theorem none_dot {l r : List UInt8} {i p n : Nat} {vals : List UInt8} (h : IpInv l i p vals) (hi : i < 3) (hf : Front (l.drop p) n r) (hno : ∀ r', r ≠ 46 :: r') : ∀ a b c d : UInt8, l ≠ ipText a b c d := fun a b c d e => by
  obtain ⟨x, _, hfa⟩ := inv_front (us := [a, b, c, d]) h (by omega) rfl (by rw [e, tailOf_ip])
  obtain ⟨_, e2⟩ := front_one hf hfa
  have hne : [a, b, c, d].drop (i + 1) ≠ [] := fun e => by
    have := congrArg List.length e
    rw [List.length_drop] at this
    simp at this
    omega
  rw [if_neg hne] at e2
  exact hno _ e2
theorem none_end {l : List UInt8} {p : Nat} {vals : List UInt8} (h : IpInv l 4 p vals) (hno : l.drop p ≠ []) : ∀ a b c d : UInt8, l ≠ ipText a b c d := fun a b c d e => by
  have := (h.fwd [a, b, c, d] rfl (by rw [e, tailOf_ip])).2
  exact hno this
theorem some_end {l : List UInt8} {p : Nat} {vals : List UInt8} (h : IpInv l 4 p vals) (he : l.drop p = []) : ∃ a b c d : UInt8, vals = [a, b, c, d] ∧ l = ipText a b c d := by
  have h1 := h.bwd [] (by rw [List.append_nil]; exact h.len) he
  rw [List.append_nil] at h1
  match vals, h.len, h1 with
  | [a, b, c, d], _, h1 => exact ⟨a, b, c, d, rfl, by rw [h1, tailOf_ip]⟩
end Go.Proofs.YtknnadnjikfibaaDoor.Oct
