/- oct.laid, Two, Four: a number's bytes, the highest first. By an AI agent. -/
import Derived.Test.YtdkgjbakbnhmaaaBytes
namespace Go.Proofs.Ytdkgjbakbnhmaaa
open Go.RowKit
namespace Oct
/-- a number's bytes, the highest first -/
def be : Nat → Nat → List UInt8
  | 0, _ => []
  | k + 1, n => UInt8.ofNat (n / 256 ^ k) :: be k n

theorem be_length (k n : Nat) : (be k n).length = k := by
  induction k with
  | zero => rfl
  | succ k ih => simp [be, ih]

theorem be_get (n : Nat) : ∀ (k j : Nat) (h : j < k), (be k n)[j]? = some (UInt8.ofNat (n / 256 ^ (k - 1 - j)))
  | k + 1, 0, _ => by simp [be]
  | k + 1, j + 1, h => by
    simp only [be, List.getElem?_cons_succ]
    rw [be_get n k j (by omega)]
    congr 4
    omega
end Oct

/-- the byte that the code takes -/
theorem Oct.be_byte (n k : Nat) : ((n : Int) / 2 ^ (8 * k) % 256) = ((UInt8.ofNat (n / 256 ^ k)).toNat : Int) := by
  have e : (2 : Int) ^ (8 * k) = ((256 ^ k : Nat) : Int) := by
    rw [Int.pow_mul]; norm_cast
  rw [e]
  have : (UInt8.ofNat (n / 256 ^ k)).toNat = n / 256 ^ k % 256 := UInt8.toNat_ofNat'
  rw [this, Int.natCast_emod, Int.natCast_ediv]
  rfl

theorem Oct.be_take (n k j : Nat) (h : j < k) : (be k n).take (j + 1) = (be k n).take j ++ [UInt8.ofNat (n / 256 ^ (k - 1 - j))] := by
  have hl := be_length k n
  rw [List.take_succ_eq_append_getElem (by omega)]
  congr 1
  have := be_get n k j h
  rw [List.getElem?_eq_getElem (by omega)] at this
  simpa using this

set_option maxRecDepth 20000 in
set_option maxHeartbeats 400000 in
theorem laid_any (n size : Nat) (w : World) (hn : n < 4294967296) (hs : size ≤ 7) :
    Calls Try.prog 26 #[.int .i64 n, .int .i64 size] w fun e w' => e = .returned (.string ⟨(Oct.be size n).toArray⟩) ∧ Below w.heap.size w w' := by
  go_enter Try.func26, Try.ntmps26
  go_wp2
  go_loopw [5, 6] (fun v i wr => ∃ j : Nat, j ≤ size ∧ i = .int .i64 ((size : Int) - 1 - j) ∧ OwnB wr w.heap.size v ((Oct.be size n).take j) ∧ Below w.heap.size w wr) (fun _ i _ => (intOf i + 1).toNat)
  case atStart => exact ⟨0, Nat.zero_le _, by simp, OwnB.nil _ _, Below.refl _ _⟩
  case round =>
    obtain ⟨j, hj, rfl, hown, hbel⟩ := hrel
    have hsz := hbel.size
    by_cases hlt : j < size
    · have HT := Lib.hid (Oct.be_take n size j hlt)
      go_wp2_with (at_builtin; refine wpList_append_byte rfl (.tmp 13) (.tmp 19) rfl w.heap.size _ _ rfl hown rfl _ (Oct.be_byte n (size - 1 - j)) (by simp; omega) hsz ?_; intro v1 w1 hown1 hb1 _)
      go_roundw
      case rel => exact ⟨j + 1, by omega, by go_num, by rw [HT.out]; exact hown1, hbel.trans hb1⟩
      case measure => simp [intOf]; omega
    · obtain rfl : j = size := by omega
      have hc := run_string_of_own hown
      have HL := Lib.hid (Oct.be_length j n)
      go_wp2
      go_ret
      refine ⟨?_, hbel⟩
      rw [List.take_of_length_le (by rw [HL.out]; omega)]
      rfl

/-- a number's two bytes, or none -/
def Oct.two (n : Int) : List UInt8 := if 0 ≤ n ∧ n ≤ 65535 then Oct.be 2 n.toNat else []
def Oct.four (n : Int) : List UInt8 := if 0 ≤ n ∧ n ≤ 4294967295 then Oct.be 4 n.toNat else []

set_option maxRecDepth 20000 in
theorem two_any (n : Int) (w : World) :
    Calls Try.prog 14 #[.int .i64 n] w fun e w' => e = .returned (.string ⟨(Oct.two n).toArray⟩) ∧ Below w.heap.size w w' := by
  by_cases h0 : n < 0
  · have e : Oct.two n = [] := if_neg (by omega)
    rw [e]
    go_enter Try.func14, Try.ntmps14
    go_wp2_with fail
    go_ret
    exact ⟨rfl, Below.refl _ _⟩
  · by_cases h1 : 65535 < n
    · have e : Oct.two n = [] := if_neg (by omega)
      rw [e]
      go_enter Try.func14, Try.ntmps14
      go_wp2_with fail
      go_ret
      exact ⟨rfl, Below.refl _ _⟩
    · have e : Oct.two n = Oct.be 2 n.toNat := if_pos (by omega)
      rw [e]
      obtain ⟨m, rfl⟩ := Int.eq_ofNat_of_zero_le (show 0 ≤ n by omega)
      rw [Int.toNat_natCast]
      go_enter Try.func14, Try.ntmps14
      go_wp2_with (go_at_call 26; refine (laid_any m 2 _ (by omega) (by omega)).mono ?_; rintro e w1 ⟨rfl, hb1⟩)
      go_ret
      exact ⟨rfl, hb1⟩

set_option maxRecDepth 20000 in
theorem four_any (n : Int) (w : World) :
    Calls Try.prog 15 #[.int .i64 n] w fun e w' => e = .returned (.string ⟨(Oct.four n).toArray⟩) ∧ Below w.heap.size w w' := by
  by_cases h0 : n < 0
  · have e : Oct.four n = [] := if_neg (by omega)
    rw [e]
    go_enter Try.func15, Try.ntmps15
    go_wp2_with fail
    go_ret
    exact ⟨rfl, Below.refl _ _⟩
  · by_cases h1 : 4294967295 < n
    · have e : Oct.four n = [] := if_neg (by omega)
      rw [e]
      go_enter Try.func15, Try.ntmps15
      go_wp2_with fail
      go_ret
      exact ⟨rfl, Below.refl _ _⟩
    · have e : Oct.four n = Oct.be 4 n.toNat := if_pos (by omega)
      rw [e]
      obtain ⟨m, rfl⟩ := Int.eq_ofNat_of_zero_le (show 0 ≤ n by omega)
      rw [Int.toNat_natCast]
      go_enter Try.func15, Try.ntmps15
      go_wp2_with (go_at_call 26; refine (laid_any m 4 _ (by omega) (by omega)).mono ?_; rintro e w1 ⟨rfl, hb1⟩)
      go_ret
      exact ⟨rfl, hb1⟩
end Go.Proofs.Ytdkgjbakbnhmaaa
