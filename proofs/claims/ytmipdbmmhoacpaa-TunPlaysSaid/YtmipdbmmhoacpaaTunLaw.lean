/- tun.Print and tun.Parse: what is printed is parsed as it was, what is parsed is what is printed of it. By an AI agent. -/
import Derived.Test.YtmipdbmmhoacpaaTunParse
import Derived.Test.YtmipdbmmhoacpaaBeNum
namespace Go.Proofs.Ytmipdbmmhoacpaa
open Go.RowKit Go.Sort Grow

abbrev Tun.gram (k : Int) (n : Nat) (b : ByteArray) : Value := .agg #[.int .i64 k, .int .u64 n, .string b]

def Tun.PrintIs (k : Int) (n : Nat) (b t : ByteArray) (e : Int) : Prop := ∀ w, Calls Try.prog 10 #[Tun.gram k n b] w fun x w' => x = .returned (.tuple #[.string t, .int .i64 e]) ∧ Below w.heap.size w w'
def Tun.ParseIs (s : ByteArray) (k : Int) (n : Nat) (b : ByteArray) (e : Int) : Prop := ∀ w, Calls Try.prog 11 #[.string s] w fun x w' => x = .returned (.tuple #[Tun.gram k n b, .int .i64 e]) ∧ Below w.heap.size w w'

theorem bytes_eq {a b : ByteArray} (h : a.data.toList = b.data.toList) : a = b := ByteArray.ext (Array.toList_inj.1 h)

theorem get_zero {t : ByteArray} {x : UInt8} {l : List UInt8} (h : t.data.toList = x :: l) (h0 : 0 < t.size) : t[0] = x := by
  have e : t[0] = t.data.toList[0]'(by rw [h]; simp) := by simp; rfl
  rw [e]
  simp [h]

theorem Tun.print_cases (k : Int) (n : Nat) (b : ByteArray) (hn : n < 18446744073709551616) (hb : b.size ≤ 2000) :
    (∃ t, Tun.PrintIs k n b t 0 ∧ Tun.ParseIs t k n b 0) ∨ Tun.PrintIs k n b ⟨#[]⟩ 3 := by
  by_cases h1 : k = 3 ∧ 16 ≤ b.size
  · obtain ⟨rfl, h16⟩ := h1
    left
    refine ⟨_, fun w => print_sealed n b w hn h16 (by omega), fun w => ?_⟩
    have hd : ((⟨(3 :: Oct.be 8 n).toArray⟩ : ByteArray) ++ b).data.toList = 3 :: (Oct.be 8 n ++ b.data.toList) := by
      rw [ByteArray.data_append]; simp
    have hl8 := Oct.be_length 8 n
    have hbl : b.data.toList.length = b.size := by simp
    have hsz : ((⟨(3 :: Oct.be 8 n).toArray⟩ : ByteArray) ++ b).size = 8 + b.size + 1 := by
      rw [ByteArray.size_append]
      show (3 :: Oct.be 8 n).toArray.size + b.size = _
      rw [List.size_toArray, List.length_cons, hl8]
      omega
    have h0 : (((⟨(3 :: Oct.be 8 n).toArray⟩ : ByteArray) ++ b)[0]'(by omega)).toNat = 3 := by rw [get_zero hd (by omega)]; rfl
    have hp := parse_sealed _ (8 + b.size) w hsz (by omega) (by omega) h0
    generalize (⟨(3 :: Oct.be 8 n).toArray⟩ : ByteArray) ++ b = t at hd hp ⊢
    have e1 : ((t.extract 1 (8 + b.size + 1)).extract 0 8).data.toList = Oct.be 8 n := by
      rw [Oct.ext_toList, Oct.ext_toList, hd]
      simp only [List.drop_succ_cons, List.drop_zero]
      rw [List.take_of_length_le (show (Oct.be 8 n ++ b.data.toList).length ≤ 8 + b.size + 1 - 1 by rw [List.length_append, hl8, hbl]; omega)]
      exact List.take_left' hl8
    have e2 : (t.extract 1 (8 + b.size + 1)).extract 8 (8 + b.size) = b := by
      apply bytes_eq
      rw [Oct.ext_toList, Oct.ext_toList, hd]
      simp only [List.drop_succ_cons, List.drop_zero]
      rw [List.take_of_length_le (show (Oct.be 8 n ++ b.data.toList).length ≤ 8 + b.size + 1 - 1 by rw [List.length_append, hl8, hbl]; omega), List.drop_left' hl8]
      exact List.take_of_length_le (by rw [hbl]; omega)
    rw [e1, e2, Oct.num_be 8 n hn] at hp
    exact hp
  · by_cases h2 : (k = 1 ∨ k = 2) ∧ b.size = 48 ∧ n = 0
    · obtain ⟨hk, h48, rfl⟩ := h2
      left
      refine ⟨_, fun w => print_short k b w hk h48, fun w => ?_⟩
      have hd : ((⟨#[UInt8.ofNat k.toNat]⟩ : ByteArray) ++ b).data.toList = UInt8.ofNat k.toNat :: b.data.toList := by
        rw [ByteArray.data_append]; simp
      have hsz : ((⟨#[UInt8.ofNat k.toNat]⟩ : ByteArray) ++ b).size = 49 := by
        rw [ByteArray.size_append]
        show 1 + b.size = 49
        omega
      obtain ⟨m, rfl⟩ : ∃ m : Nat, k = m := ⟨k.toNat, by omega⟩
      have hbl : b.data.toList.length = b.size := by simp
      have h0 : (((⟨#[UInt8.ofNat (m : Int).toNat]⟩ : ByteArray) ++ b)[0]'(by omega)).toNat = m := by
        rw [get_zero hd (by omega), UInt8.toNat_ofNat']
        omega
      have hp := parse_greet _ m w hsz h0 (by omega)
      generalize (⟨#[UInt8.ofNat (m : Int).toNat]⟩ : ByteArray) ++ b = t at hd hp ⊢
      have e2 : t.extract 1 49 = b := by
        apply bytes_eq
        rw [Oct.ext_toList, hd]
        simp only [List.drop_succ_cons, List.drop_zero]
        exact List.take_of_length_le (by rw [hbl]; omega)
      rw [e2] at hp
      exact hp
    · right
      exact fun w => print_none k n b w h1 h2

theorem Tun.parse_cases (s : ByteArray) (hs : s.size ≤ 2000) :
    (∃ (k : Int) (n : Nat) (b : ByteArray), Tun.ParseIs s k n b 0 ∧ Tun.PrintIs k n b s 0) ∨ ∃ e : Int, (e = 2 ∨ e = 3) ∧ Tun.ParseIs s 0 0 ⟨#[]⟩ e := by
  rcases Nat.eq_zero_or_pos s.size with h0 | h0
  · right
    obtain rfl : s = ⟨#[]⟩ := ByteArray.ext (Array.size_eq_zero_iff.1 h0)
    exact ⟨2, .inl rfl, fun w => parse_empty w⟩
  obtain ⟨m, hm⟩ : ∃ m, s.size = m + 1 := ⟨s.size - 1, by omega⟩
  by_cases hk : s[0].toNat < 1 ∨ 1 ≤ s[0].toNat ∧ 3 < s[0].toNat
  · exact .inr ⟨3, .inr rfl, fun w => parse_kind s w h0 hk⟩
  by_cases hsh : s[0].toNat = 3 ∧ m < 24 ∨ s[0].toNat = 1 ∧ m < 48 ∨ s[0].toNat = 2 ∧ m < 48
  · exact .inr ⟨2, .inl rfl, fun w => parse_short s m w hm hsh⟩
  have hlen : s.data.toList.length = m + 1 := by simp [hm]
  obtain ⟨x, l, hl⟩ : ∃ x l, s.data.toList = x :: l := by
    cases h : s.data.toList with
    | nil => rw [h] at hlen; simp at hlen
    | cons x l => exact ⟨x, l, rfl⟩
  have hll : l.length = m := by rw [hl] at hlen; simpa using hlen
  have hx : s[0] = x := get_zero hl h0
  by_cases h3 : s[0].toNat = 3
  · left
    have hp := fun w => parse_sealed s m w hm (by omega) (by omega) h3
    refine ⟨3, _, _, hp, fun w => ?_⟩
    have e1 : ((s.extract 1 (m + 1)).extract 0 8).data.toList = l.take 8 := by
      rw [Oct.ext_toList, Oct.ext_toList, hl]
      simp only [List.drop_succ_cons, List.drop_zero, Nat.add_sub_cancel, Nat.sub_zero]
      rw [List.take_of_length_le (show l.length ≤ m by omega)]
    have e2 : ((s.extract 1 (m + 1)).extract 8 m).data.toList = l.drop 8 := by
      rw [Oct.ext_toList, Oct.ext_toList, hl]
      simp only [List.drop_succ_cons, List.drop_zero, Nat.add_sub_cancel]
      rw [List.take_of_length_le (show l.length ≤ m by omega)]
      exact List.take_of_length_le (by rw [List.length_drop]; omega)
    have hlt := Nat.lt_of_lt_of_eq (Oct.num_lt 8 (l.take 8) (by rw [List.length_take]; omega)) (show 256 ^ 8 = 18446744073709551616 by decide)
    have hb := Oct.be_num (l.take 8)
    rw [show (l.take 8).length = 8 by rw [List.length_take]; omega] at hb
    have hsz : ((s.extract 1 (m + 1)).extract 8 m).size = m - 8 := by
      have : ((s.extract 1 (m + 1)).extract 8 m).data.toList.length = ((s.extract 1 (m + 1)).extract 8 m).size := by simp only [Array.length_toList]; rfl
      rw [← this, e2, List.length_drop]; omega
    have hq := print_sealed (Oct.num (l.take 8)) ((s.extract 1 (m + 1)).extract 8 m) w hlt (by omega) (by omega)
    rw [e1]
    have h3x : (3 : UInt8) = x := UInt8.toNat_inj.1 (by rw [← hx, h3]; rfl)
    generalize Oct.num (l.take 8) = N at hb hlt hq ⊢
    have e3 : (⟨(3 :: Oct.be 8 N).toArray⟩ : ByteArray) ++ (s.extract 1 (m + 1)).extract 8 m = s := by
      apply bytes_eq
      rw [ByteArray.data_append, Array.toList_append, e2, hb, hl]
      show 3 :: l.take 8 ++ l.drop 8 = x :: l
      rw [List.cons_append, List.take_append_drop, h3x]
    rw [e3] at hq
    exact hq
  · by_cases h48 : m = 48
    · left
      subst h48
      have hk2 : s[0].toNat = 1 ∨ s[0].toNat = 2 := by omega
      have hp := fun w => parse_greet s s[0].toNat w hm rfl hk2
      refine ⟨_, 0, _, hp, fun w => ?_⟩
      have e2 : (s.extract 1 49).data.toList = l := by
        rw [Oct.ext_toList, hl]
        simp only [List.drop_succ_cons, List.drop_zero]
        exact List.take_of_length_le (by omega)
      have hsz : (s.extract 1 49).size = 48 := by
        have : (s.extract 1 49).data.toList.length = (s.extract 1 49).size := by simp only [Array.length_toList]; rfl
        rw [← this, e2, hll]
      have hq := print_short (s[0].toNat : Int) (s.extract 1 49) w (by omega) hsz
      have e3 : (⟨#[UInt8.ofNat (s[0].toNat : Int).toNat]⟩ : ByteArray) ++ s.extract 1 49 = s := by
        apply bytes_eq
        rw [ByteArray.data_append, Array.toList_append, e2, hl]
        show [UInt8.ofNat s[0].toNat] ++ l = x :: l
        rw [UInt8.ofNat_toNat, hx]
        rfl
      rw [e3] at hq
      exact hq
    · right
      exact ⟨3, .inr rfl, fun w => parse_long s m w hm (by omega) (by omega) (by omega)⟩
end Go.Proofs.Ytmipdbmmhoacpaa
