/- A word's bytes, read again: plain laws; what bpdu.Parse makes of them. By an AI agent. -/
import Derived.Test.YtkbnkacmmjabkaaBpduParse
import Derived.Test.YtkbnkacmmjabkaaBpduPrint
import Derived.Test.YtkbnkacmmjabkaaBpduRef
namespace Go.Proofs.Ytkbnkacmmjabkaa
open Go.RowKit Go.Sort Grow

namespace Bpdu
theorem two_eq (n : Nat) (h : n ≤ 65535) : Oct.two (n : Int) = [UInt8.ofNat (n / 256), UInt8.ofNat n] := by
  unfold Oct.two
  rw [if_pos (by omega)]
  simp [Oct.be]
theorem four_eq (n : Nat) (h : n ≤ 4294967295) : Oct.four (n : Int) = [UInt8.ofNat (n / 16777216), UInt8.ofNat (n / 65536), UInt8.ofNat (n / 256), UInt8.ofNat n] := by
  unfold Oct.four
  rw [if_pos (by omega)]
  simp [Oct.be]
theorem num_two (n : Nat) (h : n ≤ 65535) : Oct.num [UInt8.ofNat (n / 256), UInt8.ofNat n] = n := by
  simp [Oct.num, UInt8.toNat_ofNat']
  omega
theorem num_four (n : Nat) (h : n ≤ 4294967295) : Oct.num [UInt8.ofNat (n / 16777216), UInt8.ofNat (n / 65536), UInt8.ofNat (n / 256), UInt8.ofNat n] = n := by
  simp [Oct.num, UInt8.toNat_ofNat']
  omega

/-- the bounds of a right word -/
theorem right_bounds {co po ag ma he de : Int} (h : right co po ag ma he de = true) :
    0 ≤ co ∧ co ≤ 4294967295 ∧ 0 ≤ po ∧ po ≤ 65535 ∧ 0 ≤ ag ∧ ag ≤ 65535 ∧ 0 ≤ ma ∧ ma ≤ 65535 ∧ 0 ≤ he ∧ he ≤ 65535 ∧ 0 ≤ de ∧ de ≤ 65535 ∧ ag < ma := by
  simp only [right, inB, List.all_cons, List.all_nil, Bool.and_true, Bool.and_eq_true, decide_eq_true_eq] at h
  omega

/-- 38 bytes -/
def lit (r b : Nat → UInt8) (co po ag ma he de : Nat) (ch ak : Bool) : List UInt8 :=
  [66, 66, 3, 0, 0, 0, 0, fl ch ak, r 0, r 1, r 2, r 3, r 4, r 5, r 6, r 7, UInt8.ofNat (co / 16777216), UInt8.ofNat (co / 65536), UInt8.ofNat (co / 256), UInt8.ofNat co, b 0, b 1, b 2, b 3, b 4, b 5, b 6, b 7,
    UInt8.ofNat (po / 256), UInt8.ofNat po, UInt8.ofNat (ag / 256), UInt8.ofNat ag, UInt8.ofNat (ma / 256), UInt8.ofNat ma, UInt8.ofNat (he / 256), UInt8.ofNat he, UInt8.ofNat (de / 256), UInt8.ofNat de]

theorem text_lit (r b : Nat → UInt8) (co po ag ma he de : Nat) (ch ak : Bool) (h1 : co ≤ 4294967295) (h2 : po ≤ 65535) (h3 : ag ≤ 65535) (h4 : ma ≤ 65535) (h5 : he ≤ 65535) (h6 : de ≤ 65535) :
    text r b co po ag ma he de ch ak = lit r b co po ag ma he de ch ak := by
  unfold text lit
  rw [four_eq co h1, two_eq po h2, two_eq ag h3, two_eq ma h4, two_eq he h5, two_eq de h6]
  rfl

theorem ext_list (s : ByteArray) (l : List UInt8) (hl : s.data.toList = l) (i j : Nat) : (s.extract i j).data.toList = (l.drop i).take (j - i) := by
  rw [← hl]
  simp [ByteArray.data_extract, List.drop_take]

theorem fl_bad (ch ak : Bool) (ag ma : Nat) (h : ag < ma) : bad (fl ch ak) ag ma = false := by
  unfold bad
  rw [decide_eq_false (by omega)]
  cases ch <;> cases ak <;> rfl
theorem fl_ch (ch ak : Bool) : decide (0 < bits BinOp.and IntKind.u8 ((fl ch ak).toNat : Int) 1) = ch := by cases ch <;> cases ak <;> rfl
theorem fl_ak (ch ak : Bool) : decide (0 < bits BinOp.and IntKind.u8 ((fl ch ak).toNat : Int) 128) = ak := by cases ch <;> cases ak <;> rfl
end Bpdu

/-- what was printed is parsed as it was, with anything behind it -/
theorem parse_printed (r b : Nat → UInt8) (co po ag ma he de : Nat) (ch ak : Bool) (h1 : co ≤ 4294967295) (h2 : po ≤ 65535) (h3 : ag ≤ 65535) (h4 : ma ≤ 65535) (h5 : he ≤ 65535) (h6 : de ≤ 65535) (h7 : ag < ma) (s : ByteArray) (more : List UInt8)
    (hs : s.data.toList = Bpdu.text r b co po ag ma he de ch ak ++ more) (w : World) :
    Calls Try.prog 10 #[.string s] w fun e w' => e = .returned (.tuple #[.agg #[.int .u8 ((r 0).toNat : Int), .int .u8 ((r 1).toNat : Int), .int .u8 ((r 2).toNat : Int), .int .u8 ((r 3).toNat : Int), .int .u8 ((r 4).toNat : Int), .int .u8 ((r 5).toNat : Int), .int .u8 ((r 6).toNat : Int), .int .u8 ((r 7).toNat : Int), .int .u8 ((b 0).toNat : Int), .int .u8 ((b 1).toNat : Int), .int .u8 ((b 2).toNat : Int), .int .u8 ((b 3).toNat : Int), .int .u8 ((b 4).toNat : Int), .int .u8 ((b 5).toNat : Int), .int .u8 ((b 6).toNat : Int), .int .u8 ((b 7).toNat : Int), .int .i64 (co : Nat), .int .i64 (po : Nat), .int .i64 (ag : Nat), .int .i64 (ma : Nat), .int .i64 (he : Nat), .int .i64 (de : Nat), .bool ch, .bool ak], .bool false, .int .i64 0]) ∧ Below w.heap.size w w' := by
  rw [Bpdu.text_lit r b co po ag ma he de ch ak h1 h2 h3 h4 h5 h6] at hs
  have hsz : s.size = 38 + more.length := by
    have : s.data.toList.length = s.size := by simp
    rw [← this, hs, List.length_append]
    rfl
  have hx := Bpdu.ext_list s _ hs
  have h := parse_word s r b co po ag ma he de (Bpdu.fl ch ak) (by omega)
    (by rw [Lib.toList_data, hx]; rfl) (by rw [hx]; rfl) (by rw [hx]; rfl)
    (by
      have h7 : s.data.toList[7]? = some (Bpdu.fl ch ak) := by rw [hs]; rfl
      rw [List.getElem?_eq_getElem (by simp; omega)] at h7
      exact Option.some.inj h7)
    (by
      have : List.take 4 (List.drop 16 s.data.toList) = [UInt8.ofNat (co / 16777216), UInt8.ofNat (co / 65536), UInt8.ofNat (co / 256), UInt8.ofNat co] := by rw [hs]; rfl
      rw [this, Bpdu.num_four co h1])
    (by
      have : List.take 2 (List.drop 28 s.data.toList) = [UInt8.ofNat (po / 256), UInt8.ofNat po] := by rw [hs]; rfl
      rw [this, Bpdu.num_two po h2])
    (by
      have : List.take 2 (List.drop 30 s.data.toList) = [UInt8.ofNat (ag / 256), UInt8.ofNat ag] := by rw [hs]; rfl
      rw [this, Bpdu.num_two ag h3])
    (by
      have : List.take 2 (List.drop 32 s.data.toList) = [UInt8.ofNat (ma / 256), UInt8.ofNat ma] := by rw [hs]; rfl
      rw [this, Bpdu.num_two ma h4])
    (by
      have : List.take 2 (List.drop 34 s.data.toList) = [UInt8.ofNat (he / 256), UInt8.ofNat he] := by rw [hs]; rfl
      rw [this, Bpdu.num_two he h5])
    (by
      have : List.take 2 (List.drop 36 s.data.toList) = [UInt8.ofNat (de / 256), UInt8.ofNat de] := by rw [hs]; rfl
      rw [this, Bpdu.num_two de h6]) w
  rw [Bpdu.fl_bad ch ak ag ma h7, Bpdu.fl_ch, Bpdu.fl_ak] at h
  exact h
end Go.Proofs.Ytkbnkacmmjabkaa
