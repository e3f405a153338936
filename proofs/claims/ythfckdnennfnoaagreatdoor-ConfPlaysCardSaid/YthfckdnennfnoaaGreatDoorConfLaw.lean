/- A configuration's text, line by line: plain laws. By an AI agent. -/
import Derived.Test.YthfckdnennfnoaaGreatDoorSplit
import Derived.Test.YthfckdnennfnoaaGreatDoorDecimal
namespace Go.Proofs.YthfckdnennfnoaaGreatDoor
namespace Cf
def hexd : List UInt8 := [48, 49, 50, 51, 52, 53, 54, 55, 56, 57, 97, 98, 99, 100, 101, 102]
def hexV (c : UInt8) : Int := Go.Lib.indexByte hexd c
def goodAt (l : List UInt8) (i : Nat) : Bool := decide (0 ≤ hexV (l.getD (2 * i) 0)) && decide (0 ≤ hexV (l.getD (2 * i + 1) 0))
def byteAt (l : List UInt8) (i : Nat) : UInt8 := UInt8.ofNat (16 * (hexV (l.getD (2 * i) 0)).toNat + (hexV (l.getD (2 * i + 1) 0)).toNat)
/-- digits, read as so many bytes -/
def bytesOf (l : List UInt8) (size : Nat) : Option (List UInt8) := if l.length = 2 * size ∧ (List.range size).all (goodAt l) = true then some ((List.range size).map (byteAt l)) else none

def dig (c : UInt8) : Bool := decide (48 ≤ c.toNat) && decide (c.toNat ≤ 57)
def val (l : List UInt8) : Nat := l.foldl (fun n c => 10 * n + (c.toNat - 48)) 0
def dec (n : Nat) : List UInt8 := Oct.decF 20 n
/-- a number, as it is written -/
def numOf (l : List UInt8) : Option Nat := if (1 ≤ l.length ∧ l.length ≤ 10) ∧ l.all dig = true ∧ dec (val l) = l then some (val l) else none
def allNum : List (List UInt8) → Option (List Nat)
  | [] => some []
  | p :: ps => match numOf p, allNum ps with
    | some n, some l => some (n :: l)
    | _, _ => none
def tagsOf (l : List UInt8) : Option (List Nat) := if l = [45] then some [] else allNum (Oct.parts 44 l)

/-- a port's line -/
structure Pt where
  link : Bool
  rate : Nat
  greets : Bool
  psk : List UInt8
  native : Nat
  tags : List Nat
  horizon : Nat
  limit : Nat
def zeros (n : Nat) : List UInt8 := List.replicate n 0
def restOf (link : Bool) (rate : Nat) (greets : Bool) (psk : List UInt8) : List (List UInt8) → Option Pt
  | [a, b, c, d] => match numOf a, tagsOf b, numOf c, numOf d with
    | some n, some ts, some h, some k => some ⟨link, rate, greets, psk, n, ts, h, k⟩
    | _, _, _, _ => none
  | _ => none
def wTap : List UInt8 := [116, 97, 112]
def wLink : List UInt8 := [108, 105, 110, 107]
def wBridge : List UInt8 := [98, 114, 105, 100, 103, 101]
def linkOf : List (List UInt8) → Option Pt
  | a :: b :: c :: t => match numOf a, bytesOf c 32 with
    | some r, some k => if b = [103] ∨ b = [97] then restOf true r (b == [103]) k t else none
    | _, _ => none
  | _ => none
def portOf : List (List UInt8) → Option Pt
  | w :: t => if w = wTap then restOf false 0 false (zeros 32) t else if w = wLink then linkOf t else none
  | [] => none
/-- the first line -/
structure Br where
  id : List UInt8
  maxAge : Nat
  hello : Nat
  delay : Nat
  ageing : Nat
def bridgeOf : List (List UInt8) → Option Br
  | [w, i, a, b, c, d] => if w = wBridge then match bytesOf i 8, numOf a, numOf b, numOf c, numOf d with
    | some i, some a, some b, some c, some d => some ⟨i, a, b, c, d⟩
    | _, _, _, _, _ => none
    else none
  | _ => none

/-- a text's lines, each with its end, if it has one -/
def lines : List UInt8 → List (List UInt8)
  | [] => []
  | a :: l => if a = 10 then [10] :: lines l else match lines l with
    | [] => [[a]]
    | p :: ps => (a :: p) :: ps
/-- a line without its end; none: it has none -/
def ended (l : List UInt8) : Option (List UInt8) := if l.getLast? = some 10 then some l.dropLast else none
def lineOk (first : Bool) (l : List UInt8) : Bool := match ended l with
  | some t => if first then (bridgeOf (Oct.parts 32 t)).isSome else (portOf (Oct.parts 32 t)).isSome
  | none => false

theorem dec_len (n : Nat) (h : n < 10000000000000000000000) : (dec n).length ≤ 21 := Oct.decF_length 20 n
theorem val_take (l : List UInt8) (k : Nat) (h : k < l.length) : val (l.take (k + 1)) = 10 * val (l.take k) + (l[k].toNat - 48) := by
  unfold val
  rw [List.take_succ_eq_append_getElem h, List.foldl_append]
  rfl
theorem val_lt (l : List UInt8) (h : l.all dig = true) : val l < 10 ^ l.length := by
  unfold val
  have key : ∀ (l : List UInt8) (a : Nat), l.all dig = true → l.foldl (fun n c => 10 * n + (c.toNat - 48)) a < (a + 1) * 10 ^ l.length := by
    intro l
    induction l with
    | nil => intro a _; simp
    | cons c l ih =>
      intro a hl
      rw [List.all_cons, Bool.and_eq_true] at hl
      have hc := hl.1
      unfold dig at hc
      rw [Bool.and_eq_true, decide_eq_true_eq, decide_eq_true_eq] at hc
      have := ih (10 * a + (c.toNat - 48)) hl.2
      rw [List.foldl_cons, List.length_cons, Nat.pow_succ]
      refine Nat.lt_of_lt_of_le this ?_
      rw [Nat.mul_comm (10 ^ l.length) 10, ← Nat.mul_assoc]
      exact Nat.mul_le_mul_right _ (by omega)
  have := key l 0 h
  simpa using this
end Cf
end Go.Proofs.YthfckdnennfnoaaGreatDoor
