/- oct.MacText: a station's address as a text. By an AI agent. -/
import Derived.Test.YtknnadnjikfibaaDoorBuilder
import Derived.Laws.BitsAllLaws
namespace Go.Proofs.YtknnadnjikfibaaDoor
open Go.RowKit

namespace Oct
def hexd (n : Nat) : UInt8 := ([48, 49, 50, 51, 52, 53, 54, 55, 56, 57, 97, 98, 99, 100, 101, 102] : List UInt8).getD n 0
def hex2 (b : UInt8) : List UInt8 := [hexd (b.toNat / 16), hexd (b.toNat % 16)]
def macPart (m : List UInt8) (k : Nat) : List UInt8 := ((m.take k).flatMap fun b => 58 :: hex2 b).drop 1
def macText (m : List UInt8) : List UInt8 := macPart m m.length

theorem macPart_zero (m : List UInt8) : macPart m 0 = [] := rfl

theorem macPart_succ (m : List UInt8) (k : Nat) (h : k < m.length) : macPart m (k + 1) = (if k = 0 then [] else macPart m k ++ [58]) ++ [hexd (m[k].toNat / 16)] ++ [hexd (m[k].toNat % 16)] := by
  unfold macPart
  rw [List.take_succ_eq_append_getElem h, List.flatMap_append]
  split
  · rename_i h0; subst h0; simp [hex2]
  · rw [List.drop_append_of_le_length]
    · simp [hex2]
    · obtain ⟨b, l, hm⟩ : ∃ b l, m.take k = b :: l := by
        cases hm : m.take k with
        | nil =>
          have h2 := congrArg List.length hm
          rw [List.length_take, List.length_nil] at h2
          omega
        | cons b l => exact ⟨b, l, rfl⟩
      rw [hm]; simp

theorem flat_length (m : List UInt8) : (m.flatMap fun b => 58 :: hex2 b).length = 3 * m.length := by
  induction m with
  | nil => rfl
  | cons b l ih => rw [List.flatMap_cons, List.length_append, ih]; simp [hex2]; omega

theorem macPart_length (m : List UInt8) (k : Nat) (h : k ≤ m.length) : (macPart m k).length = 3 * k - 1 := by
  unfold macPart
  rw [List.length_drop, flat_length, List.length_take]; omega
end Oct

theorem Tryd.macIndex (a b c d e f : UInt8) (k : Nat) (hk : k < 6) (w : World) :
    (Instr.index 24 (.agg #[.int .u8 (a.toNat : Int), .int .u8 (b.toNat : Int), .int .u8 (c.toNat : Int), .int .u8 (d.toNat : Int), .int .u8 (e.toNat : Int), .int .u8 (f.toNat : Int)]) (.int .i64 (k : Int))).run Tryd.prog w =
      .ok (.int .u8 ((([a, b, c, d, e, f] : List UInt8).getD k 0).toNat : Int)) w := by
  rcases (show k = 0 ∨ k = 1 ∨ k = 2 ∨ k = 3 ∨ k = 4 ∨ k = 5 from by omega) with rfl | rfl | rfl | rfl | rfl | rfl <;> kernel_rfl

theorem hexd_get (n : Nat) (h : n < 16) : (⟨#[48, 49, 50, 51, 52, 53, 54, 55, 56, 57, 97, 98, 99, 100, 101, 102]⟩ : ByteArray)[n]'h = Oct.hexd n := by
  rcases (show n = 0 ∨ n = 1 ∨ n = 2 ∨ n = 3 ∨ n = 4 ∨ n = 5 ∨ n = 6 ∨ n = 7 ∨ n = 8 ∨ n = 9 ∨ n = 10 ∨ n = 11 ∨ n = 12 ∨ n = 13 ∨ n = 14 ∨ n = 15 from by omega) with rfl | rfl | rfl | rfl | rfl | rfl | rfl | rfl | rfl | rfl | rfl | rfl | rfl | rfl | rfl | rfl <;> rfl

set_option maxHeartbeats 1000000 in
theorem macText_any (a b c d e f : UInt8) (w : World) :
    Calls Tryd.prog 9 #[.agg #[.int .u8 (a.toNat : Int), .int .u8 (b.toNat : Int), .int .u8 (c.toNat : Int), .int .u8 (d.toNat : Int), .int .u8 (e.toNat : Int), .int .u8 (f.toNat : Int)]] w
      fun e' w' => e' = .returned (.string ⟨(Oct.macText [a, b, c, d, e, f]).toArray⟩) ∧ Below w.heap.size w w' := by
  obtain ⟨m, hm⟩ : ∃ m : List UInt8, m = [a, b, c, d, e, f] := ⟨_, rfl⟩
  have hix := Tryd.macIndex a b c d e f
  rw [← hm] at hix ⊢
  have hml : m.length = 6 := by rw [hm]; rfl
  have HIX := Lib.hid hix
  clear hix
  have HM := Lib.hid hm
  clear hm
  have HL := Lib.hid hml
  clear hml
  go_enter Tryd.func9, Tryd.ntmps9
  go_wp2_with fail
  go_loopw [4, 5, 7] (fun _ _ i wr => ∃ k : Nat, k ≤ 6 ∧ i = .int .i64 k ∧ Bd (w.heap.size + 1) (w.heap.size + 1) (Oct.macPart m k) wr ∧ Below w.heap.size w wr) (fun _ _ i _ => 6 - (intOf i).toNat)
  case atStart =>
    refine ⟨0, by omega, rfl, ?_, ((Below.refl _ _).alloc (Nat.le_refl _) _).alloc (by simp) _⟩
    have := Bd.fresh (w.alloc (Obj.cells #[Value.int IntKind.u8 ↑a.toNat, Value.int IntKind.u8 ↑b.toNat, Value.int IntKind.u8 ↑c.toNat, Value.int IntKind.u8 ↑d.toNat, Value.int IntKind.u8 ↑e.toNat, Value.int IntKind.u8 ↑f.toNat] 24))
    rw [Oct.macPart_zero]
    simpa using this
  case round =>
    obtain ⟨k, hk, rfl, hbd, hbel⟩ := hrel
    have hsz := hbel.size
    by_cases hlt : k < 6
    · have hx : ∀ w, (Instr.index 24 (.agg #[.int .u8 (a.toNat : Int), .int .u8 (b.toNat : Int), .int .u8 (c.toNat : Int), .int .u8 (d.toNat : Int), .int .u8 (e.toNat : Int), .int .u8 (f.toNat : Int)]) (.int .i64 (k : Int))).run Tryd.prog w =
          .ok (.int .u8 ((m.getD k 0).toNat : Int)) w := fun w => HIX.out k hlt w
      generalize hgx : m.getD k 0 = x at hx
      have HGX := Lib.hid hgx
      clear hgx
      have hx1 := x.toNat_lt
      have HG : Hid (m[k]'(by rw [HL.out]; exact hlt) = x) := by show _ = _; rw [← HGX.out]; simp [List.getD, List.getElem?_eq_getElem (show k < m.length by rw [HL.out]; exact hlt)]
      have HD1 := Lib.hid (hexd_get (x.toNat / 16) (by omega))
      have HD2 := Lib.hid (hexd_get (x.toNat % 16) (by omega))
      have hx2 : x.toNat / 16 < 16 := by omega
      have hx3 : x.toNat % 16 < 16 := by omega
      have HP := Lib.hid (Oct.macPart_length m k (by rw [HL.out]; exact hk))
      have HS := Lib.hid (Oct.macPart_succ m k (by rw [HL.out]; exact hlt))
      have hbz := hbd.lt
      by_cases h0 : k ≤ 0
      · go_wp2_with fail
        refine (bd_writeByte _ _ _ _ _ hbd (by rw [HP.out]; omega) (by omega) _ rfl).mono ?_
        rintro e' w1 ⟨rfl, hbd1, hb1⟩
        have hs1 := hb1.size
        go_wp2_with fail
        refine (bd_writeByte _ _ _ _ _ hbd1 (by rw [List.length_append, HP.out]; simp; omega) (by omega) _ rfl).mono ?_
        rintro e' w2 ⟨rfl, hbd2, hb2⟩
        go_wp2_with fail
        refine ⟨⟨k + 1, by omega, by go_num, ?_, hbel.trans ((hb1.trans hb2).mono (by omega))⟩, by simp [intOf]; omega⟩
        rw [HS.out, if_pos (by omega)]
        rw [HG.out, ← HD1.out, ← HD2.out]
        have e0 : Oct.macPart m k = [] := by rw [show k = 0 from by omega]; rfl
        rw [e0] at hbd2
        exact hbd2
      · go_wp2_with fail
        refine (bd_writeByte _ _ _ 58 _ hbd (by rw [HP.out]; omega) (by omega) 58 (by decide)).mono ?_
        rintro e' w1 ⟨rfl, hbd1, hb1⟩
        have hs1 := hb1.size
        go_wp2_with fail
        refine (bd_writeByte _ _ _ _ _ hbd1 (by rw [List.length_append, HP.out]; simp; omega) (by omega) _ rfl).mono ?_
        rintro e' w2 ⟨rfl, hbd2, hb2⟩
        have hs2 := hb2.size
        go_wp2_with fail
        refine (bd_writeByte _ _ _ _ _ hbd2 (by rw [List.length_append, List.length_append, HP.out]; simp; omega) (by omega) _ rfl).mono ?_
        rintro e' w3 ⟨rfl, hbd3, hb3⟩
        go_wp2_with fail
        refine ⟨⟨k + 1, by omega, by go_num, ?_, hbel.trans (((hb1.trans hb2).trans hb3).mono (by omega))⟩, by simp [intOf]; omega⟩
        rw [HS.out, if_neg (by omega)]
        rw [HG.out, ← HD1.out, ← HD2.out]
        exact hbd3
    · obtain rfl : k = 6 := by omega
      have hbz := hbd.lt
      go_wp2_with fail
      refine (bd_string _ _ _ _ hbd (by omega)).mono ?_
      rintro e' w1 ⟨rfl, hb1⟩
      go_wp2_with fail
      go_ret
      refine ⟨?_, hbel.trans (hb1.mono (by omega))⟩
      show Ending.returned (.string ⟨(Oct.macPart m 6).toArray⟩) = _
      rw [Oct.macText, HL.out]
end Go.Proofs.YtknnadnjikfibaaDoor
