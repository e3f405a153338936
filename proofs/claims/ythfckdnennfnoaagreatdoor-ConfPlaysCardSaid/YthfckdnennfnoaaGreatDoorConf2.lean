/- conf: bytes. By an AI agent. -/
import Derived.Test.YthfckdnennfnoaaGreatDoorConf1
import Derived.Laws.BitsAllLaws
import Derived.Lib.QuietBelow
import Derived.Laws.AppendOwnNone
namespace Go.Proofs.YthfckdnennfnoaaGreatDoor
open Go.RowKit Go.Sort Grow

namespace Cf
theorem hexV_bd (b : UInt8) : -1 ≤ hexV b ∧ hexV b < 16 := by
  refine ⟨Lib.indexByte_ge _ _, ?_⟩
  by_cases h : 0 ≤ hexV b
  · obtain ⟨i, e1, e2, _⟩ := Oct.parts_at b _ h
    have e3 : hexV b = i := e1
    rw [e3]
    simp [hexd] at e2
    omega
  · omega
theorem or_nib (a b : Nat) (ha : a < 16) (hb : b < 16) : bits .or .i64 ((a : Int) * 16) (b : Int) = ((16 * a + b : Nat) : Int) := by
  have e1 : (BitVec.ofInt 64 ((a : Int) * 16)).toNat = a * 16 := by
    rw [BitVec.toNat_ofInt]; omega
  have e2 : (BitVec.ofInt 64 (b : Int)).toNat = b := by
    rw [BitVec.toNat_ofInt]; omega
  have key : (BitVec.ofInt 64 ((a : Int) * 16) ||| BitVec.ofInt 64 (b : Int)).toNat = 16 * a + b := by
    rw [BitVec.toNat_or, e1, e2]
    have := Nat.two_pow_add_eq_or_of_lt (i := 4) (b := b) (by simpa using hb) a
    rw [Nat.mul_comm a 16]
    simpa using this.symm
  show IntKind.i64.wrap ((BitVec.ofInt 64 ((a : Int) * 16) ||| BitVec.ofInt 64 (b : Int)).toNat : Nat) = _
  rw [key, IntKind.wrap_i64]
  omega
/-- the first k bytes -/
def firstB (l : List UInt8) (k : Nat) : List UInt8 := (List.range k).map (byteAt l)
theorem firstB_len (l : List UInt8) (k : Nat) : (firstB l k).length = k := by simp [firstB]
theorem firstB_next (l : List UInt8) (k : Nat) : firstB l (k + 1) = firstB l k ++ [byteAt l k] := by simp [firstB, List.range_succ]
theorem bytesOf_len {l : List UInt8} {n : Nat} (h : l.length ≠ 2 * n) : bytesOf l n = none := by unfold bytesOf; rw [if_neg (fun hc => h hc.1)]
theorem bytesOf_bad {l : List UInt8} {n k : Nat} (hk : k < n) (h : goodAt l k = false) : bytesOf l n = none := by
  unfold bytesOf
  rw [if_neg]
  intro hc
  have := List.all_eq_true.1 hc.2 k (List.mem_range.2 hk)
  rw [h] at this
  cases this
theorem bytesOf_all {l : List UInt8} {n : Nat} (h : l.length = 2 * n) (h2 : ∀ k, k < n → goodAt l k = true) : bytesOf l n = some (firstB l n) := by
  unfold bytesOf
  rw [if_pos ⟨h, List.all_eq_true.2 fun k hk => h2 k (List.mem_range.1 hk)⟩]
  rfl
theorem bytesOf_length {l bs : List UInt8} {n : Nat} (h : bytesOf l n = some bs) : bs.length = n := by
  unfold bytesOf at h
  by_cases hc : l.length = 2 * n ∧ (List.range n).all (goodAt l) = true
  · rw [if_pos hc] at h
    obtain rfl := Option.some.inj h
    simp
  · rw [if_neg hc] at h
    cases h
/-- the bytes in a slice of one's own, or a panic -/
def BytesAns (s : ByteArray) (n B : Nat) (e : Ending) (w : World) : Prop := match bytesOf s.data.toList n with
  | some bs => ∃ v, e = .returned v ∧ OwnB w B v bs
  | none => e = .panicked ch
theorem bytesAns_no {s : ByteArray} {n B : Nat} {w : World} (h : bytesOf s.data.toList n = none) : BytesAns s n B (.panicked ch) w := by unfold BytesAns; rw [h]
theorem bytesAns_yes {s : ByteArray} {n B : Nat} {w : World} {v : Value} {bs : List UInt8} (h : bytesOf s.data.toList n = some bs) (ho : OwnB w B v bs) : BytesAns s n B (.returned v) w := by unfold BytesAns; rw [h]; exact ⟨v, rfl, ho⟩
theorem getD_at {s : ByteArray} {j : Nat} (h : j < s.size) : s.data.toList.getD j 0 = s[j] := by
  rw [List.getD_eq_getElem?_getD, List.getElem?_eq_getElem (by simpa using h), Option.getD_some]
  simp [ByteArray.getElem_eq_getElem_data]
end Cf
theorem hexV_any (b : UInt8) (w : World) : Calls Tryz.prog 34 #[.string ⟨#[48, 49, 50, 51, 52, 53, 54, 55, 56, 57, 97, 98, 99, 100, 101, 102]⟩, .int .u8 (b.toNat : Int)] w fun e w' => e = .returned (.int .i64 (Cf.hexV b)) ∧ w = w' := by
  have h := index_byte_any ⟨#[48, 49, 50, 51, 52, 53, 54, 55, 56, 57, 97, 98, 99, 100, 101, 102]⟩ (b.toNat : Int) w
  have e : (b.toNat : Int).toNat.toUInt8 = b := by simp
  rw [e] at h
  exact h

set_option maxRecDepth 20000 in
set_option maxHeartbeats 2000000 in
theorem bytes_any (s : ByteArray) (n : Nat) (hn : n ≤ 100) (w : World) : Calls Tryz.prog 59 #[.string s, .int .i64 n] w fun e w' => Cf.BytesAns s n w.heap.size e w' ∧ Below w.heap.size w w' := by
  have w0 : IntKind.i64.wrap (2 * (n : Int)) = 2 * (n : Int) := by rw [IntKind.wrap_i64]; omega
  by_cases hl : s.size = 2 * n
  case neg =>
    have hno := Lib.hid (Cf.bytesOf_len (l := s.data.toList) (n := n) (by simpa using hl))
    have d1 : ((s.size : Int) == 2 * (n : Int)) = false := by rw [beq_eq_false_iff_ne]; omega
    clear hl
    go_enter Tryz.func59, Tryz.ntmps59
    go_wp2_with fail
    refine (must_not _).mono ?_
    rintro e w' ⟨rfl, rfl⟩
    exact ⟨rfl, Cf.bytesAns_no hno.out, Below.refl _ _⟩
  have d1 : ((s.size : Int) == 2 * (n : Int)) = true := by rw [beq_iff_eq]; omega
  have HL := Lib.hid hl
  have hle : 2 * n ≤ s.size := by omega
  clear hl
  go_enter Tryz.func59, Tryz.ntmps59
  go_wp2_with fail
  refine (must_ok _).mono ?_
  rintro e w' ⟨rfl, rfl⟩
  go_upto_region 4 with fail
  go_loopw [5, 6, 7, 8, 16] (fun v _ _ _ i wr => ∃ k : Nat, k ≤ n ∧ i = .int .i64 k ∧ Hid (OwnB wr w.heap.size v (Cf.firstB s.data.toList k)) ∧ Hid (∀ j, j < k → Cf.goodAt s.data.toList j = true) ∧ Below w.heap.size w wr) (fun _ _ _ _ i _ => n - (intOf i).toNat)
  case atStart => exact ⟨0, Nat.zero_le _, rfl, OwnB.nil _ _, fun j hj => absurd hj (Nat.not_lt_zero _), Below.refl _ _⟩
  case round =>
    rename_i wr
    obtain ⟨k, hk, rfl, HO, HG, hbr⟩ := hrel
    have hszr := hbr.size
    by_cases hlt : k < n
    · obtain ⟨a, ha⟩ : ∃ a, a = 2 * k := ⟨_, rfl⟩
      obtain ⟨b, hb⟩ : ∃ b, b = 2 * k + 1 := ⟨_, rfl⟩
      have h1 : a < s.size := by omega
      have h2 : b < s.size := by omega
      have HA := Lib.hid (fun dd os => (hexV_any s[a] (grow (redrawn wr dd) os)).mono (R' := fun e w'' => e = .returned (.int .i64 (Cf.hexV s[a])) ∧ ∃ p : Regrown, w'' = grow (redrawn wr p.d) p.os) fun e w' h => ⟨h.1, ⟨⟨dd, os⟩, h.2.symm⟩⟩)
      have HB := Lib.hid (fun dd os => (hexV_any s[b] (grow (redrawn wr dd) os)).mono (R' := fun e w'' => e = .returned (.int .i64 (Cf.hexV s[b])) ∧ ∃ p : Regrown, w'' = grow (redrawn wr p.d) p.os) fun e w' h => ⟨h.1, ⟨⟨dd, os⟩, h.2.symm⟩⟩)
      have w1 : IntKind.i64.wrap (2 * (k : Int)) = (a : Int) := by rw [IntKind.wrap_i64]; omega
      have w2 : IntKind.i64.wrap ((a : Int) + 1) = (b : Int) := by rw [IntKind.wrap_i64]; omega
      have hga := Lib.hid (Cf.getD_at h1)
      have hgb := Lib.hid (Cf.getD_at h2)
      have hxa := Cf.hexV_bd s[a]
      have hxb := Cf.hexV_bd s[b]
      have HGA : Hid (Cf.goodAt s.data.toList k = (decide (0 ≤ Cf.hexV s[a]) && decide (0 ≤ Cf.hexV s[b]))) := by show _ = _; unfold Cf.goodAt; rw [← hb, ← ha, hga.out, hgb.out]
      have HBA : Hid (Cf.byteAt s.data.toList k = UInt8.ofNat (16 * (Cf.hexV s[a]).toNat + (Cf.hexV s[b]).toNat)) := by show _ = _; unfold Cf.byteAt; rw [← hb, ← ha, hga.out, hgb.out]
      have HAe := Lib.hid ha
      have HBe := Lib.hid hb
      clear ha hb
      go_upto_region 6 with fail
      refine wp_region_quiet_below (by kernel_rfl) (by kernel_rfl) ?_
      repeat (quiet_step (first | (with_reducible exact HA.out _ _) | (with_reducible exact HB.out _ _)))
      refine wpQuiet_nil ?_
      intro w' hw'
      obtain ⟨⟨dq, osq⟩, hw''⟩ := hw'
      subst hw''
      have hb3 := below_regrown wr dq osq
      have HO3 := Lib.hid (show OwnB (grow (redrawn wr dq) osq) w.heap.size u5 (Cf.firstB s.data.toList k) from owns_later HO.out hb3)
      have hbr3 := hbr.trans (hb3.mono hszr)
      clear HA HB hb3 HO hbr
      generalize grow (redrawn wr dq) osq = w3 at *
      generalize Cf.hexV s[a] = x at *
      generalize Cf.hexV s[b] = y at *
      have hsz3 := hbr3.size
      by_cases hx : 0 ≤ x
      case neg =>
        have d2 : decide (0 ≤ x) = false := decide_eq_false hx
        have hno := Lib.hid (Cf.bytesOf_bad (l := s.data.toList) hlt (by rw [HGA.out, d2]; rfl))
        go_wp2_with fail
        refine (must_not _).mono ?_
        rintro e w' ⟨rfl, rfl⟩
        exact ⟨rfl, Cf.bytesAns_no hno.out, hbr3⟩
      have d2 : decide (0 ≤ x) = true := decide_eq_true hx
      by_cases hy : 0 ≤ y
      case neg =>
        have d3 : decide (0 ≤ y) = false := decide_eq_false hy
        have hno := Lib.hid (Cf.bytesOf_bad (l := s.data.toList) hlt (by rw [HGA.out, d2, d3]; rfl))
        go_wp2_with fail
        refine (must_not _).mono ?_
        rintro e w' ⟨rfl, rfl⟩
        exact ⟨rfl, Cf.bytesAns_no hno.out, hbr3⟩
      have d3 : decide (0 ≤ y) = true := decide_eq_true hy
      have hgood := Lib.hid (show Cf.goodAt s.data.toList k = true by rw [HGA.out, d2, d3]; rfl)
      obtain ⟨i, rfl⟩ := Int.eq_ofNat_of_zero_le hx
      obtain ⟨j, rfl⟩ := Int.eq_ofNat_of_zero_le hy
      have hi16 : i < 16 := by omega
      have hj16 : j < 16 := by omega
      have ho := Cf.or_nib i j hi16 hj16
      obtain ⟨z, hz⟩ : ∃ z, z = 16 * i + j := ⟨_, rfl⟩
      have HZ := Lib.hid hz
      have hz8 : z < 256 := by omega
      rw [← hz] at ho
      have HBY : Hid (Cf.firstB s.data.toList (k + 1) = Cf.firstB s.data.toList k ++ [UInt8.ofNat z]) := by show _ = _; rw [Cf.firstB_next, HBA.out, hz]; simp
      have hzu : ((z : Nat) : Int) = ((UInt8.ofNat z).toNat : Int) := by rw [UInt8.toNat_ofNat']; omega
      have HZU := Lib.hid hzu
      have HL2 := Lib.hid (Cf.firstB_len s.data.toList k)
      clear hz hzu hxa hxb hx hy
      go_wp2_with fail
      refine (must_ok _).mono ?_
      rintro e w' ⟨rfl, rfl⟩
      go_wp2_with (at_builtin; refine wpList_append_byte rfl (.tmp 37) (.tmp 43) rfl w.heap.size _ _ rfl HO3.out rfl (UInt8.ofNat z) HZU.out (by rw [HL2.out]; omega) hsz3 ?_)
      intro v' w5 hown hb5 hg5
      have HO5 := Lib.hid (show OwnB w5 w.heap.size v' (Cf.firstB s.data.toList (k + 1)) by rw [HBY.out]; exact hown)
      have hbr5 := hbr3.trans hb5
      clear hown hb5 hg5 HO3
      go_wp2_with fail
      refine ⟨⟨k + 1, by omega, by go_num, HO5, fun j hj => ?_, hbr5⟩, by simp [intOf]; omega⟩
      by_cases hjk : j = k
      · rw [hjk]; exact hgood.out
      · exact HG.out j (by omega)
    · obtain rfl : k = n := by omega
      have hall := Cf.bytesOf_all (l := s.data.toList) (n := k) (by have := HL.out; simpa using this) HG.out
      have HAL := Lib.hid hall
      clear hall
      go_wp2_with fail
      go_ret
      exact ⟨Cf.bytesAns_yes HAL.out HO.out, hbr⟩
end Go.Proofs.YthfckdnennfnoaaGreatDoor
