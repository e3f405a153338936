/- causeyref07.Dec, IpText, MacText. By an AI agent. -/
import Derived.Test.YtknnadnjikfibaaDoorRefMac
import Derived.Test.YtknnadnjikfibaaDoorRefOct
namespace Go.Proofs.YtknnadnjikfibaaDoor
open Go.RowKit Go.Sort

namespace Oct
theorem digit_add (m : Nat) : 48 + UInt8.ofNat (m % 10) = UInt8.ofNat (48 + m % 10) := by
  apply UInt8.toNat_inj.1
  rw [UInt8.toNat_add, UInt8.toNat_ofNat', UInt8.toNat_ofNat']
  have : (48 : UInt8).toNat = 48 := rfl
  rw [this]
  omega
/-- the digits behind k steps -/
theorem decF_step (f n : Nat) (h : n < 10 ^ (f + 2)) (h10 : 10 ≤ n) : decF (f + 1) n = decF f (n / 10) ++ [UInt8.ofNat (48 + n % 10)] := by
  rw [decF, if_neg (by omega)]
theorem dec8_small (n : Nat) (h : n < 10) : dec8 n = [UInt8.ofNat (48 + n % 10)] := by
  unfold dec8 decF
  rw [if_pos h]
theorem dec8_big (n : Nat) (h : n < 1000) (h10 : 10 ≤ n) : dec8 n = dec8 (n / 10) ++ [UInt8.ofNat (48 + n % 10)] := by
  have h1 := decF_fuel 1 (n / 10) (by omega) 2 (by omega)
  unfold dec8
  rw [h1]
  exact decF_step 1 n (by omega) h10
end Oct

set_option maxHeartbeats 2000000 in
theorem refDec_any (n : Nat) (hn : n < 1000) (w : World) : Calls Tryd.prog 31 #[.int .i64 (n : Int)] w fun e w' => e = .returned (.string ⟨(Oct.dec8 n).toArray⟩) ∧ Below w.heap.size w w' := by
  go_enter Tryd.func31, Tryd.ntmps31
  go_wp2_with fail
  go_loopw [0, 3] (fun s0 s3 wr => ∃ (m : Nat) (b : ByteArray) (l : List UInt8), m ≤ n ∧ s0 = .int .i64 m ∧ s3 = .string b ∧ Hid (b = ⟨l.toArray⟩) ∧ Hid (l.length ≤ 10) ∧ Hid ((l = [] ∧ m = n) ∨ (l ≠ [] ∧ l.length + m ≤ 10 + n ∧ (m = 0 → l = Oct.dec8 n) ∧ (0 < m → Oct.dec8 m ++ l = Oct.dec8 n))) ∧ Below w.heap.size w wr) (fun s0 s3 _ => (match s3 with | .string s => if s.size = 0 then 1 else 0 | _ => 0) + (intOf s0).toNat)
  case atStart => exact ⟨n, _, [], Nat.le_refl _, rfl, rfl, Lib.hid rfl, Lib.hid (by decide), Lib.hid (.inl ⟨rfl, rfl⟩), Below.refl _ _⟩
  case round =>
    rename_i wr
    obtain ⟨m, b, l, hm, rfl, rfl, HB, HLL, HL, hbr⟩ := hrel
    have hdl : ∀ k, (Oct.dec8 k).length ≤ 3 := fun k => Oct.decF_length 2 k
    have hbz : b.size = l.length := by rw [HB.out]; simp [ByteArray.size]
    have hbl : b.toList = l := by rw [Lib.toList_data, HB.out]
    have HDL := Lib.hid hdl
    clear hdl
    by_cases hgo : 0 < m ∨ l = []
    · have HS := fun x => run_string_one wr x
      have hbz10 : b.size ≤ 10 := by have := HLL.out; omega
      have q : ¬ 9223372036854775807 < 1 + b.size := by omega
      have HNEW : Hid (⟨[UInt8.ofNat (48 + m % 10)].toArray⟩ ++ b = (⟨(UInt8.ofNat (48 + m % 10) :: l).toArray⟩ : ByteArray)) := by show _ = _; rw [HB.out, ba_append]; rfl
      have key : (UInt8.ofNat (48 + m % 10) :: l ≠ [] ∧ (UInt8.ofNat (48 + m % 10) :: l).length + m / 10 ≤ 10 + n ∧ (m / 10 = 0 → UInt8.ofNat (48 + m % 10) :: l = Oct.dec8 n) ∧ (0 < m / 10 → Oct.dec8 (m / 10) ++ UInt8.ofNat (48 + m % 10) :: l = Oct.dec8 n)) ∧ (UInt8.ofNat (48 + m % 10) :: l).length ≤ 10 := by
        rcases HL.out with ⟨rfl, rfl⟩ | ⟨h1, h2, h3, h4⟩
        · refine ⟨⟨by simp, by simp; omega, fun h => ?_, fun h => ?_⟩, by simp⟩
          · rw [Oct.dec8_small m (by omega)]
          · rw [Oct.dec8_big m (by omega) (by omega)]
        · have hm0 : 0 < m := hgo.elim id (fun h => absurd h h1)
          have h5 := h4 hm0
          have hlen := HDL.out n
          rw [← h5, List.length_append] at hlen
          have h6 := Oct.decF_pos 2 m
          have h6 : 0 < (Oct.dec8 m).length := h6
          refine ⟨⟨by simp, by simp; omega, fun h => ?_, fun h => ?_⟩, by simp; omega⟩
          · rw [← h5, Oct.dec8_small m (by omega)]
            rfl
          · rw [← h5, Oct.dec8_big m (by omega) (by omega), List.append_assoc]
            rfl
      have KEY := Lib.hid key
      clear key
      by_cases hm0 : 0 < m
      · go_wp2_with fail
        refine ⟨⟨m / 10, _, UInt8.ofNat (48 + m % 10) :: l, by omega, by go_num, rfl, ?_, Lib.hid KEY.out.2, Lib.hid (.inr KEY.out.1), hbr.alloc hbr.size _⟩, ?_⟩
        · show _ = _
          rw [← HNEW.out]
          rw [← Oct.digit_add m]
        · have e1 : ((⟨#[48 + UInt8.ofNat (m % 10)]⟩ : ByteArray) ++ b).size ≠ 0 := by rw [ByteArray.size_append]; show 1 + b.size ≠ 0; omega
          show (if _ = 0 then 1 else 0) + _ < (if b.size = 0 then 1 else 0) + _
          rw [if_neg e1]
          simp only [intOf]
          have hl1 : b.size = 0 → m = n ∨ m = 0 ∨ 0 < m := fun _ => by omega
          split <;> omega
      · have hl0 : l = [] := hgo.resolve_left hm0
        have he : b.toList.isEmpty = true := by rw [hbl, hl0]; rfl
        clear hbl
        have d0 : decide (0 < (m : Int)) = false := decide_eq_false (by omega)
        go_wp2_with fail
        refine ⟨⟨m / 10, _, UInt8.ofNat (48 + m % 10) :: l, by omega, by go_num, rfl, ?_, Lib.hid KEY.out.2, Lib.hid (.inr KEY.out.1), hbr.alloc hbr.size _⟩, ?_⟩
        · show _ = _
          rw [← HNEW.out]
          rw [← Oct.digit_add m]
        · have e1 : ((⟨#[48 + UInt8.ofNat (m % 10)]⟩ : ByteArray) ++ b).size ≠ 0 := by rw [ByteArray.size_append]; show 1 + b.size ≠ 0; omega
          have e2 : b.size = 0 := by rw [hbz, hl0]; rfl
          show (if _ = 0 then 1 else 0) + _ < (if b.size = 0 then 1 else 0) + _
          rw [if_neg e1, if_pos e2]
          simp only [intOf]
          omega
    · have hm0 : m = 0 := by omega
      have hl0 : l ≠ [] := fun h => hgo (.inr h)
      have he : b.toList.isEmpty = false := by
        rw [hbl]
        cases l with
        | nil => exact absurd rfl hl0
        | cons => rfl
      clear hbl
      have d0 : decide (0 < (m : Int)) = false := decide_eq_false (by omega)
      go_wp2_with fail
      go_ret
      rcases HL.out with ⟨h1, _⟩ | ⟨_, _, h3, _⟩
      · exact absurd h1 hl0
      · rw [HB.out, h3 hm0]
        exact ⟨rfl, hbr⟩

set_option maxRecDepth 20000 in
set_option maxHeartbeats 4000000 in
theorem refIpText_any (p q r s : UInt8) (w : World) : Calls Tryd.prog 19 #[.agg #[.int .u8 (p.toNat : Int), .int .u8 (q.toNat : Int), .int .u8 (r.toNat : Int), .int .u8 (s.toNat : Int)]] w fun e w' => e = .returned (.string ⟨(Oct.ipText p q r s).toArray⟩) ∧ Below w.heap.size w w' := by
  have hdl : ∀ k, (Oct.dec8 k).length ≤ 3 := fun k => Oct.decF_length 2 k
  have HD : ∀ (b : UInt8) (W : World) (dd : Nat) (os : Array Obj), Calls Tryd.prog 31 #[.int .i64 (b.toNat : Int)] (grow (redrawn W dd) os) fun e w'' => e = .returned (.string ⟨(Oct.dec8 b.toNat).toArray⟩) ∧ ∃ p : Regrown, w'' = grow (redrawn W p.d) p.os := fun b W dd os => Calls.regrown_of (refDec_any b.toNat (by have := b.toNat_lt; omega) _)
  have HDP := HD p
  have HDQ := HD q
  have HDR := HD r
  have HDS := HD s
  clear HD
  have lp := hdl p.toNat
  have lq := hdl q.toNat
  have lr := hdl r.toNat
  have ls := hdl s.toNat
  clear hdl
  have hall : (⟨(Oct.ipText p q r s).toArray⟩ : ByteArray) = ⟨(Oct.dec8 p.toNat).toArray⟩ ++ ⟨#[46]⟩ ++ ⟨(Oct.dec8 q.toNat).toArray⟩ ++ ⟨#[46]⟩ ++ ⟨(Oct.dec8 r.toNat).toArray⟩ ++ ⟨#[46]⟩ ++ ⟨(Oct.dec8 s.toNat).toArray⟩ := by
    apply ByteArray.ext
    apply Array.toList_inj.1
    simp [ByteArray.data_append, Oct.ipText]
  rw [hall]
  clear hall
  have zp : (⟨(Oct.dec8 p.toNat).toArray⟩ : ByteArray).size ≤ 3 := by show (Oct.dec8 p.toNat).toArray.size ≤ 3; simpa using lp
  have zq : (⟨(Oct.dec8 q.toNat).toArray⟩ : ByteArray).size ≤ 3 := by show (Oct.dec8 q.toNat).toArray.size ≤ 3; simpa using lq
  have zr : (⟨(Oct.dec8 r.toNat).toArray⟩ : ByteArray).size ≤ 3 := by show (Oct.dec8 r.toNat).toArray.size ≤ 3; simpa using lr
  have zs : (⟨(Oct.dec8 s.toNat).toArray⟩ : ByteArray).size ≤ 3 := by show (Oct.dec8 s.toNat).toArray.size ≤ 3; simpa using ls
  generalize (⟨(Oct.dec8 p.toNat).toArray⟩ : ByteArray) = xp at *
  generalize (⟨(Oct.dec8 q.toNat).toArray⟩ : ByteArray) = xq at *
  generalize (⟨(Oct.dec8 r.toNat).toArray⟩ : ByteArray) = xr at *
  generalize (⟨(Oct.dec8 s.toNat).toArray⟩ : ByteArray) = xs at *
  have HP := Lib.hid HDP
  have HQ := Lib.hid HDQ
  have HR := Lib.hid HDR
  have HS := Lib.hid HDS
  have y1 : ¬ 9223372036854775807 < xp.size + 1 := by omega
  have y2 : ¬ 9223372036854775807 < xp.size + 1 + xq.size := by omega
  have y3 : ¬ 9223372036854775807 < xp.size + 1 + xq.size + 1 := by omega
  have y4 : ¬ 9223372036854775807 < xp.size + 1 + xq.size + 1 + xr.size := by omega
  have y5 : ¬ 9223372036854775807 < xp.size + 1 + xq.size + 1 + xr.size + 1 := by omega
  have y6 : ¬ 9223372036854775807 < xp.size + 1 + xq.size + 1 + xr.size + 1 + xs.size := by omega
  clear HDP HDQ HDR HDS lp lq lr ls zp zq zr zs
  go_enter Tryd.func19, Tryd.ntmps19
  go_upto_region 1 with fail
  have hbW : Below w.heap.size w (w.alloc (.cells #[.int .u8 (p.toNat : Int), .int .u8 (q.toNat : Int), .int .u8 (r.toNat : Int), .int .u8 (s.toNat : Int)] 28)) := (Below.refl _ _).alloc (Nat.le_refl _) _
  have hR := rowIs_new w 28 #[.int .u8 (p.toNat : Int), .int .u8 (q.toNat : Int), .int .u8 (r.toNat : Int), .int .u8 (s.toNat : Int)]
  generalize (w.alloc (.cells #[.int .u8 (p.toNat : Int), .int .u8 (q.toNat : Int), .int .u8 (r.toNat : Int), .int .u8 (s.toNat : Int)] 28)) = W at *
  have c0 : W.cell? ⟨w.heap.size, 0, none⟩ = some (.int .u8 (p.toNat : Int)) := hR.cell 0
  have c1 : W.cell? ⟨w.heap.size, 1, none⟩ = some (.int .u8 (q.toNat : Int)) := hR.cell 1
  have c2 : W.cell? ⟨w.heap.size, 2, none⟩ = some (.int .u8 (r.toNat : Int)) := hR.cell 2
  have c3 : W.cell? ⟨w.heap.size, 3, none⟩ = some (.int .u8 (s.toNat : Int)) := hR.cell 3
  have k0 := cell_regrown c0
  have k1 := cell_regrown c1
  have k2 := cell_regrown c2
  have k3 := cell_regrown c3
  have wrp : ∀ b : UInt8, IntKind.i64.wrap (b.toNat : Int) = (b.toNat : Int) := fun b => by have := b.toNat_lt; rw [IntKind.wrap_i64]; omega
  have wp := wrp p
  have wq := wrp q
  have wr := wrp r
  have ws := wrp s
  clear wrp
  have bp := p.toNat_lt
  have bq := q.toNat_lt
  have br := r.toNat_lt
  have bs := s.toNat_lt
  clear hR c0 c1 c2 c3
  refine wp_region_quiet_below (by kernel_rfl) (by kernel_rfl) ?_
  repeat (quiet_step (first | (with_reducible exact HP.out W _ _) | (with_reducible exact HQ.out W _ _) | (with_reducible exact HR.out W _ _) | (with_reducible exact HS.out W _ _)))
  refine wpQuiet_nil ?_
  intro _ hw'
  obtain ⟨⟨dq, osq⟩, hw''⟩ := hw'
  subst hw''
  have b3 := below_regrown W dq osq
  go_wp2_with fail
  go_ret
  exact ⟨rfl, hbW.trans (b3.mono hbW.size)⟩
end Go.Proofs.YtknnadnjikfibaaDoor
