/- causeyref07.hex, ReadMac. By an AI agent. -/
import Derived.Test.YtknnadnjikfibaaDoorReadLaw
import Derived.Test.YtknnadnjikfibaaDoorCell
namespace Go.Proofs.YtknnadnjikfibaaDoor
open Go.RowKit Go.Sort

namespace Oct
set_option maxRecDepth 20000 in
theorem hexv_is8 : ∀ n, n < 256 → hexv (UInt8.ofNat n) = if 48 ≤ n ∧ n ≤ 57 then (n : Int) - 48 else if 97 ≤ n ∧ n ≤ 102 then (n : Int) - 87 else -1 := by decide
theorem hexv_is (b : UInt8) : hexv b = if 48 ≤ b.toNat ∧ b.toNat ≤ 57 then (b.toNat : Int) - 48 else if 97 ≤ b.toNat ∧ b.toNat ≤ 102 then (b.toNat : Int) - 87 else -1 := by
  have := hexv_is8 b.toNat b.toNat_lt
  rwa [UInt8.ofNat_toNat] at this
/-- the first i pairs of a text of 17 signs are right -/
def Fit (s : ByteArray) (i : Nat) : Prop := ∀ j x y, j < i → s.data.toList[3 * j]? = some x → s.data.toList[3 * j + 1]? = some y → 0 ≤ hexv x ∧ 0 ≤ hexv y ∧ (j < 5 → s.data.toList[3 * j + 2]? = some 58)
theorem hexd_ge (n : Nat) (h : n < 16) : 0 ≤ hexv (hexd n) := by rw [hexv_hexd n h]; omega
theorem fit_of {s : ByteArray} {a b c d e f : UInt8} (h : s.data.toList = macText [a, b, c, d, e, f]) : s.data.toList.length = 17 ∧ Fit s 6 := by
  have ha := a.toNat_lt
  have hb := b.toNat_lt
  have hc := c.toNat_lt
  have hd := d.toNat_lt
  have he := e.toNat_lt
  have hf := f.toNat_lt
  rw [macText_six] at h
  refine ⟨by rw [h]; rfl, fun j x y hj hx hy => ?_⟩
  rw [h] at hx hy ⊢
  simp only [hex2, List.cons_append, List.nil_append] at hx hy ⊢
  rcases (show j = 0 ∨ j = 1 ∨ j = 2 ∨ j = 3 ∨ j = 4 ∨ j = 5 by omega) with rfl | rfl | rfl | rfl | rfl | rfl
  all_goals
    obtain rfl := Option.some.inj hx
    obtain rfl := Option.some.inj hy
    exact ⟨hexd_ge _ (by omega), hexd_ge _ (by omega), fun h => by first | rfl | exact absurd h (by decide)⟩
theorem of_fit {s : ByteArray} (hl : s.size = 17) (h : Fit s 6) : ∃ a b c d e f : UInt8, s.data.toList = macText [a, b, c, d, e, f] ∧ ∀ j v, [a, b, c, d, e, f][j]? = some v → ∃ x y, s.data.toList[3 * j]? = some x ∧ s.data.toList[3 * j + 1]? = some y ∧ v.toNat = 16 * (hexv x).toNat + (hexv y).toNat := by
  have hl : s.data.toList.length = 17 := by simpa using hl
  unfold Fit at h
  generalize s.data.toList = l at *
  match l, hl with
  | [x0, y0, z0, x1, y1, z1, x2, y2, z2, x3, y3, z3, x4, y4, z4, x5, y5], _ =>
    obtain ⟨p0, q0, r0⟩ := h 0 x0 y0 (by decide) rfl rfl
    obtain ⟨p1, q1, r1⟩ := h 1 x1 y1 (by decide) rfl rfl
    obtain ⟨p2, q2, r2⟩ := h 2 x2 y2 (by decide) rfl rfl
    obtain ⟨p3, q3, r3⟩ := h 3 x3 y3 (by decide) rfl rfl
    obtain ⟨p4, q4, r4⟩ := h 4 x4 y4 (by decide) rfl rfl
    obtain ⟨p5, q5, _⟩ := h 5 x5 y5 (by decide) rfl rfl
    obtain rfl : z0 = 58 := Option.some.inj (r0 (by decide))
    obtain rfl : z1 = 58 := Option.some.inj (r1 (by decide))
    obtain rfl : z2 = 58 := Option.some.inj (r2 (by decide))
    obtain rfl : z3 = 58 := Option.some.inj (r3 (by decide))
    obtain rfl : z4 = 58 := Option.some.inj (r4 (by decide))
    have pair : ∀ x y : UInt8, 0 ≤ hexv x → 0 ≤ hexv y → ∃ a : UInt8, hex2 a = [x, y] ∧ a.toNat = 16 * (hexv x).toNat + (hexv y).toNat := fun x y hx hy => by
      have h1 := hexv_bd x
      have h2 := hexv_bd y
      have e : (UInt8.ofNat (16 * (hexv x).toNat + (hexv y).toNat)).toNat = 16 * (hexv x).toNat + (hexv y).toNat := by rw [UInt8.toNat_ofNat']; omega
      refine ⟨UInt8.ofNat (16 * (hexv x).toNat + (hexv y).toNat), ?_, e⟩
      unfold hex2
      rw [e, show (16 * (hexv x).toNat + (hexv y).toNat) / 16 = (hexv x).toNat by omega, show (16 * (hexv x).toNat + (hexv y).toNat) % 16 = (hexv y).toNat by omega, hexd_hexv x hx, hexd_hexv y hy]
    obtain ⟨a, a1, a2⟩ := pair x0 y0 p0 q0
    obtain ⟨b, b1, b2⟩ := pair x1 y1 p1 q1
    obtain ⟨c, c1, c2⟩ := pair x2 y2 p2 q2
    obtain ⟨d, d1, d2⟩ := pair x3 y3 p3 q3
    obtain ⟨e, e1, e2⟩ := pair x4 y4 p4 q4
    obtain ⟨f, f1, f2⟩ := pair x5 y5 p5 q5
    refine ⟨a, b, c, d, e, f, ?_, fun j v hv => ?_⟩
    · rw [macText_six, a1, b1, c1, d1, e1, f1]
      rfl
    · have hj : j < 6 := (List.getElem?_eq_some_iff.1 hv).1
      rcases (show j = 0 ∨ j = 1 ∨ j = 2 ∨ j = 3 ∨ j = 4 ∨ j = 5 by omega) with rfl | rfl | rfl | rfl | rfl | rfl
      · obtain rfl := Option.some.inj hv; exact ⟨x0, y0, rfl, rfl, a2⟩
      · obtain rfl := Option.some.inj hv; exact ⟨x1, y1, rfl, rfl, b2⟩
      · obtain rfl := Option.some.inj hv; exact ⟨x2, y2, rfl, rfl, c2⟩
      · obtain rfl := Option.some.inj hv; exact ⟨x3, y3, rfl, rfl, d2⟩
      · obtain rfl := Option.some.inj hv; exact ⟨x4, y4, rfl, rfl, e2⟩
      · obtain rfl := Option.some.inj hv; exact ⟨x5, y5, rfl, rfl, f2⟩
end Oct

set_option maxHeartbeats 1000000 in
theorem refHex_any (b : UInt8) (w : World) : Calls Tryd.prog 30 #[.int .u8 (b.toNat : Int)] w fun e w' => e = .returned (.int .i64 (Oct.hexv b)) ∧ w = w' := by
  have h := Oct.hexv_is b
  have hb := b.toNat_lt
  by_cases h1 : 48 ≤ b.toNat
  · by_cases h2 : b.toNat ≤ 57
    · rw [if_pos ⟨h1, h2⟩] at h
      rw [h]
      clear h
      go_enter Tryd.func30, Tryd.ntmps30
      go_wp2_with fail
      go_ret
      exact ⟨rfl, rfl⟩
    · rw [if_neg (fun h => h2 h.2)] at h
      by_cases h3 : 97 ≤ b.toNat
      · by_cases h4 : b.toNat ≤ 102
        · rw [if_pos ⟨h3, h4⟩] at h
          rw [h]
          clear h
          go_enter Tryd.func30, Tryd.ntmps30
          go_wp2_with fail
          go_ret
          exact ⟨rfl, rfl⟩
        · rw [if_neg (fun h => h4 h.2)] at h
          rw [h]
          clear h
          go_enter Tryd.func30, Tryd.ntmps30
          go_wp2_with fail
          go_ret
          exact ⟨rfl, rfl⟩
      · rw [if_neg (fun h => h3 h.1)] at h
        rw [h]
        clear h
        go_enter Tryd.func30, Tryd.ntmps30
        go_wp2_with fail
        go_ret
        exact ⟨rfl, rfl⟩
  · rw [if_neg (fun h => h1 h.1), if_neg (fun h => by omega)] at h
    rw [h]
    clear h
    go_enter Tryd.func30, Tryd.ntmps30
    go_wp2_with fail
    go_ret
    exact ⟨rfl, rfl⟩

theorem infoA6 : (Tryd.prog.info? 23).map (·.size) = some 6 := by kernel_rfl
def RefMacAns (s : ByteArray) (e : Ending) : Prop := (∃ a b c d x y : UInt8, s.data.toList = Oct.macText [a, b, c, d, x, y] ∧ e = .returned (.tuple #[.agg #[.int .u8 (a.toNat : Int), .int .u8 (b.toNat : Int), .int .u8 (c.toNat : Int), .int .u8 (d.toNat : Int), .int .u8 (x.toNat : Int), .int .u8 (y.toNat : Int)], .bool true])) ∨
    ((∀ a b c d x y : UInt8, s.data.toList ≠ Oct.macText [a, b, c, d, x, y]) ∧ e = .returned (.tuple #[.agg #[.int .u8 0, .int .u8 0, .int .u8 0, .int .u8 0, .int .u8 0, .int .u8 0], .bool false]))
/-- what the first pairs come to -/
def Oct.Vals (s : ByteArray) (vals : List Nat) : Prop := ∀ j v, vals[j]? = some v → ∃ x y, s.data.toList[3 * j]? = some x ∧ s.data.toList[3 * j + 1]? = some y ∧ v = 16 * (Oct.hexv x).toNat + (Oct.hexv y).toNat

theorem Oct.vals_of {s : ByteArray} {vals : List Nat} {a b c d e f : UInt8} (hl : vals.length = 6) (hv : Oct.Vals s vals) (h : ∀ j v, [a, b, c, d, e, f][j]? = some v → ∃ x y, s.data.toList[3 * j]? = some x ∧ s.data.toList[3 * j + 1]? = some y ∧ v.toNat = 16 * (Oct.hexv x).toNat + (Oct.hexv y).toNat) : vals = [a.toNat, b.toNat, c.toNat, d.toNat, e.toNat, f.toNat] := by
  have key : ∀ (j : Nat) (v : UInt8) (n : Nat), vals[j]? = some n → [a, b, c, d, e, f][j]? = some v → n = v.toNat := fun j v n h1 h2 => by
    obtain ⟨x, y, hx, hy, e1⟩ := hv j n h1
    obtain ⟨x', y', hx', hy', e2⟩ := h j v h2
    obtain rfl := Option.some.inj (hx.symm.trans hx')
    obtain rfl := Option.some.inj (hy.symm.trans hy')
    rw [e1, e2]
  match vals, hl with
  | [v0, v1, v2, v3, v4, v5], _ =>
    have k0 := key 0 a v0 rfl rfl
    have k1 := key 1 b v1 rfl rfl
    have k2 := key 2 c v2 rfl rfl
    have k3 := key 3 d v3 rfl rfl
    have k4 := key 4 e v4 rfl rfl
    have k5 := key 5 f v5 rfl rfl
    rw [k0, k1, k2, k3, k4, k5]

set_option maxRecDepth 20000 in
set_option maxHeartbeats 8000000 in
theorem refReadMac_any (s : ByteArray) (hsz : s.size ≤ 100000) (w : World) : Calls Tryd.prog 16 #[.string s] w fun e w' => RefMacAns s e ∧ Below w.heap.size w w' := by
  go_enter Tryd.func16, Tryd.ntmps16
  go_upto_region 2 with fail
  generalize hW : (w.alloc _).alloc _ = W
  have HR2 : Hid (RowIs W w.heap.size 23 #[.int .u8 0, .int .u8 0, .int .u8 0, .int .u8 0, .int .u8 0, .int .u8 0]) := by rw [← hW]; exact (rowIs_new w _ _).alloc _
  have HR4 : Hid (RowIs W (w.heap.size + 1) 23 #[.int .u8 0, .int .u8 0, .int .u8 0, .int .u8 0, .int .u8 0, .int .u8 0]) := by
    rw [← hW]
    have := rowIs_new (w.alloc (.cells #[.int .u8 0, .int .u8 0, .int .u8 0, .int .u8 0, .int .u8 0, .int .u8 0] 23)) 23 #[.int .u8 0, .int .u8 0, .int .u8 0, .int .u8 0, .int .u8 0, .int .u8 0]
    rwa [World.size_alloc] at this
  have hbW : Below w.heap.size w W := by rw [← hW]; exact ((Below.refl _ _).alloc (Nat.le_refl _) _).alloc (by simp) _
  clear hW
  by_cases h17 : s.size = 17
  case neg =>
    have d1 : ((s.size : Int) == 17) = false := by rw [beq_eq_false_iff_ne]; omega
    have hno : ∀ a b c d x y : UInt8, s.data.toList ≠ Oct.macText [a, b, c, d, x, y] := fun a b c d x y h => h17 (by have := (Oct.fit_of h).1; simpa using this)
    go_wp2_with (first | ((with_reducible refine at_load 23 (.tmp 4) ?_); refine wpList_load_own rfl 23 (.tmp 4) rfl (w.heap.size + 1) rfl 23 _ _ HR4.out Tryd.underlying23 rfl infoA6 ?_) | ((with_reducible refine at_store 23 (.tmp 2) (.tmp 11) ?_); refine wpList_store_own rfl 23 (.tmp 2) (.tmp 11) rfl w.heap.size _ rfl rfl 23 _ HR2.out infoA6 rfl (by kernel_rfl) w.heap.size (Nat.le_refl _) ?_; intro w2 r2 o2 hs2 hb2))
    refine bodyPost_ret (results_row_tmp1 Tryd.results16 _ _ w.heap.size _ _ _ rfl r2 Tryd.underlying23 rfl infoA6) rfl ?_
    exact ⟨.inr ⟨hno, rfl⟩, hbW.trans hb2⟩
  case pos =>
    have d1 : ((s.size : Int) == 17) = true := by rw [h17]; rfl
    have hls : s.data.toList.length = 17 := by simpa using h17
    go_wp2_with fail
    go_loopw [5, 6, 7] (fun s5 _ _ wr => ∃ (k : Nat) (vals : List Nat), k ≤ 6 ∧ s5 = .int .i64 k ∧ Hid (vals.length = k) ∧ Hid (Oct.Fit s k) ∧ Hid (Oct.Vals s vals) ∧ Hid (RowIs wr w.heap.size 23 #[.int .u8 0, .int .u8 0, .int .u8 0, .int .u8 0, .int .u8 0, .int .u8 0]) ∧ Hid (RowIs wr (w.heap.size + 1) 23 (bytesV 6 vals)) ∧ Below w.heap.size w wr) (fun s5 _ _ _ => 6 - (intOf s5).toNat)
    case atStart => exact ⟨0, [], Nat.zero_le _, rfl, Lib.hid rfl, Lib.hid (fun j x y h => absurd h (by omega)), Lib.hid (fun j v h => by simp at h), HR2, HR4, hbW⟩
    case round =>
      clear HR2 HR4 hbW
      rename_i wr
      obtain ⟨k, vals, hk, rfl, HL, HFI, HV, HR2, HR4, hbr⟩ := hrel
      by_cases hlt : k < 6
      · obtain ⟨n1, hn1⟩ : ∃ n1, n1 = 3 * k := ⟨_, rfl⟩
        have hn2s : n1 + 1 < s.size := by omega
        have hn1s : n1 < s.size := by omega
        have hw1 : IntKind.i64.wrap (3 * (k : Int)) = (n1 : Int) := by rw [IntKind.wrap_i64]; omega
        obtain ⟨n2, hn2⟩ : ∃ n2, n2 = n1 + 1 := ⟨_, rfl⟩
        have hw2 : IntKind.i64.wrap ((n1 : Int) + 1) = (n2 : Int) := by rw [IntKind.wrap_i64]; omega
        rw [← hn2] at hn2s
        have hx1 : s.data.toList[n1]? = some s[n1] := by simp [ByteArray.getElem_eq_getElem_data, show n1 < s.data.size from hn1s]
        have hx2 : s.data.toList[n2]? = some s[n2] := by simp [ByteArray.getElem_eq_getElem_data, show n2 < s.data.size from hn2s]
        have HX1 := Lib.hid hx1
        have HX2 := Lib.hid hx2
        have HN1 := Lib.hid hn1
        have HN2 := Lib.hid hn2
        clear hx1 hx2 hn1 hn2
        go_upto_region 7 with fail
        have hi1 : ∀ w, (Instr.index 9 (.string s) (.int .i64 (n1 : Int))).run Tryd.prog w = .ok (.int .u8 (s[n1].toNat : Int)) w := fun w => by
          have h := run_index_string (P := Tryd.prog) (w := w) 9 s .i64 (n1 : Int) Tryd.underlying9
          rw [h]
          simp [hn1s]
        have hi2 : ∀ w, (Instr.index 9 (.string s) (.int .i64 (n2 : Int))).run Tryd.prog w = .ok (.int .u8 (s[n2].toNat : Int)) w := fun w => by
          have h := run_index_string (P := Tryd.prog) (w := w) 9 s .i64 (n2 : Int) Tryd.underlying9
          rw [h]
          simp [hn2s]
        have HA : Hid (∀ dd os, Calls Tryd.prog 30 #[.int .u8 (s[n1].toNat : Int)] (grow (redrawn wr dd) os) fun e w'' => e = .returned (.int .i64 (Oct.hexv s[n1])) ∧ ∃ p : Regrown, w'' = grow (redrawn wr p.d) p.os) := fun dd os => (refHex_any s[n1] _).mono fun e w' h => ⟨h.1, ⟨⟨dd, os⟩, h.2.symm⟩⟩
        have HB : Hid (∀ dd os, Calls Tryd.prog 30 #[.int .u8 (s[n2].toNat : Int)] (grow (redrawn wr dd) os) fun e w'' => e = .returned (.int .i64 (Oct.hexv s[n2])) ∧ ∃ p : Regrown, w'' = grow (redrawn wr p.d) p.os) := fun dd os => (refHex_any s[n2] _).mono fun e w' h => ⟨h.1, ⟨⟨dd, os⟩, h.2.symm⟩⟩
        refine wp_region_quiet_below (by kernel_rfl) (by kernel_rfl) ?_
        repeat (quiet_step (first | (with_reducible exact HA.out _ _) | (with_reducible exact HB.out _ _)))
        refine wpQuiet_nil ?_
        intro _ hw'
        obtain ⟨⟨dq, osq⟩, hw''⟩ := hw'
        subst hw''
        have b3 := below_regrown wr dq osq
        generalize grow (redrawn wr dq) osq = W3 at *
        have HR2 := Lib.hid (HR2.out.kept b3)
        have HR4 := Lib.hid (HR4.out.kept b3)
        have hbr3 := hbr.trans (b3.mono hbr.size)
        clear hbr b3 HA HB hi1 hi2
        have BX1 := Oct.hexv_bd s[n1]
        have BX2 := Oct.hexv_bd s[n2]
        have FITK : Hid (∀ a b c d x y : UInt8, s.data.toList = Oct.macText [a, b, c, d, x, y] → 0 ≤ Oct.hexv s[n1] ∧ 0 ≤ Oct.hexv s[n2] ∧ (k < 5 → s.data.toList[n2 + 1]? = some 58)) := fun a b c d x y h => by
          have := (Oct.fit_of h).2 k s[n1] s[n2] hlt (by rw [← HN1.out]; exact HX1.out) (by rw [← HN1.out, ← HN2.out]; exact HX2.out)
          rw [show 3 * k + 2 = n2 + 1 by have := HN1.out; have := HN2.out; omega] at this
          exact this
        have VALK : Hid (Oct.Vals s (vals ++ [16 * (Oct.hexv s[n1]).toNat + (Oct.hexv s[n2]).toNat])) := fun j v hv => by
          rcases Nat.lt_or_ge j vals.length with h | h
          · rw [List.getElem?_append_left h] at hv
            exact HV.out j v hv
          · rw [List.getElem?_append_right h] at hv
            have h0 : j - vals.length = 0 := by
              have := (List.getElem?_eq_some_iff.1 hv).1
              simp at this
              omega
            rw [h0] at hv
            obtain rfl := Option.some.inj hv
            have ej : j = k := by have := HL.out; omega
            rw [ej]
            exact ⟨s[n1], s[n2], by rw [← HN1.out]; exact HX1.out, by rw [← HN1.out, ← HN2.out]; exact HX2.out, rfl⟩
        have FITS : Hid (0 ≤ Oct.hexv s[n1] → 0 ≤ Oct.hexv s[n2] → (k < 5 → s.data.toList[n2 + 1]? = some 58) → Oct.Fit s (k + 1)) := fun h1 h2 h3 j x y hj hx hy => by
          rcases Nat.lt_or_ge j k with h | h
          · exact HFI.out j x y h hx hy
          · obtain rfl : j = k := by omega
            rw [← HN1.out] at hx
            rw [← HN1.out, ← HN2.out] at hy
            rw [show 3 * j + 2 = n2 + 1 by have := HN1.out; have := HN2.out; omega]
            obtain rfl := Option.some.inj (HX1.out.symm.trans hx)
            obtain rfl := Option.some.inj (HX2.out.symm.trans hy)
            exact ⟨h1, h2, h3⟩
        clear HFI HV HX1 HX2
        generalize Oct.hexv s[n1] = hi at *
        generalize Oct.hexv s[n2] = lo at *
        by_cases c1 : hi < 0
        · have d3 : decide (hi < 0) = true := decide_eq_true c1
          go_wp2_with ((with_reducible refine at_store 23 (.tmp 2) (.tmp 45) ?_); refine wpList_store_own rfl 23 (.tmp 2) (.tmp 45) rfl w.heap.size _ rfl rfl 23 _ HR2.out infoA6 rfl (by kernel_rfl) w.heap.size (Nat.le_refl _) ?_; intro w2 r2 o2 hs2 hb2)
          refine bodyPost_ret (results_row_tmp1 Tryd.results16 _ _ w.heap.size _ _ _ rfl r2 Tryd.underlying23 rfl infoA6) rfl ?_
          exact ⟨.inr ⟨fun a b c d x y h => absurd (FITK.out a b c d x y h).1 (by omega), rfl⟩, (hbr3).trans hb2⟩
        · have d3 : decide (hi < 0) = false := decide_eq_false c1
          by_cases c2 : lo < 0
          · have d4 : decide (lo < 0) = true := decide_eq_true c2
            go_wp2_with ((with_reducible refine at_store 23 (.tmp 2) (.tmp 45) ?_); refine wpList_store_own rfl 23 (.tmp 2) (.tmp 45) rfl w.heap.size _ rfl rfl 23 _ HR2.out infoA6 rfl (by kernel_rfl) w.heap.size (Nat.le_refl _) ?_; intro w2 r2 o2 hs2 hb2)
            refine bodyPost_ret (results_row_tmp1 Tryd.results16 _ _ w.heap.size _ _ _ rfl r2 Tryd.underlying23 rfl infoA6) rfl ?_
            exact ⟨.inr ⟨fun a b c d x y h => absurd (FITK.out a b c d x y h).2.1 (by omega), rfl⟩, (hbr3).trans hb2⟩
          · have d4 : decide (lo < 0) = false := decide_eq_false c2
            obtain ⟨i, rfl⟩ := Int.eq_ofNat_of_zero_le (show 0 ≤ hi by omega)
            obtain ⟨j, rfl⟩ := Int.eq_ofNat_of_zero_le (show 0 ≤ lo by omega)
            have hi16 : i < 16 := by omega
            have hj16 : j < 16 := by omega
            have e1 : ((16 * i + j : Nat) : Int) = 16 * (i : Int) + (j : Int) := by omega
            have HLK : vals.length < 6 := by have := HL.out; omega
            have cA : W3.cell? ⟨w.heap.size + 1, k, none⟩ = some (.int .u8 0) := by
              rw [← HL.out, HR4.out.cell]
              exact bytesV_at 6 vals HLK
            have fA : W3.frozen? ⟨w.heap.size + 1, k, none⟩ = false := HR4.out.free k
            have VALK : Hid (Oct.Vals s (vals ++ [16 * i + j])) := VALK
            have HR5 : Hid (RowIs (W3.setCell ⟨w.heap.size + 1, k, none⟩ (.int .u8 (16 * (i : Int) + (j : Int)))) (w.heap.size + 1) 23 (bytesV 6 (vals ++ [16 * i + j]))) := by
              have := HR4.out.setOne vals.length (.int .u8 ((16 * i + j : Nat) : Int))
              rw [bytesV_put, e1, HL.out] at this
              exact this
            have HLN : Hid ((vals ++ [16 * i + j]).length = k + 1) := by show _ = _; rw [List.length_append, HL.out]; rfl
            have HR2N := Lib.hid (HR2.out.setOther (show w.heap.size ≠ w.heap.size + 1 by omega) k (.int .u8 (16 * (i : Int) + (j : Int))))
            have hbN := hbr3.setCell (p := ⟨w.heap.size + 1, k, none⟩) (show w.heap.size ≤ w.heap.size + 1 by omega) (.int .u8 (16 * (i : Int) + (j : Int)))
            clear BX1 BX2 HLK
            by_cases c5 : k < 5
            · obtain ⟨n3, hn3⟩ : ∃ n3, n3 = n2 + 1 := ⟨_, rfl⟩
              have hw3 : IntKind.i64.wrap ((n1 : Int) + 2) = (n3 : Int) := by rw [IntKind.wrap_i64]; have := HN2.out; omega
              have hn3s : n3 < s.size := by have := HN1.out; have := HN2.out; omega
              have hx3 : s.data.toList[n2 + 1]? = some s[n3] := by rw [← hn3]; simp [ByteArray.getElem_eq_getElem_data, show n3 < s.data.size from hn3s]
              have HX3 := Lib.hid hx3
              clear hx3 hn3
              have d5 : decide ((k : Int) < 5) = true := decide_eq_true (by omega)
              by_cases c3 : s[n3].toNat = 58
              · have d6 : ((s[n3].toNat : Int) == 58) = true := by rw [c3]; rfl
                have H58 : Hid (s.data.toList[n2 + 1]? = some 58) := by show _ = _; rw [HX3.out]; congr 1; exact UInt8.toNat_inj.1 c3
                clear c3
                go_wp2_with fail
                exact ⟨⟨k + 1, vals ++ [16 * i + j], by omega, by go_num, HLN, Lib.hid (FITS.out (by omega) (by omega) (fun _ => H58.out)), VALK, HR2N, HR5, hbN⟩, by simp [intOf]; omega⟩
              · have d6 : ((s[n3].toNat : Int) == 58) = false := by rw [beq_eq_false_iff_ne]; omega
                have H58 : Hid (s.data.toList[n2 + 1]? ≠ some 58) := by
                  show _ ≠ _
                  rw [HX3.out]
                  intro h
                  exact c3 (by rw [Option.some.inj h]; rfl)
                clear c3
                go_wp2_with ((with_reducible refine at_store 23 (.tmp 2) (.tmp 45) ?_); refine wpList_store_own rfl 23 (.tmp 2) (.tmp 45) rfl w.heap.size _ rfl rfl 23 _ HR2.out infoA6 rfl (by kernel_rfl) w.heap.size (Nat.le_refl _) ?_; intro w2 r2 o2 hs2 hb2)
                refine bodyPost_ret (results_row_tmp1 Tryd.results16 _ _ w.heap.size _ _ _ rfl r2 Tryd.underlying23 rfl infoA6) rfl ?_
                exact ⟨.inr ⟨fun a b c d x y h => absurd ((FITK.out a b c d x y h).2.2 c5) H58.out, rfl⟩, (hbr3).trans hb2⟩
            · have d5 : decide ((k : Int) < 5) = false := decide_eq_false (by omega)
              go_wp2_with fail
              exact ⟨⟨k + 1, vals ++ [16 * i + j], by omega, by go_num, HLN, Lib.hid (FITS.out (by omega) (by omega) (fun h => absurd h c5)), VALK, HR2N, HR5, hbN⟩, by simp [intOf]; omega⟩
      · obtain rfl : k = 6 := by omega
        obtain ⟨a, b, c, d, x, y, hs, hval⟩ := Oct.of_fit h17 HFI.out
        have hvals : vals = [a.toNat, b.toNat, c.toNat, d.toNat, x.toNat, y.toNat] := Oct.vals_of HL.out HV.out hval
        have HS := Lib.hid hs
        rw [hvals] at HR4
        have HR4 : Hid (RowIs wr (w.heap.size + 1) 23 #[.int .u8 (a.toNat : Int), .int .u8 (b.toNat : Int), .int .u8 (c.toNat : Int), .int .u8 (d.toNat : Int), .int .u8 (x.toNat : Int), .int .u8 (y.toNat : Int)]) := HR4
        clear hs hval hvals HV HFI HL
        go_wp2_with (first | ((with_reducible refine at_load 23 (.tmp 4) ?_); refine wpList_load_own rfl 23 (.tmp 4) rfl (w.heap.size + 1) rfl 23 _ _ HR4.out Tryd.underlying23 rfl infoA6 ?_) | ((with_reducible refine at_store 23 (.tmp 2) (.tmp 53) ?_); refine wpList_store_own rfl 23 (.tmp 2) (.tmp 53) rfl w.heap.size _ rfl rfl 23 _ HR2.out infoA6 rfl (by kernel_rfl) w.heap.size (Nat.le_refl _) ?_; intro w2 r2 o2 hs2 hb2))
        refine bodyPost_ret (results_row_tmp1 Tryd.results16 _ _ w.heap.size _ _ _ rfl r2 Tryd.underlying23 rfl infoA6) rfl ?_
        exact ⟨.inl ⟨a, b, c, d, x, y, HS.out, rfl⟩, hbr.trans hb2⟩
end Go.Proofs.YtknnadnjikfibaaDoor
