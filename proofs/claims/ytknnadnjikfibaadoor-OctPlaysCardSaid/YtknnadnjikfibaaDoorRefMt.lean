/- causeyref07.MacText. By an AI agent. -/
import Derived.Test.YtknnadnjikfibaaDoorRefText
namespace Go.Proofs.YtknnadnjikfibaaDoor
open Go.RowKit Go.Sort

namespace Oct
def trail (m : List UInt8) (k : Nat) : List UInt8 := if k = 6 then macText m else (m.take k).flatMap fun b => hex2 b ++ [58]
theorem trail_step {a b c d e f x : UInt8} {k : Nat} (hk : k < 6) (hx : [a, b, c, d, e, f][k]? = some x) : trail [a, b, c, d, e, f] (k + 1) = trail [a, b, c, d, e, f] k ++ [hexd (x.toNat / 16)] ++ [hexd (x.toNat % 16)] ++ (if k < 5 then [58] else []) := by
  rcases (show k = 0 ∨ k = 1 ∨ k = 2 ∨ k = 3 ∨ k = 4 ∨ k = 5 by omega) with rfl | rfl | rfl | rfl | rfl | rfl
  all_goals
    obtain rfl := Option.some.inj hx
    rfl
theorem trail_len {m : List UInt8} (hm : m.length = 6) (k : Nat) (hk : k ≤ 6) : (trail m k).length ≤ 18 := by
  unfold trail
  split
  · rw [macText_length, hm]
    decide
  · have h : ∀ l : List UInt8, (l.flatMap fun b => hex2 b ++ [58]).length = 3 * l.length := fun l => by
      induction l with
      | nil => rfl
      | cons b l ih => rw [List.flatMap_cons, List.length_append, ih]; simp [hex2]; omega
    rw [h, List.length_take]
    omega
theorem digit_cut (n : Nat) (h : n < 16) : (⟨#[48, 49, 50, 51, 52, 53, 54, 55, 56, 57, 97, 98, 99, 100, 101, 102]⟩ : ByteArray).extract n (n + 1) = ⟨#[hexd n]⟩ := by
  have key : ∀ n, n < 16 → (⟨#[48, 49, 50, 51, 52, 53, 54, 55, 56, 57, 97, 98, 99, 100, 101, 102]⟩ : ByteArray).extract n (n + 1) = ⟨#[hexd n]⟩ := by decide
  exact key n h
end Oct

set_option maxRecDepth 20000 in
set_option maxHeartbeats 8000000 in
theorem refMacText_any (a b c d e f : UInt8) (w : World) : Calls Tryd.prog 18 #[.agg #[.int .u8 (a.toNat : Int), .int .u8 (b.toNat : Int), .int .u8 (c.toNat : Int), .int .u8 (d.toNat : Int), .int .u8 (e.toNat : Int), .int .u8 (f.toNat : Int)]] w fun e' w' => e' = .returned (.string ⟨(Oct.macText [a, b, c, d, e, f]).toArray⟩) ∧ Below w.heap.size w w' := by
  go_enter Tryd.func18, Tryd.ntmps18
  go_upto_region 1 with fail
  have hbW : Below w.heap.size w (w.alloc (.cells #[.int .u8 (a.toNat : Int), .int .u8 (b.toNat : Int), .int .u8 (c.toNat : Int), .int .u8 (d.toNat : Int), .int .u8 (e.toNat : Int), .int .u8 (f.toNat : Int)] 23)) := (Below.refl _ _).alloc (Nat.le_refl _) _
  have hR := rowIs_new w 23 #[.int .u8 (a.toNat : Int), .int .u8 (b.toNat : Int), .int .u8 (c.toNat : Int), .int .u8 (d.toNat : Int), .int .u8 (e.toNat : Int), .int .u8 (f.toNat : Int)]
  generalize (w.alloc (.cells #[.int .u8 (a.toNat : Int), .int .u8 (b.toNat : Int), .int .u8 (c.toNat : Int), .int .u8 (d.toNat : Int), .int .u8 (e.toNat : Int), .int .u8 (f.toNat : Int)] 23)) = W at *
  have HCELL : Hid (∀ k x, [a, b, c, d, e, f][k]? = some x → W.cell? ⟨w.heap.size, k, none⟩ = some (.int .u8 (x.toNat : Int))) := fun k x hx => by
    have hk := (List.getElem?_eq_some_iff.1 hx).1
    simp only [List.length_cons, List.length_nil] at hk
    rw [hR.cell k]
    rcases (show k = 0 ∨ k = 1 ∨ k = 2 ∨ k = 3 ∨ k = 4 ∨ k = 5 by omega) with rfl | rfl | rfl | rfl | rfl | rfl
    all_goals
      obtain rfl := Option.some.inj hx
      rfl
  clear hR
  obtain ⟨m, hm⟩ : ∃ m : List UInt8, m = [a, b, c, d, e, f] := ⟨_, rfl⟩
  have HSTEP : Hid (∀ k x, k < 6 → m[k]? = some x → Oct.trail m (k + 1) = Oct.trail m k ++ [Oct.hexd (x.toNat / 16)] ++ [Oct.hexd (x.toNat % 16)] ++ (if k < 5 then [58] else [])) := fun k x hk hx => by
    rw [hm] at hx ⊢
    exact Oct.trail_step hk hx
  rw [← hm] at HCELL
  have hml : m.length = 6 := by rw [hm]; rfl
  have HML := Lib.hid hml
  clear hml
  have HM := Lib.hid hm
  clear hm
  go_wp2_with fail
  go_loopw [4, 5, 6, 7] (fun s4 s5 _ _ wr => ∃ (k : Nat) (t : ByteArray), k ≤ 6 ∧ s5 = .int .i64 k ∧ s4 = .string t ∧ Hid (t.data.toList = Oct.trail m k) ∧ Hid (Below W.heap.size W wr)) (fun _ s5 _ _ _ => 6 - (intOf s5).toNat)
  case atStart => exact ⟨0, _, Nat.zero_le _, rfl, rfl, Lib.hid rfl, Lib.hid (Below.refl _ _)⟩
  case round =>
    rename_i wr
    obtain ⟨k, t, hk, rfl, rfl, HT, HBR⟩ := hrel
    by_cases hlt : k < 6
    · obtain ⟨x, hx⟩ : ∃ x, m[k]? = some x := ⟨_, List.getElem?_eq_getElem (by rw [HML.out]; exact hlt)⟩
      have HX := Lib.hid hx
      have hts : t.size ≤ 18 := by
        have := Oct.trail_len HML.out k hk
        rw [← HT.out] at this
        simpa using this
      have c0 : wr.cell? ⟨w.heap.size, k, none⟩ = some (.int .u8 (x.toNat : Int)) := by
        have h := HCELL.out k x hx
        rw [← h]
        exact HBR.out.cell (p := ⟨w.heap.size, k, none⟩) (block_lt_of_cell h)
      have k0 := cell_regrown c0
      clear hx c0
      have hx256 := x.toNat_lt
      have hw1 : IntKind.i64.wrap (x.toNat : Int) = (x.toNat : Int) := by rw [IntKind.wrap_i64]; omega
      obtain ⟨hi, ehi⟩ : ∃ hi, hi = x.toNat / 16 := ⟨_, rfl⟩
      obtain ⟨lo, elo⟩ : ∃ lo, lo = x.toNat % 16 := ⟨_, rfl⟩
      have hw2 : IntKind.i64.wrap ((x.toNat : Int) / 16) = (hi : Int) := by rw [IntKind.wrap_i64]; omega
      have hw3 : ((x.toNat : Int)).tmod 16 = (lo : Int) := by rw [Int.tmod_eq_emod_of_nonneg (by omega)]; omega
      have hi16 : hi < 16 := by omega
      have lo16 : lo < 16 := by omega
      have STEP := HSTEP.out k x hlt HX.out
      rw [← ehi, ← elo] at STEP
      have STEP := Lib.hid STEP
      clear ehi elo
      go_upto_region 6 with fail
      refine wp_region_quiet_below (by kernel_rfl) (by kernel_rfl) ?_
      repeat (quiet_step (fail))
      refine wpQuiet_nil ?_
      intro _ hw'
      obtain ⟨⟨dq, osq⟩, hw''⟩ := hw'
      subst hw''
      have b3 := below_regrown wr dq osq
      generalize grow (redrawn wr dq) osq = W3 at *
      have HBR := Lib.hid (HBR.out.trans (b3.mono HBR.out.size))
      clear b3 k0 hw1 hw2 hw3
      have hw4 : IntKind.i64.wrap ((hi : Int) + 1) = (hi : Int) + 1 := by rw [IntKind.wrap_i64]; omega
      have hw5 : IntKind.i64.wrap ((lo : Int) + 1) = (lo : Int) + 1 := by rw [IntKind.wrap_i64]; omega
      have cut : ∀ n : Nat, n < 16 → ∀ w, (Instr.slice 9 (.string ⟨#[48, 49, 50, 51, 52, 53, 54, 55, 56, 57, 97, 98, 99, 100, 101, 102]⟩) (some (.int .i64 (n : Int))) (some (.int .i64 ((n : Int) + 1))) none).run Tryd.prog w = .ok (.string ⟨#[Oct.hexd n]⟩) w := fun n hn w => by
        have h := run_slice_string (P := Tryd.prog) (w := w) 9 ⟨#[48, 49, 50, 51, 52, 53, 54, 55, 56, 57, 97, 98, 99, 100, 101, 102]⟩ .i64 .i64 (n : Int) ((n : Int) + 1) Tryd.underlying9 (by omega) (by omega) (by show (n : Int) + 1 ≤ 16; omega)
        have e := Oct.digit_cut n hn
        simpa [e] using h
      have hs1 := cut hi hi16
      have hs2 := cut lo lo16
      clear cut
      obtain ⟨u1, hu1⟩ : ∃ u1 : ByteArray, u1 = ⟨#[Oct.hexd hi]⟩ := ⟨_, rfl⟩
      obtain ⟨u2, hu2⟩ : ∃ u2 : ByteArray, u2 = ⟨#[Oct.hexd lo]⟩ := ⟨_, rfl⟩
      rw [← hu1] at hs1
      rw [← hu2] at hs2
      have z1 : u1.size = 1 := by rw [hu1]; rfl
      have z2 : u2.size = 1 := by rw [hu2]; rfl
      have y1 : ¬ 9223372036854775807 < t.size + u1.size := by omega
      have y2 : ¬ 9223372036854775807 < t.size + u1.size + u2.size := by omega
      have y3 : ¬ 9223372036854775807 < t.size + u1.size + u2.size + 1 := by omega
      have HU : Hid ((t ++ u1 ++ u2).data.toList ++ (if k < 5 then [58] else []) = Oct.trail m (k + 1)) := by
        show _ = _
        rw [STEP.out, ← HT.out, hu1, hu2]
        simp [ByteArray.data_append]
      clear z1 z2 hu1 hu2 STEP hts
      go_upto_region 7 with fail
      refine wp_region_quiet_below (by kernel_rfl) (by kernel_rfl) ?_
      repeat (quiet_step (fail))
      refine wpQuiet_nil ?_
      intro _ hw'
      obtain ⟨⟨dq2, osq2⟩, hw''⟩ := hw'
      subst hw''
      have b4 := below_regrown W3 dq2 osq2
      generalize grow (redrawn W3 dq2) osq2 = W4 at *
      have HBR := Lib.hid (HBR.out.trans (b4.mono HBR.out.size))
      clear b4 hw4 hw5 hs1 hs2 y1 y2
      by_cases h5 : k < 5
      · have d5 : decide ((k : Int) < 5) = true := decide_eq_true (by omega)
        rw [if_pos h5] at HU
        go_wp2_with fail
        refine ⟨⟨k + 1, _, by omega, by go_num, rfl, ?_, HBR⟩, by simp [intOf]; omega⟩
        show _ = _
        rw [← HU.out]
        simp [ByteArray.data_append]
      · have d5 : decide ((k : Int) < 5) = false := decide_eq_false (by omega)
        rw [if_neg h5, List.append_nil] at HU
        go_wp2_with fail
        exact ⟨⟨k + 1, _, by omega, by go_num, rfl, HU, HBR⟩, by simp [intOf]; omega⟩
    · obtain rfl : k = 6 := by omega
      go_wp2_with fail
      go_ret
      refine ⟨?_, hbW.trans (HBR.out.mono hbW.size)⟩
      have e : t = ⟨(Oct.macText [a, b, c, d, e, f]).toArray⟩ := by
        apply ByteArray.ext
        apply Array.toList_inj.1
        rw [HT.out, HM.out]
        rfl
      rw [e]
      rfl
end Go.Proofs.YtknnadnjikfibaaDoor
