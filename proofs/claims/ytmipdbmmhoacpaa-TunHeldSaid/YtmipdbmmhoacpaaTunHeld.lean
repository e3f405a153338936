/- The walk of TunHeld. By an AI agent. -/
import Derived.Test.YtmipdbmmhoacpaaTunPieces
namespace Go.Proofs.Ytmipdbmmhoacpaa
open Go.RowKit Go.Sort Grow

namespace Tun
/-- texts of which the first piece came -/
def firsts (s : ByteArray) (ns : List Nat) : List Ab := ns.map fun n => (n, count s.size, [0].map (partKV s))
/-- the numbers that are kept behind i texts -/
def lastOf (i : Nat) : List Nat := (List.range i).drop (i - 8)
theorem lastOf_length (i : Nat) : (lastOf i).length = min i 8 := by
  unfold lastOf
  rw [List.length_drop, List.length_range]
  omega
theorem mem_lastOf {i n : Nat} : n ∈ lastOf i ↔ i - 8 ≤ n ∧ n < i := by
  unfold lastOf
  rw [List.mem_drop_iff_getElem]
  constructor
  · rintro ⟨j, hj, e⟩
    rw [List.length_range] at hj
    rw [List.getElem_range] at e
    omega
  · rintro ⟨h1, h2⟩
    exact ⟨n - (i - 8), by rw [List.length_range]; omega, by rw [List.getElem_range]; omega⟩
theorem lastOf_succ (i : Nat) : lastOf (i + 1) = (if (lastOf i).length = 8 then (lastOf i).tail else lastOf i) ++ [i] := by
  rw [lastOf_length]
  unfold lastOf
  rw [List.range_succ, List.drop_append_of_le_length (by rw [List.length_range]; omega)]
  congr 1
  split
  · rw [List.tail_drop]
    congr 1
    omega
  · congr 1
    omega

/-- the numbers behind another text's first piece -/
def onto (ns : List Nat) (n : Nat) : List Nat := if n ∈ ns then ns else (if ns.length = 8 then ns.tail else ns) ++ [n]
theorem firsts_length (s : ByteArray) (ns : List Nat) : (firsts s ns).length = ns.length := by simp [firsts]

section
variable (B J n : Nat) (s : ByteArray) (ns : List Nat) (w : World) (hB : B ≤ w.heap.size) (hn : n < 4294967296) (h2 : s.size ≤ 1536) (hc : 2 ≤ count s.size) (h8 : ns.length ≤ 8) (h : JIs B J w (firsts s ns))
include hB hn h2 hc h8 h

theorem first_new (hm : n ∉ ns) :
    Calls Try.prog 17 #[.pointer (some ⟨J, 0, none⟩), .string (piece n (count s.size) s 0)] w fun e w' => e = .returned (.tuple #[.string ⟨#[]⟩, .bool false, .int .i64 0]) ∧ JIs B J w' (firsts s (onto ns n)) ∧ Below B w w' ∧ Others w w' := by
  have ho : openA (firsts s ns) n (count s.size) = firsts s (if ns.length = 8 then ns.tail else ns) ++ (n, count s.size, ([] : List Nat).map (partKV s)) :: [] := by
    unfold openA
    rw [if_neg (by
      unfold firsts
      rw [List.map_map]
      intro hx
      obtain ⟨u, hu, e⟩ := List.mem_map.1 hx
      have e : u = n := e
      subst e
      exact hm hu), firsts_length]
    split <;> simp [firsts]
  have H := take_place B J n 0 s [] (firsts s (if ns.length = 8 then ns.tail else ns)) [] (firsts s ns) w h (by rw [firsts_length]; exact h8) hB hn h2 (by omega) (by simp) (by simp) (by simp) ho (show 0 + 1 < _ by omega)
  have e : firsts s (onto ns n) = firsts s (if ns.length = 8 then ns.tail else ns) ++ (n, count s.size, (([] : List Nat) ++ [0]).map (partKV s)) :: [] := by
    unfold onto
    rw [if_neg hm]
    simp [firsts]
  rw [e]
  exact H

theorem first_again (hm : n ∈ ns) :
    Calls Try.prog 17 #[.pointer (some ⟨J, 0, none⟩), .string (piece n (count s.size) s 0)] w fun e w' => e = .returned (.tuple #[.string ⟨#[]⟩, .bool false, .int .i64 10]) ∧ JIs B J w' (firsts s (onto ns n)) ∧ Below B w w' ∧ Others w w' := by
  obtain ⟨n1, n2, rfl⟩ := List.append_of_mem hm
  have e : firsts s (n1 ++ n :: n2) = firsts s n1 ++ (n, count s.size, [0].map (partKV s)) :: firsts s n2 := by simp [firsts]
  have ho : openA (firsts s (n1 ++ n :: n2)) n (count s.size) = firsts s n1 ++ (n, count s.size, [0].map (partKV s)) :: firsts s n2 := by
    unfold openA
    rw [if_pos (by
      unfold firsts
      rw [List.map_map]
      exact List.mem_map.2 ⟨n, hm, rfl⟩), e]
  have H := take_place_twice B J n 0 s [0] (firsts s n1) (firsts s n2) _ w h (by rw [firsts_length]; exact h8) hB hn h2 (by omega) (by simp) (by simp) ho
  have e2 : firsts s (onto (n1 ++ n :: n2) n) = firsts s n1 ++ (n, count s.size, [0].map (partKV s)) :: firsts s n2 := by
    unfold onto
    rw [if_pos hm]
    exact e
  rw [e2]
  exact H
end
theorem onto_length {ns : List Nat} {n : Nat} (h8 : ns.length ≤ 8) : (onto ns n).length ≤ 8 := by
  unfold onto
  split
  · exact h8
  · split <;> simp <;> omega
end Tun

set_option maxRecDepth 20000 in
set_option maxHeartbeats 4000000 in
theorem tunHeld_go (n : Nat) (s : ByteArray) (w : World) (h1 : 512 < s.size) (h2 : s.size ≤ 1536) (hn : n < 256) :
    Calls Try.prog 7 #[.int .u8 n, .string s] w fun e w' => e = .returned (.bool true) ∧ Below w.heap.size w w' := by
  have HC := Lib.hid (fun (i : Nat) (w : World) (hi : i < 20) => cut_any i s w (by omega) (by omega) h2)
  have hc1 : 2 ≤ Tun.count s.size := by unfold Tun.count; omega
  have hc3 : Tun.count s.size ≤ 3 := by unfold Tun.count; omega
  have HNEW := Lib.hid (fun (B J i : Nat) (ns : List Nat) (w' : World) (hB : B ≤ w'.heap.size) (hi : i < 20) (h8 : ns.length ≤ 8) (h : JIs B J w' (Tun.firsts s ns)) (hm : i ∉ ns) => Tun.first_new B J i s ns w' hB (by omega) h2 hc1 h8 h hm)
  have HOLD := Lib.hid (fun (B J i : Nat) (ns : List Nat) (w' : World) (hB : B ≤ w'.heap.size) (hi : i < 20) (h8 : ns.length ≤ 8) (h : JIs B J w' (Tun.firsts s ns)) (hm : i ∈ ns) => Tun.first_again B J i s ns w' hB (by omega) h2 hc1 h8 h hm)
  have HPS : Hid (∀ i w' ao, Strs.At w' ao (Tun.pieces i s) → ∃ b off, ao = some ⟨b, off, none⟩ ∧ b < w'.heap.size ∧ w'.cell? ⟨b, off, none⟩ = some (.string (Tun.piece i (Tun.count s.size) s 0))) := fun i w' ao h => by
    obtain ⟨b, off, e, h1, h2⟩ := Tun.pieces_at h (by omega)
    exact ⟨b, off, e, h1, h2 0 (by omega)⟩
  have HLEN := Lib.hid (Tun.firsts_length s)
  generalize Tun.count s.size = c at *
  have g1 : ((s.size : Int) ≤ 512) = False := by simp; omega
  have g2 : ((s.size : Int) > 1536) = False := by simp; omega
  go_enter Try.func7, Try.ntmps7
  go_wp2_with fail
  refine (awake_any _).mono ?_
  rintro e w1 ⟨rfl, hb1⟩
  go_upto_region 4 with fail
  clear g1 g2 h1 h2
  have hJ0 := joinIs_new w1 w1.heap.size (Nat.le_refl _)
  have HJ0 : Hid (JIs w1.heap.size w1.heap.size (w1.alloc (.cells #[.slice none 0 0, .map none] 48)) []) := ⟨[], hJ0, rfl⟩
  have hb3 : Below w1.heap.size w1 (w1.alloc (.cells #[.slice none 0 0, .map none] 48)) := (Below.refl _ _).alloc (Nat.le_refl _) _
  clear hJ0
  generalize (w1.alloc (.cells #[.slice none 0 0, .map none] 48)) = w3 at *
  generalize hB : w1.heap.size = B at *
  go_upto_region 5 with fail
  have hm : ((n : Int) % 20) = ((n % 20 : Nat) : Int) := by simp
  rw [hm]
  clear hm
  have hm20 : n % 20 < 20 := Nat.mod_lt _ (by omega)
  generalize n % 20 = m at *
  clear hn
  go_wp2_with fail
  go_loopw [7] (fun i wr => ∃ k : Nat, k ≤ m ∧ i = .int .i64 k ∧ Hid (JIs B B wr (Tun.firsts s (Tun.lastOf k))) ∧ Below B w1 wr) (fun i _ => m - (intOf i).toNat)
  case atStart => exact ⟨0, Nat.zero_le _, rfl, HJ0.out, hb3⟩
  case round =>
    rename_i wr
    obtain ⟨k, hk, rfl, HJ, hbr⟩ := hrel
    have hBr : B ≤ wr.heap.size := by rw [← hB]; exact hbr.size
    by_cases hlt : k < m
    · go_upto_region 8 with fail
      have HC' := Lib.hid (HC.out k wr (by omega))
      go_wp2_with fail
      refine HC'.out.mono ?_
      rintro e w4 ⟨ao, cap, rfl, hat, hb4⟩
      obtain ⟨ab, off, rfl, habl, c0⟩ := HPS.out k w4 ao hat
      have hbr4 := hbr.trans (hb4.mono (by rw [← hB]; exact hbr.size))
      have hBr4 := Nat.le_trans hBr hb4.size
      have HJ4 : Hid (JIs B B w4 (Tun.firsts s (Tun.lastOf k))) := HJ.out.later hb4
      have g1 : ((c : Int) < 2) = False := by simp; omega
      have h8 := Lib.hid (show (Tun.lastOf k).length ≤ 8 by rw [Tun.lastOf_length]; omega)
      have HT := Lib.hid (HNEW.out B B k (Tun.lastOf k) w4 hBr4 (by omega) h8.out HJ4.out (by rw [Tun.mem_lastOf]; omega))
      rw [show Tun.onto (Tun.lastOf k) k = Tun.lastOf (k + 1) by
        rw [Tun.lastOf_succ, Tun.onto, if_neg (by rw [Tun.mem_lastOf]; omega)]] at HT
      clear hat hb4 HC' HJ4 HJ h8
      go_wp2_with fail
      refine HT.out.mono ?_
      rintro e w5 ⟨rfl, hj5, hb5, ho5⟩
      have HJ5 := Lib.hid hj5
      have hbr5 := hbr4.trans hb5
      have HH : Hid (∀ (Q : Ending → World → Prop), Q (.returned (.int .i64 (min (k + 1) 8 : Nat))) w5 → Calls Try.prog 18 #[.pointer (some ⟨B, 0, none⟩)] w5 Q) := fun Q hq => by
        refine (held_any B B _ w5 HJ5.out).mono ?_
        rintro e w' ⟨rfl, rfl⟩
        rw [HLEN.out, Tun.lastOf_length]
        exact hq
      clear hj5 hb5 ho5 c0 HT hbr4
      go_wp2_with fail
      refine HH.out _ ?_
      go_wp2_with fail
      refine ⟨⟨k + 1, by omega, by go_num, HJ5, hbr5⟩, by simp [intOf]; omega⟩
    · obtain rfl : k = m := by omega
      have HNS : Hid (JIs B B wr (Tun.firsts s (Tun.lastOf k))) := HJ
      clear HJ
      have HL8 : Hid ((Tun.lastOf k).length ≤ 8) := by
        show _ ≤ _
        rw [Tun.lastOf_length]
        omega
      go_upto_region 16 with fail
      go_wp2_with fail
      go_loopw [13] (fun j wr => ∃ (i : Nat) (ns : List Nat), i ≤ k ∧ j = .int .i64 i ∧ Hid (JIs B B wr (Tun.firsts s ns)) ∧ Hid (ns.length ≤ 8) ∧ (k ≤ 8 → ns = Tun.lastOf k) ∧ (i = 0 → ns = Tun.lastOf k) ∧ Below B w1 wr) (fun j _ => k - (intOf j).toNat)
      case atStart => exact ⟨0, Tun.lastOf k, Nat.zero_le _, rfl, HNS, HL8, fun _ => rfl, fun _ => rfl, hbr⟩
      case round =>
        clear hbr HNS hBr HL8
        rename_i wr
        obtain ⟨i, ns, hik, rfl, HJ, H8, hns8, hns0, hbr⟩ := hrel
        have hBr : B ≤ wr.heap.size := by rw [← hB]; exact hbr.size
        by_cases hlt : i < k
        · by_cases hk8 : k ≤ 8
          · have hin : i ∈ ns := by rw [hns8 hk8, Tun.mem_lastOf]; omega
            have HSTEP : Hid (k ≤ 8 → Tun.onto ns i = Tun.lastOf k) := fun _ => by unfold Tun.onto; rw [if_pos hin, hns8 hk8]
            clear hns8 hns0
            go_upto_region 19 with fail
            have HC' := Lib.hid (HC.out i wr (by omega))
            go_wp2_with fail
            refine HC'.out.mono ?_
            rintro e w4 ⟨ao, cap, rfl, hat, hb4⟩
            obtain ⟨ab, off, rfl, habl, c0⟩ := HPS.out i w4 ao hat
            have hbr4 := hbr.trans (hb4.mono (by rw [← hB]; exact hbr.size))
            have hBr4 := Nat.le_trans hBr hb4.size
            have HJ4 : Hid (JIs B B w4 (Tun.firsts s ns)) := HJ.out.later hb4
            have HT : Hid (Calls Try.prog 17 #[.pointer (some ⟨B, 0, none⟩), .string (Tun.piece i c s 0)] w4 fun e w' => e = .returned (.tuple #[.string ⟨#[]⟩, .bool false, .int .i64 10]) ∧ JIs B B w' (Tun.firsts s (Tun.onto ns i)) ∧ Below B w4 w' ∧ Others w4 w') := HOLD.out B B i ns w4 hBr4 (by omega) H8.out HJ4.out hin
            clear hat hb4 HC' HJ4 HJ hin
            go_wp2_with fail
            refine HT.out.mono ?_
            rintro e w5 ⟨rfl, hj5, hb5, ho5⟩
            have HJ5 := Lib.hid hj5
            have hbr5 := hbr4.trans hb5
            clear hj5 hb5 ho5 c0 HT hbr4

            go_wp2_with fail
            refine ⟨⟨i + 1, Tun.onto ns i, by omega, by go_num, HJ5, Lib.hid (Tun.onto_length H8.out), HSTEP.out, fun h => by omega, hbr5⟩, by simp [intOf]; omega⟩
          · by_cases hi0 : i = 0
            · subst hi0
              have hin : 0 ∉ ns := by rw [hns0 rfl, Tun.mem_lastOf]; omega
              have HSTEP : Hid (k ≤ 8 → Tun.onto ns 0 = Tun.lastOf k) := fun h => absurd h hk8
              clear hns8 hns0
              go_upto_region 19 with fail
              have HC' := Lib.hid (HC.out 0 wr (by omega))
              go_wp2_with fail
              refine HC'.out.mono ?_
              rintro e w4 ⟨ao, cap, rfl, hat, hb4⟩
              obtain ⟨ab, off, rfl, habl, c0⟩ := HPS.out 0 w4 ao hat
              have hbr4 := hbr.trans (hb4.mono (by rw [← hB]; exact hbr.size))
              have hBr4 := Nat.le_trans hBr hb4.size
              have HJ4 : Hid (JIs B B w4 (Tun.firsts s ns)) := HJ.out.later hb4
              have HT : Hid (Calls Try.prog 17 #[.pointer (some ⟨B, 0, none⟩), .string (Tun.piece 0 c s 0)] w4 fun e w' => e = .returned (.tuple #[.string ⟨#[]⟩, .bool false, .int .i64 0]) ∧ JIs B B w' (Tun.firsts s (Tun.onto ns 0)) ∧ Below B w4 w' ∧ Others w4 w') := HNEW.out B B 0 ns w4 hBr4 (by omega) H8.out HJ4.out hin
              clear hat hb4 HC' HJ4 HJ hin
              go_wp2_with fail
              refine HT.out.mono ?_
              rintro e w5 ⟨rfl, hj5, hb5, ho5⟩
              have HJ5 := Lib.hid hj5
              have hbr5 := hbr4.trans hb5
              clear hj5 hb5 ho5 c0 HT hbr4
              go_wp2_with fail
              refine ⟨⟨0 + 1, Tun.onto ns 0, by omega, by go_num, HJ5, Lib.hid (Tun.onto_length H8.out), HSTEP.out, fun h => by omega, hbr5⟩, by simp [intOf]; omega⟩
            · by_cases hin : i ∈ ns
              · have HSTEP : Hid (k ≤ 8 → Tun.onto ns i = Tun.lastOf k) := fun h => absurd h hk8
                clear hns8 hns0
                go_upto_region 19 with fail
                have HC' := Lib.hid (HC.out i wr (by omega))
                go_wp2_with fail
                refine HC'.out.mono ?_
                rintro e w4 ⟨ao, cap, rfl, hat, hb4⟩
                obtain ⟨ab, off, rfl, habl, c0⟩ := HPS.out i w4 ao hat
                have hbr4 := hbr.trans (hb4.mono (by rw [← hB]; exact hbr.size))
                have hBr4 := Nat.le_trans hBr hb4.size
                have HJ4 : Hid (JIs B B w4 (Tun.firsts s ns)) := HJ.out.later hb4
                have HT : Hid (Calls Try.prog 17 #[.pointer (some ⟨B, 0, none⟩), .string (Tun.piece i c s 0)] w4 fun e w' => e = .returned (.tuple #[.string ⟨#[]⟩, .bool false, .int .i64 10]) ∧ JIs B B w' (Tun.firsts s (Tun.onto ns i)) ∧ Below B w4 w' ∧ Others w4 w') := HOLD.out B B i ns w4 hBr4 (by omega) H8.out HJ4.out hin
                clear hat hb4 HC' HJ4 HJ hin
                go_wp2_with fail
                refine HT.out.mono ?_
                rintro e w5 ⟨rfl, hj5, hb5, ho5⟩
                have HJ5 := Lib.hid hj5
                have hbr5 := hbr4.trans hb5
                clear hj5 hb5 ho5 c0 HT hbr4
                rcases Nat.lt_or_ge i (k - 8) with hge | hge
                all_goals
                  go_wp2_with fail
                  refine ⟨⟨i + 1, Tun.onto ns i, by omega, by go_num, HJ5, Lib.hid (Tun.onto_length H8.out), HSTEP.out, fun h => by omega, hbr5⟩, by simp [intOf]; omega⟩
              · have HSTEP : Hid (k ≤ 8 → Tun.onto ns i = Tun.lastOf k) := fun h => absurd h hk8
                clear hns8 hns0
                go_upto_region 19 with fail
                have HC' := Lib.hid (HC.out i wr (by omega))
                go_wp2_with fail
                refine HC'.out.mono ?_
                rintro e w4 ⟨ao, cap, rfl, hat, hb4⟩
                obtain ⟨ab, off, rfl, habl, c0⟩ := HPS.out i w4 ao hat
                have hbr4 := hbr.trans (hb4.mono (by rw [← hB]; exact hbr.size))
                have hBr4 := Nat.le_trans hBr hb4.size
                have HJ4 : Hid (JIs B B w4 (Tun.firsts s ns)) := HJ.out.later hb4
                have HT : Hid (Calls Try.prog 17 #[.pointer (some ⟨B, 0, none⟩), .string (Tun.piece i c s 0)] w4 fun e w' => e = .returned (.tuple #[.string ⟨#[]⟩, .bool false, .int .i64 0]) ∧ JIs B B w' (Tun.firsts s (Tun.onto ns i)) ∧ Below B w4 w' ∧ Others w4 w') := HNEW.out B B i ns w4 hBr4 (by omega) H8.out HJ4.out hin
                clear hat hb4 HC' HJ4 HJ hin
                go_wp2_with fail
                refine HT.out.mono ?_
                rintro e w5 ⟨rfl, hj5, hb5, ho5⟩
                have HJ5 := Lib.hid hj5
                have hbr5 := hbr4.trans hb5
                clear hj5 hb5 ho5 c0 HT hbr4
                rcases Nat.lt_or_ge i (k - 8) with hge | hge
                all_goals
                  go_wp2_with fail
                  refine ⟨⟨i + 1, Tun.onto ns i, by omega, by go_num, HJ5, Lib.hid (Tun.onto_length H8.out), HSTEP.out, fun h => by omega, hbr5⟩, by simp [intOf]; omega⟩
        · go_wp2_with fail
          go_ret
          exact ⟨rfl, hb1.trans (hbr.mono (by rw [← hB]; exact hb1.size))⟩

set_option maxHeartbeats 1000000 in
theorem tunHeld_walk (n : Int) (hn : (Lit.int .u8 n).wf = true) (s : ByteArray) (w : World) :
    Calls Try.prog 7 #[.int .u8 n, .string s] w fun e w' => e = .returned (.bool true) ∧ Below w.heap.size w w' := by
  simp only [Lit.wf, Bool.and_eq_true, decide_eq_true_eq] at hn
  have hn : 0 ≤ n ∧ n ≤ 255 := hn
  obtain ⟨n, rfl⟩ := Int.eq_ofNat_of_zero_le hn.1
  by_cases h : 512 < s.size ∧ s.size ≤ 1536
  · exact tunHeld_go n s w h.1 h.2 (by omega)
  · clear hn
    by_cases h1 : s.size ≤ 512
    · go_enter Try.func7, Try.ntmps7
      go_wp2_with fail
      refine (awake_any _).mono ?_
      rintro e w1 ⟨rfl, hb⟩
      go_wp2_with fail
      refine (awake_any _).mono ?_
      rintro e w2 ⟨rfl, hb2⟩
      have hbW := hb.trans (hb2.mono hb.size)
      clear hb hb2
      go_wp2_with fail
      go_ret
      exact ⟨rfl, hbW⟩
    · have h2 : 1536 < s.size := by omega
      go_enter Try.func7, Try.ntmps7
      go_wp2_with fail
      refine (awake_any _).mono ?_
      rintro e w1 ⟨rfl, hb⟩
      go_wp2_with fail
      refine (awake_any _).mono ?_
      rintro e w2 ⟨rfl, hb2⟩
      have hbW := hb.trans (hb2.mono hb.size)
      clear hb hb2
      go_wp2_with fail
      go_ret
      exact ⟨rfl, hbW⟩
end Go.Proofs.Ytmipdbmmhoacpaa
