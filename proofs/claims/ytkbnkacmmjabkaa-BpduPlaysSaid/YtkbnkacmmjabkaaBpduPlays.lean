/- The walk of BpduPlays. By an AI agent. -/
import Derived.Test.YtkbnkacmmjabkaaBpduRefParse
import Derived.Test.YtkbnkacmmjabkaaBpduRefPrint
import Derived.Test.YtkbnkacmmjabkaaRefLess
import Derived.Test.YtkbnkacmmjabkaaBpduUnlike
import Derived.Test.YtkbnkacmmjabkaaBpduOnly
namespace Go.Proofs.Ytkbnkacmmjabkaa
open Go.RowKit Go.Sort Grow

theorem info_mac : (Try.prog.info? 47).map (·.size) = some 6 := by kernel_rfl

theorem to_any (w : World) : Calls Try.prog 18 #[] w fun e w' => e = .returned (.agg #[.int .u8 1, .int .u8 128, .int .u8 194, .int .u8 0, .int .u8 0, .int .u8 0]) ∧ Below w.heap.size w w' := by
  go_enter Try.func18, Try.ntmps18
  go_wp2_with ((with_reducible refine at_store 47 (.tmp 0) (.tmp 1) ?_); refine wpList_store_own rfl 47 (.tmp 0) (.tmp 1) rfl w.heap.size _ rfl rfl _ _ (rowIs_new w _ _) info_mac rfl (by kernel_rfl) w.heap.size (Nat.le_refl _) ?_)
  intro w1 r1 _ _ hb1
  have R1 := Lib.hid r1
  clear r1
  go_wp2_with fail
  refine bodyPost_ret (results_row Try.results18 _ _ w.heap.size _ _ _ rfl R1.out Try.underlying47 rfl info_mac) rfl ?_
  exact ⟨rfl, ((Below.refl _ _).alloc (Nat.le_refl _) _).trans hb1⟩

def Bpdu.Parses (s : ByteArray) (r b : Nat → UInt8) (co po ag ma he de : Int) (ch ak : Bool) (no : Bool) (e : Int) : Prop :=
  (∀ w, Calls Try.prog 10 #[.string s] w fun x w' => x = .returned (.tuple #[.agg #[.int .u8 ((r 0).toNat : Int), .int .u8 ((r 1).toNat : Int), .int .u8 ((r 2).toNat : Int), .int .u8 ((r 3).toNat : Int), .int .u8 ((r 4).toNat : Int), .int .u8 ((r 5).toNat : Int), .int .u8 ((r 6).toNat : Int), .int .u8 ((r 7).toNat : Int), .int .u8 ((b 0).toNat : Int), .int .u8 ((b 1).toNat : Int), .int .u8 ((b 2).toNat : Int), .int .u8 ((b 3).toNat : Int), .int .u8 ((b 4).toNat : Int), .int .u8 ((b 5).toNat : Int), .int .u8 ((b 6).toNat : Int), .int .u8 ((b 7).toNat : Int), .int .i64 co, .int .i64 po, .int .i64 ag, .int .i64 ma, .int .i64 he, .int .i64 de, .bool ch, .bool ak], .bool no, .int .i64 e]) ∧ Below w.heap.size w w') ∧
  (∀ w, Calls Try.prog 16 #[.string s] w fun x w' => x = .returned (.tuple #[.agg #[.int .u8 ((r 0).toNat : Int), .int .u8 ((r 1).toNat : Int), .int .u8 ((r 2).toNat : Int), .int .u8 ((r 3).toNat : Int), .int .u8 ((r 4).toNat : Int), .int .u8 ((r 5).toNat : Int), .int .u8 ((r 6).toNat : Int), .int .u8 ((r 7).toNat : Int), .int .u8 ((b 0).toNat : Int), .int .u8 ((b 1).toNat : Int), .int .u8 ((b 2).toNat : Int), .int .u8 ((b 3).toNat : Int), .int .u8 ((b 4).toNat : Int), .int .u8 ((b 5).toNat : Int), .int .u8 ((b 6).toNat : Int), .int .u8 ((b 7).toNat : Int), .int .i64 co, .int .i64 po, .int .i64 ag, .int .i64 ma, .int .i64 he, .int .i64 de, .bool ch, .bool ak], .bool no, .int .i64 e]) ∧ Below w.heap.size w w')

theorem Bpdu.parse_both (s : ByteArray) : ∃ (r b : Nat → UInt8) (co po ag ma he de : Int) (ch ak : Bool) (no : Bool) (e : Int), Bpdu.Parses s r b co po ag ma he de ch ak no e := by
  by_cases h7 : s.size < 7
  · exact ⟨fun _ => 0, fun _ => 0, 0, 0, 0, 0, 0, 0, false, false, false, 2, fun w => parse_short7 s h7 w, fun w => refParse_short7 s h7 w⟩
  have h7b : 7 ≤ s.size := by omega
  have ex := Bpdu.ext_list s _ rfl 0 7
  by_cases hn : (s.extract 0 7).toList = [66, 66, 3, 0, 0, 0, 128]
  · exact ⟨fun _ => 0, fun _ => 0, 0, 0, 0, 0, 0, 0, false, false, true, 0, fun w => parse_notice s h7b hn w, fun w => refParse_notice s h7b hn w⟩
  have q1 : ((s.extract 0 7).toList == [66, 66, 3, 0, 0, 0, 128]) = false := by simpa using hn
  by_cases hn2 : (s.extract 0 7).toList = [66, 66, 3, 0, 0, 0, 0]
  rotate_left
  · have q2 : ((s.extract 0 7).toList == [66, 66, 3, 0, 0, 0, 0]) = false := by simpa using hn2
    exact ⟨fun _ => 0, fun _ => 0, 0, 0, 0, 0, 0, 0, false, false, false, 3, fun w => parse_other s h7b q1 q2 w, fun w => refParse_other s h7b q1 q2 w⟩
  by_cases h38 : s.size < 38
  · exact ⟨fun _ => 0, fun _ => 0, 0, 0, 0, 0, 0, 0, false, false, false, 2, fun w => parse_short38 s h7b h38 hn2 w, fun w => refParse_short38 s h7b h38 hn2 w⟩
  obtain ⟨x, rest, hs⟩ := Bpdu.split38 s.data.toList (by simp; omega)
  have h7' : [x 0, x 1, x 2, x 3, x 4, x 5, x 6] = [66, 66, 3, 0, 0, 0, 0] := by
    rw [← hn2, Lib.toList_data, ex, hs]
    rfl
  have p1 := fun w => parse_split s x rest hs h7' w
  have p2 := fun w => refParse_split s x rest hs hn2 w
  cases hbad : Bpdu.bad (x 7) (Oct.num [x 30, x 31]) (Oct.num [x 32, x 33])
  · rw [hbad] at p1 p2
    simp only [Bool.false_eq_true, if_false] at p1 p2
    exact ⟨fun i => x (8 + i), fun i => x (20 + i), _, _, _, _, _, _, _, _, false, 0, p1, p2⟩
  · rw [hbad] at p1 p2
    simp only [if_true] at p1 p2
    exact ⟨fun _ => 0, fun _ => 0, 0, 0, 0, 0, 0, 0, false, false, false, 3, p1, p2⟩

theorem eq_to (w : World) : (Op.equalIn 10000 47 (.agg #[.int .u8 1, .int .u8 128, .int .u8 194, .int .u8 0, .int .u8 0, .int .u8 0]) (.agg #[.int .u8 1, .int .u8 128, .int .u8 194, .int .u8 0, .int .u8 0, .int .u8 0])).run Try.prog w = .ok true w := by
  have h := run_equalIn_mac 9998 1 128 194 0 0 0 1 128 194 0 0 0 w
  rw [show eqB [1, 128, 194, 0, 0, 0] [1, 128, 194, 0, 0, 0] = true from eqB_true.2 rfl] at h
  exact h

set_option maxRecDepth 20000 in
set_option maxHeartbeats 8000000 in
theorem bpduPlays_main (s : ByteArray) (r b : Nat → UInt8) (co po ag ma he de : Int) (ch ak : Bool) (w : World) (hs : s.size ≤ 1000) :
    Calls Try.prog 7 #[.string s, .agg #[.int .u8 ((r 0).toNat : Int), .int .u8 ((r 1).toNat : Int), .int .u8 ((r 2).toNat : Int), .int .u8 ((r 3).toNat : Int), .int .u8 ((r 4).toNat : Int), .int .u8 ((r 5).toNat : Int), .int .u8 ((r 6).toNat : Int), .int .u8 ((r 7).toNat : Int), .int .u8 ((b 0).toNat : Int), .int .u8 ((b 1).toNat : Int), .int .u8 ((b 2).toNat : Int), .int .u8 ((b 3).toNat : Int), .int .u8 ((b 4).toNat : Int), .int .u8 ((b 5).toNat : Int), .int .u8 ((b 6).toNat : Int), .int .u8 ((b 7).toNat : Int), .int .i64 co, .int .i64 po, .int .i64 ag, .int .i64 ma, .int .i64 he, .int .i64 de, .bool ch, .bool ak]] w fun e w' => e = .returned (.bool true) ∧ Below w.heap.size w w' := by
  obtain ⟨r', b', co', po', ag', ma', he', de', ch', ak', no, e, P1, P2⟩ := Bpdu.parse_both s
  have PI := Lib.hid fun w => plain_any r' b' co' po' ag' ma' he' de' ch' ak' w
  have OF := Lib.hid fun w => of_any r b co po ag ma he de ch ak w
  have LE := fun w => less_any r b w
  have RL := fun w => refLess_any r b w
  have RR := fun w => refRight_any r b co po ag ma he de ch ak w
  have EW := fun w => run_equalIn_rword 9997 r' b' co' po' ag' ma' he' de' ch' ak' r' b' co' po' ag' ma' he' de' ch' ak' w
  rw [(Bpdu.eqW_iff r' b' co' po' ag' ma' he' de' ch' ak' r' b' co' po' ag' ma' he' de' ch' ak').2 ⟨rfl, rfl, rfl, rfl, rfl, rfl, rfl, rfl, rfl, rfl⟩] at EW
  have EM := eq_to
  generalize Ord.lt [r 0, r 1, r 2, r 3, r 4, r 5, r 6, r 7] [b 0, b 1, b 2, b 3, b 4, b 5, b 6, b 7] = lt at LE RL
  have P1 := Lib.hid P1
  have P2 := Lib.hid P2
  have LE := Lib.hid LE
  have RL := Lib.hid RL
  have EW := Lib.hid EW
  have EM := Lib.hid EM
  have TO := Lib.hid to_any
  have PC : Bpdu.right co po ag ma he de = true ∧ (∃ t : ByteArray, (∀ w, Calls Try.prog 12 #[.agg #[.int .u8 ((r 0).toNat : Int), .int .u8 ((r 1).toNat : Int), .int .u8 ((r 2).toNat : Int), .int .u8 ((r 3).toNat : Int), .int .u8 ((r 4).toNat : Int), .int .u8 ((r 5).toNat : Int), .int .u8 ((r 6).toNat : Int), .int .u8 ((r 7).toNat : Int), .int .u8 ((b 0).toNat : Int), .int .u8 ((b 1).toNat : Int), .int .u8 ((b 2).toNat : Int), .int .u8 ((b 3).toNat : Int), .int .u8 ((b 4).toNat : Int), .int .u8 ((b 5).toNat : Int), .int .u8 ((b 6).toNat : Int), .int .u8 ((b 7).toNat : Int), .int .i64 co, .int .i64 po, .int .i64 ag, .int .i64 ma, .int .i64 he, .int .i64 de, .bool ch, .bool ak]] w fun e w' => e = .returned (.tuple #[.string t, .int .i64 0]) ∧ Below w.heap.size w w') ∧ (∀ w, Calls Try.prog 19 #[.agg #[.int .u8 ((r 0).toNat : Int), .int .u8 ((r 1).toNat : Int), .int .u8 ((r 2).toNat : Int), .int .u8 ((r 3).toNat : Int), .int .u8 ((r 4).toNat : Int), .int .u8 ((r 5).toNat : Int), .int .u8 ((r 6).toNat : Int), .int .u8 ((r 7).toNat : Int), .int .u8 ((b 0).toNat : Int), .int .u8 ((b 1).toNat : Int), .int .u8 ((b 2).toNat : Int), .int .u8 ((b 3).toNat : Int), .int .u8 ((b 4).toNat : Int), .int .u8 ((b 5).toNat : Int), .int .u8 ((b 6).toNat : Int), .int .u8 ((b 7).toNat : Int), .int .i64 co, .int .i64 po, .int .i64 ag, .int .i64 ma, .int .i64 he, .int .i64 de, .bool ch, .bool ak]] w fun e w' => e = .returned (.string t) ∧ Below w.heap.size w w')) ∨ Bpdu.right co po ag ma he de = false ∧ (∀ w, Calls Try.prog 12 #[.agg #[.int .u8 ((r 0).toNat : Int), .int .u8 ((r 1).toNat : Int), .int .u8 ((r 2).toNat : Int), .int .u8 ((r 3).toNat : Int), .int .u8 ((r 4).toNat : Int), .int .u8 ((r 5).toNat : Int), .int .u8 ((r 6).toNat : Int), .int .u8 ((r 7).toNat : Int), .int .u8 ((b 0).toNat : Int), .int .u8 ((b 1).toNat : Int), .int .u8 ((b 2).toNat : Int), .int .u8 ((b 3).toNat : Int), .int .u8 ((b 4).toNat : Int), .int .u8 ((b 5).toNat : Int), .int .u8 ((b 6).toNat : Int), .int .u8 ((b 7).toNat : Int), .int .i64 co, .int .i64 po, .int .i64 ag, .int .i64 ma, .int .i64 he, .int .i64 de, .bool ch, .bool ak]] w fun e w' => e = .returned (.tuple #[.string ⟨#[]⟩, .int .i64 3]) ∧ Below w.heap.size w w') := by
    cases hr : Bpdu.right co po ag ma he de
    · exact .inr ⟨rfl, fun w => print_bad r b co po ag ma he de ch ak w hr⟩
    · obtain ⟨b1, b2, b3, b4, b5, b6, b7, b8, b9, b10, b11, b12, _⟩ := Bpdu.right_bounds hr
      refine .inl ⟨rfl, _, fun w => print_good r b co po ag ma he de ch ak w hr, ?_⟩
      obtain ⟨co, rfl⟩ := Int.eq_ofNat_of_zero_le b1
      obtain ⟨po, rfl⟩ := Int.eq_ofNat_of_zero_le b3
      obtain ⟨ag, rfl⟩ := Int.eq_ofNat_of_zero_le b5
      obtain ⟨ma, rfl⟩ := Int.eq_ofNat_of_zero_le b7
      obtain ⟨he, rfl⟩ := Int.eq_ofNat_of_zero_le b9
      obtain ⟨de, rfl⟩ := Int.eq_ofNat_of_zero_le b11
      exact fun w => refPrint_any r b co po ag ma he de ch ak w (by omega) (by omega) (by omega) (by omega) (by omega) (by omega)
  generalize Bpdu.right co po ag ma he de = right at RR PC
  have RR := Lib.hid RR
  have hpr : ∃ (t : ByteArray) (g : Int), (∀ w, Calls Try.prog 12 #[.agg #[.int .u8 ((r 0).toNat : Int), .int .u8 ((r 1).toNat : Int), .int .u8 ((r 2).toNat : Int), .int .u8 ((r 3).toNat : Int), .int .u8 ((r 4).toNat : Int), .int .u8 ((r 5).toNat : Int), .int .u8 ((r 6).toNat : Int), .int .u8 ((r 7).toNat : Int), .int .u8 ((b 0).toNat : Int), .int .u8 ((b 1).toNat : Int), .int .u8 ((b 2).toNat : Int), .int .u8 ((b 3).toNat : Int), .int .u8 ((b 4).toNat : Int), .int .u8 ((b 5).toNat : Int), .int .u8 ((b 6).toNat : Int), .int .u8 ((b 7).toNat : Int), .int .i64 co, .int .i64 po, .int .i64 ag, .int .i64 ma, .int .i64 he, .int .i64 de, .bool ch, .bool ak]] w fun e w' => e = .returned (.tuple #[.string t, .int .i64 g]) ∧ Below w.heap.size w w') ∧ (right = true ∧ g = 0 ∧ (∀ w, Calls Try.prog 19 #[.agg #[.int .u8 ((r 0).toNat : Int), .int .u8 ((r 1).toNat : Int), .int .u8 ((r 2).toNat : Int), .int .u8 ((r 3).toNat : Int), .int .u8 ((r 4).toNat : Int), .int .u8 ((r 5).toNat : Int), .int .u8 ((r 6).toNat : Int), .int .u8 ((r 7).toNat : Int), .int .u8 ((b 0).toNat : Int), .int .u8 ((b 1).toNat : Int), .int .u8 ((b 2).toNat : Int), .int .u8 ((b 3).toNat : Int), .int .u8 ((b 4).toNat : Int), .int .u8 ((b 5).toNat : Int), .int .u8 ((b 6).toNat : Int), .int .u8 ((b 7).toNat : Int), .int .i64 co, .int .i64 po, .int .i64 ag, .int .i64 ma, .int .i64 he, .int .i64 de, .bool ch, .bool ak]] w fun e w' => e = .returned (.string t) ∧ Below w.heap.size w w') ∨ right = false ∧ g = 3 ∧ t = ⟨#[]⟩) := by
    rcases PC with ⟨h, t, h1, h2⟩ | ⟨h, h1⟩
    · exact ⟨t, 0, h1, .inl ⟨h, rfl, h2⟩⟩
    · exact ⟨_, 3, h1, .inr ⟨h, rfl, rfl⟩⟩
  clear PC
  obtain ⟨t, g, PR, hend⟩ := hpr
  have PR := Lib.hid PR
  have HE := Lib.hid hend
  clear hend
  go_enter Try.func7, Try.ntmps7
  go_wp2_with fail
  refine (awake_any _).mono ?_
  rintro e1 w1 ⟨rfl, hb⟩
  have r1 : Hid (RowIs w1 w.heap.size 28 #[.int .u8 ((r 0).toNat : Int), .int .u8 ((r 1).toNat : Int), .int .u8 ((r 2).toNat : Int), .int .u8 ((r 3).toNat : Int), .int .u8 ((r 4).toNat : Int), .int .u8 ((r 5).toNat : Int), .int .u8 ((r 6).toNat : Int), .int .u8 ((r 7).toNat : Int), .int .u8 ((b 0).toNat : Int), .int .u8 ((b 1).toNat : Int), .int .u8 ((b 2).toNat : Int), .int .u8 ((b 3).toNat : Int), .int .u8 ((b 4).toNat : Int), .int .u8 ((b 5).toNat : Int), .int .u8 ((b 6).toNat : Int), .int .u8 ((b 7).toNat : Int), .int .i64 co, .int .i64 po, .int .i64 ag, .int .i64 ma, .int .i64 he, .int .i64 de, .bool ch, .bool ak]) := (rowIs_new w _ _).kept hb
  have hbW : Below w.heap.size w w1 := ((Below.refl _ _).alloc (Nat.le_refl _) _).trans (hb.mono (by simp))
  clear hb
  go_wp2_with fail
  refine (P1.out _).mono ?_
  rintro e2 w2 ⟨rfl, hb⟩
  have r2 : Hid (RowIs w2 w.heap.size 28 #[.int .u8 ((r 0).toNat : Int), .int .u8 ((r 1).toNat : Int), .int .u8 ((r 2).toNat : Int), .int .u8 ((r 3).toNat : Int), .int .u8 ((r 4).toNat : Int), .int .u8 ((r 5).toNat : Int), .int .u8 ((r 6).toNat : Int), .int .u8 ((r 7).toNat : Int), .int .u8 ((b 0).toNat : Int), .int .u8 ((b 1).toNat : Int), .int .u8 ((b 2).toNat : Int), .int .u8 ((b 3).toNat : Int), .int .u8 ((b 4).toNat : Int), .int .u8 ((b 5).toNat : Int), .int .u8 ((b 6).toNat : Int), .int .u8 ((b 7).toNat : Int), .int .i64 co, .int .i64 po, .int .i64 ag, .int .i64 ma, .int .i64 he, .int .i64 de, .bool ch, .bool ak]) := r1.out.kept hb
  have hbW := hbW.trans (hb.mono hbW.size)
  clear hb
  go_wp2_with ((with_reducible refine at_store 30 (.tmp 5) (.tmp 24) ?_); refine wpList_store_own rfl 30 (.tmp 5) (.tmp 24) rfl w2.heap.size _ rfl rfl _ _ (rowIs_new _ _ _) info_word rfl (by kernel_rfl) w2.heap.size (Nat.le_refl _) ?_)
  intro w3 q3 _ _ hb
  have hb := (show Below w2.heap.size w2 w3 from ((Below.refl _ _).alloc (Nat.le_refl _) _).trans hb)
  have r3 : Hid (RowIs w3 w.heap.size 28 #[.int .u8 ((r 0).toNat : Int), .int .u8 ((r 1).toNat : Int), .int .u8 ((r 2).toNat : Int), .int .u8 ((r 3).toNat : Int), .int .u8 ((r 4).toNat : Int), .int .u8 ((r 5).toNat : Int), .int .u8 ((r 6).toNat : Int), .int .u8 ((r 7).toNat : Int), .int .u8 ((b 0).toNat : Int), .int .u8 ((b 1).toNat : Int), .int .u8 ((b 2).toNat : Int), .int .u8 ((b 3).toNat : Int), .int .u8 ((b 4).toNat : Int), .int .u8 ((b 5).toNat : Int), .int .u8 ((b 6).toNat : Int), .int .u8 ((b 7).toNat : Int), .int .i64 co, .int .i64 po, .int .i64 ag, .int .i64 ma, .int .i64 he, .int .i64 de, .bool ch, .bool ak]) := r2.out.kept hb
  have q3 := Lib.hid q3
  have hbW := hbW.trans (hb.mono hbW.size)
  clear hb
  go_wp2_with fail
  refine (P2.out _).mono ?_
  rintro e4 w4 ⟨rfl, hb⟩
  have r4 : Hid (RowIs w4 w.heap.size 28 #[.int .u8 ((r 0).toNat : Int), .int .u8 ((r 1).toNat : Int), .int .u8 ((r 2).toNat : Int), .int .u8 ((r 3).toNat : Int), .int .u8 ((r 4).toNat : Int), .int .u8 ((r 5).toNat : Int), .int .u8 ((r 6).toNat : Int), .int .u8 ((r 7).toNat : Int), .int .u8 ((b 0).toNat : Int), .int .u8 ((b 1).toNat : Int), .int .u8 ((b 2).toNat : Int), .int .u8 ((b 3).toNat : Int), .int .u8 ((b 4).toNat : Int), .int .u8 ((b 5).toNat : Int), .int .u8 ((b 6).toNat : Int), .int .u8 ((b 7).toNat : Int), .int .i64 co, .int .i64 po, .int .i64 ag, .int .i64 ma, .int .i64 he, .int .i64 de, .bool ch, .bool ak]) := r3.out.kept hb
  have q4 : Hid (RowIs w4 w2.heap.size 30 #[.int .u8 ((r' 0).toNat : Int), .int .u8 ((r' 1).toNat : Int), .int .u8 ((r' 2).toNat : Int), .int .u8 ((r' 3).toNat : Int), .int .u8 ((r' 4).toNat : Int), .int .u8 ((r' 5).toNat : Int), .int .u8 ((r' 6).toNat : Int), .int .u8 ((r' 7).toNat : Int), .int .u8 ((b' 0).toNat : Int), .int .u8 ((b' 1).toNat : Int), .int .u8 ((b' 2).toNat : Int), .int .u8 ((b' 3).toNat : Int), .int .u8 ((b' 4).toNat : Int), .int .u8 ((b' 5).toNat : Int), .int .u8 ((b' 6).toNat : Int), .int .u8 ((b' 7).toNat : Int), .int .i64 co', .int .i64 po', .int .i64 ag', .int .i64 ma', .int .i64 he', .int .i64 de', .bool ch', .bool ak']) := q3.out.kept hb
  have hbW := hbW.trans (hb.mono hbW.size)
  clear hb
  go_wp2_with ((with_reducible refine at_store 28 (.tmp 8) (.tmp 30) ?_); refine wpList_store_own rfl 28 (.tmp 8) (.tmp 30) rfl w4.heap.size _ rfl rfl _ _ (rowIs_new _ _ _) info_rword rfl (by kernel_rfl) w4.heap.size (Nat.le_refl _) ?_)
  intro w5 p5 _ _ hb
  have hb := (show Below w4.heap.size w4 w5 from ((Below.refl _ _).alloc (Nat.le_refl _) _).trans hb)
  have r5 : Hid (RowIs w5 w.heap.size 28 #[.int .u8 ((r 0).toNat : Int), .int .u8 ((r 1).toNat : Int), .int .u8 ((r 2).toNat : Int), .int .u8 ((r 3).toNat : Int), .int .u8 ((r 4).toNat : Int), .int .u8 ((r 5).toNat : Int), .int .u8 ((r 6).toNat : Int), .int .u8 ((r 7).toNat : Int), .int .u8 ((b 0).toNat : Int), .int .u8 ((b 1).toNat : Int), .int .u8 ((b 2).toNat : Int), .int .u8 ((b 3).toNat : Int), .int .u8 ((b 4).toNat : Int), .int .u8 ((b 5).toNat : Int), .int .u8 ((b 6).toNat : Int), .int .u8 ((b 7).toNat : Int), .int .i64 co, .int .i64 po, .int .i64 ag, .int .i64 ma, .int .i64 he, .int .i64 de, .bool ch, .bool ak]) := r4.out.kept hb
  have q5 : Hid (RowIs w5 w2.heap.size 30 #[.int .u8 ((r' 0).toNat : Int), .int .u8 ((r' 1).toNat : Int), .int .u8 ((r' 2).toNat : Int), .int .u8 ((r' 3).toNat : Int), .int .u8 ((r' 4).toNat : Int), .int .u8 ((r' 5).toNat : Int), .int .u8 ((r' 6).toNat : Int), .int .u8 ((r' 7).toNat : Int), .int .u8 ((b' 0).toNat : Int), .int .u8 ((b' 1).toNat : Int), .int .u8 ((b' 2).toNat : Int), .int .u8 ((b' 3).toNat : Int), .int .u8 ((b' 4).toNat : Int), .int .u8 ((b' 5).toNat : Int), .int .u8 ((b' 6).toNat : Int), .int .u8 ((b' 7).toNat : Int), .int .i64 co', .int .i64 po', .int .i64 ag', .int .i64 ma', .int .i64 he', .int .i64 de', .bool ch', .bool ak']) := q4.out.kept hb
  have p5 := Lib.hid p5
  have hbW := hbW.trans (hb.mono hbW.size)
  clear hb
  go_wp2_with ((with_reducible refine at_load 28 (.tmp 3) ?_); refine wpList_load_own rfl 28 (.tmp 3) rfl _ rfl _ _ _ r5.out Try.underlying28 rfl info_rword ?_)
  refine (OF.out _).mono ?_
  rintro e6 w6 ⟨rfl, hb⟩
  have r6 : Hid (RowIs w6 w.heap.size 28 #[.int .u8 ((r 0).toNat : Int), .int .u8 ((r 1).toNat : Int), .int .u8 ((r 2).toNat : Int), .int .u8 ((r 3).toNat : Int), .int .u8 ((r 4).toNat : Int), .int .u8 ((r 5).toNat : Int), .int .u8 ((r 6).toNat : Int), .int .u8 ((r 7).toNat : Int), .int .u8 ((b 0).toNat : Int), .int .u8 ((b 1).toNat : Int), .int .u8 ((b 2).toNat : Int), .int .u8 ((b 3).toNat : Int), .int .u8 ((b 4).toNat : Int), .int .u8 ((b 5).toNat : Int), .int .u8 ((b 6).toNat : Int), .int .u8 ((b 7).toNat : Int), .int .i64 co, .int .i64 po, .int .i64 ag, .int .i64 ma, .int .i64 he, .int .i64 de, .bool ch, .bool ak]) := r5.out.kept hb
  have q6 : Hid (RowIs w6 w2.heap.size 30 #[.int .u8 ((r' 0).toNat : Int), .int .u8 ((r' 1).toNat : Int), .int .u8 ((r' 2).toNat : Int), .int .u8 ((r' 3).toNat : Int), .int .u8 ((r' 4).toNat : Int), .int .u8 ((r' 5).toNat : Int), .int .u8 ((r' 6).toNat : Int), .int .u8 ((r' 7).toNat : Int), .int .u8 ((b' 0).toNat : Int), .int .u8 ((b' 1).toNat : Int), .int .u8 ((b' 2).toNat : Int), .int .u8 ((b' 3).toNat : Int), .int .u8 ((b' 4).toNat : Int), .int .u8 ((b' 5).toNat : Int), .int .u8 ((b' 6).toNat : Int), .int .u8 ((b' 7).toNat : Int), .int .i64 co', .int .i64 po', .int .i64 ag', .int .i64 ma', .int .i64 he', .int .i64 de', .bool ch', .bool ak']) := q5.out.kept hb
  have p6 : Hid (RowIs w6 w4.heap.size 28 #[.int .u8 ((r' 0).toNat : Int), .int .u8 ((r' 1).toNat : Int), .int .u8 ((r' 2).toNat : Int), .int .u8 ((r' 3).toNat : Int), .int .u8 ((r' 4).toNat : Int), .int .u8 ((r' 5).toNat : Int), .int .u8 ((r' 6).toNat : Int), .int .u8 ((r' 7).toNat : Int), .int .u8 ((b' 0).toNat : Int), .int .u8 ((b' 1).toNat : Int), .int .u8 ((b' 2).toNat : Int), .int .u8 ((b' 3).toNat : Int), .int .u8 ((b' 4).toNat : Int), .int .u8 ((b' 5).toNat : Int), .int .u8 ((b' 6).toNat : Int), .int .u8 ((b' 7).toNat : Int), .int .i64 co', .int .i64 po', .int .i64 ag', .int .i64 ma', .int .i64 he', .int .i64 de', .bool ch', .bool ak']) := p5.out.kept hb
  have hbW := hbW.trans (hb.mono hbW.size)
  clear hb
  go_wp2_with fail
  refine (PR.out _).mono ?_
  rintro e7 w7 ⟨rfl, hb⟩
  have r7 : Hid (RowIs w7 w.heap.size 28 #[.int .u8 ((r 0).toNat : Int), .int .u8 ((r 1).toNat : Int), .int .u8 ((r 2).toNat : Int), .int .u8 ((r 3).toNat : Int), .int .u8 ((r 4).toNat : Int), .int .u8 ((r 5).toNat : Int), .int .u8 ((r 6).toNat : Int), .int .u8 ((r 7).toNat : Int), .int .u8 ((b 0).toNat : Int), .int .u8 ((b 1).toNat : Int), .int .u8 ((b 2).toNat : Int), .int .u8 ((b 3).toNat : Int), .int .u8 ((b 4).toNat : Int), .int .u8 ((b 5).toNat : Int), .int .u8 ((b 6).toNat : Int), .int .u8 ((b 7).toNat : Int), .int .i64 co, .int .i64 po, .int .i64 ag, .int .i64 ma, .int .i64 he, .int .i64 de, .bool ch, .bool ak]) := r6.out.kept hb
  have q7 : Hid (RowIs w7 w2.heap.size 30 #[.int .u8 ((r' 0).toNat : Int), .int .u8 ((r' 1).toNat : Int), .int .u8 ((r' 2).toNat : Int), .int .u8 ((r' 3).toNat : Int), .int .u8 ((r' 4).toNat : Int), .int .u8 ((r' 5).toNat : Int), .int .u8 ((r' 6).toNat : Int), .int .u8 ((r' 7).toNat : Int), .int .u8 ((b' 0).toNat : Int), .int .u8 ((b' 1).toNat : Int), .int .u8 ((b' 2).toNat : Int), .int .u8 ((b' 3).toNat : Int), .int .u8 ((b' 4).toNat : Int), .int .u8 ((b' 5).toNat : Int), .int .u8 ((b' 6).toNat : Int), .int .u8 ((b' 7).toNat : Int), .int .i64 co', .int .i64 po', .int .i64 ag', .int .i64 ma', .int .i64 he', .int .i64 de', .bool ch', .bool ak']) := q6.out.kept hb
  have p7 : Hid (RowIs w7 w4.heap.size 28 #[.int .u8 ((r' 0).toNat : Int), .int .u8 ((r' 1).toNat : Int), .int .u8 ((r' 2).toNat : Int), .int .u8 ((r' 3).toNat : Int), .int .u8 ((r' 4).toNat : Int), .int .u8 ((r' 5).toNat : Int), .int .u8 ((r' 6).toNat : Int), .int .u8 ((r' 7).toNat : Int), .int .u8 ((b' 0).toNat : Int), .int .u8 ((b' 1).toNat : Int), .int .u8 ((b' 2).toNat : Int), .int .u8 ((b' 3).toNat : Int), .int .u8 ((b' 4).toNat : Int), .int .u8 ((b' 5).toNat : Int), .int .u8 ((b' 6).toNat : Int), .int .u8 ((b' 7).toNat : Int), .int .i64 co', .int .i64 po', .int .i64 ag', .int .i64 ma', .int .i64 he', .int .i64 de', .bool ch', .bool ak']) := p6.out.kept hb
  have hbW := hbW.trans (hb.mono hbW.size)
  clear hb
  go_upto_region 6 with fail
  have EW := EW.out
  have EM := EM.out
  refine wp_region_mix 32 (by kernel_rfl) (by kernel_rfl) (by kernel_rfl) ?_
  (refine mix_step (by kernel_rfl) (by kernel_rfl) (fun K hK => ?_); go_simp; (try (simp only [↓IntWalk.iteOmega]; go_simp)); (first | (refine hK _ ?_; clear hK K) | (apply Exists.intro; refine ⟨fun _ => ?_, hK _ ?_⟩; (first | fail); clear hK K)))
  (refine mix_step (by kernel_rfl) (by kernel_rfl) (fun K hK => ?_); go_simp; (try (simp only [↓IntWalk.iteOmega]; go_simp)); (first | (refine hK _ ?_; clear hK K) | (apply Exists.intro; refine ⟨fun _ => ?_, hK _ ?_⟩; (first | fail); clear hK K)))
  (refine mix_step (by kernel_rfl) (by kernel_rfl) (fun K hK => ?_); go_simp; (try (simp only [↓IntWalk.iteOmega]; go_simp)); (first | (refine hK _ ?_; clear hK K) | (apply Exists.intro; refine ⟨fun _ => ?_, hK _ ?_⟩; (first | fail); clear hK K)))
  (refine mix_step (by kernel_rfl) (by kernel_rfl) (fun K hK => ?_); go_simp; (try (simp only [↓IntWalk.iteOmega]; go_simp)); (first | (refine hK _ ?_; clear hK K) | (apply Exists.intro; refine ⟨fun _ => ?_, hK _ ?_⟩; (first | fail); clear hK K)))
  (refine mix_step (by kernel_rfl) (by kernel_rfl) (fun K hK => ?_); go_simp; (try (simp only [↓IntWalk.iteOmega]; go_simp)); (first | (refine hK _ ?_; clear hK K) | (apply Exists.intro; refine ⟨fun _ => ?_, hK _ ?_⟩; (first | fail); clear hK K)))
  (refine mix_step (by kernel_rfl) (by kernel_rfl) (fun K hK => ?_); go_simp; (try (simp only [↓IntWalk.iteOmega]; go_simp)); (first | (refine hK _ ?_; clear hK K) | (apply Exists.intro; refine ⟨fun _ => ?_, hK _ ?_⟩; (first | fail); clear hK K)))
  (refine mix_step (by kernel_rfl) (by kernel_rfl) (fun K hK => ?_); go_simp; (try (simp only [↓IntWalk.iteOmega]; go_simp)); (first | (refine hK _ ?_; clear hK K) | (apply Exists.intro; refine ⟨fun _ => ?_, hK _ ?_⟩; (first | fail); clear hK K)))
  (refine mix_step (by kernel_rfl) (by kernel_rfl) (fun K hK => ?_); go_simp; (try (simp only [↓IntWalk.iteOmega]; go_simp)); (first | (refine hK _ ?_; clear hK K) | (apply Exists.intro; refine ⟨fun _ => ?_, hK _ ?_⟩; (first | fail); clear hK K)))
  (refine mix_step (by kernel_rfl) (by kernel_rfl) (fun K hK => ?_); go_simp; (try (simp only [↓IntWalk.iteOmega]; go_simp)); (first | (refine hK _ ?_; clear hK K) | (apply Exists.intro; refine ⟨fun _ => ?_, hK _ ?_⟩; (first | fail); clear hK K)))
  refine mix_exact (.agg #[.int .u8 ((r' 0).toNat : Int), .int .u8 ((r' 1).toNat : Int), .int .u8 ((r' 2).toNat : Int), .int .u8 ((r' 3).toNat : Int), .int .u8 ((r' 4).toNat : Int), .int .u8 ((r' 5).toNat : Int), .int .u8 ((r' 6).toNat : Int), .int .u8 ((r' 7).toNat : Int), .int .u8 ((b' 0).toNat : Int), .int .u8 ((b' 1).toNat : Int), .int .u8 ((b' 2).toNat : Int), .int .u8 ((b' 3).toNat : Int), .int .u8 ((b' 4).toNat : Int), .int .u8 ((b' 5).toNat : Int), .int .u8 ((b' 6).toNat : Int), .int .u8 ((b' 7).toNat : Int), .int .i64 co', .int .i64 po', .int .i64 ag', .int .i64 ma', .int .i64 he', .int .i64 de', .bool ch', .bool ak']) rfl (exact_load_row rfl rfl (by simp) q7.out Try.underlying30 rfl info_word) ?_
  (refine mix_step (by kernel_rfl) (by kernel_rfl) (fun K hK => ?_); go_simp; (try (simp only [↓IntWalk.iteOmega]; go_simp)); (first | (refine hK _ ?_; clear hK K) | (apply Exists.intro; refine ⟨fun _ => ?_, hK _ ?_⟩; (first | exact PI.out _); clear hK K)))
  refine mix_exact (.agg #[.int .u8 ((r' 0).toNat : Int), .int .u8 ((r' 1).toNat : Int), .int .u8 ((r' 2).toNat : Int), .int .u8 ((r' 3).toNat : Int), .int .u8 ((r' 4).toNat : Int), .int .u8 ((r' 5).toNat : Int), .int .u8 ((r' 6).toNat : Int), .int .u8 ((r' 7).toNat : Int), .int .u8 ((b' 0).toNat : Int), .int .u8 ((b' 1).toNat : Int), .int .u8 ((b' 2).toNat : Int), .int .u8 ((b' 3).toNat : Int), .int .u8 ((b' 4).toNat : Int), .int .u8 ((b' 5).toNat : Int), .int .u8 ((b' 6).toNat : Int), .int .u8 ((b' 7).toNat : Int), .int .i64 co', .int .i64 po', .int .i64 ag', .int .i64 ma', .int .i64 he', .int .i64 de', .bool ch', .bool ak']) rfl (exact_load_row rfl rfl (by simp) p7.out Try.underlying28 rfl info_rword) ?_
  (refine mix_step (by kernel_rfl) (by kernel_rfl) (fun K hK => ?_); go_simp; (try (simp only [↓IntWalk.iteOmega]; go_simp)); (first | (refine hK _ ?_; clear hK K) | (apply Exists.intro; refine ⟨fun _ => ?_, hK _ ?_⟩; (first | fail); clear hK K)))
  (refine mix_step (by kernel_rfl) (by kernel_rfl) (fun K hK => ?_); go_simp; (try (simp only [↓IntWalk.iteOmega]; go_simp)); (first | (refine hK _ ?_; clear hK K) | (apply Exists.intro; refine ⟨fun _ => ?_, hK _ ?_⟩; (first | fail); clear hK K)))
  (refine mix_step (by kernel_rfl) (by kernel_rfl) (fun K hK => ?_); go_simp; (try (simp only [↓IntWalk.iteOmega]; go_simp)); (first | (refine hK _ ?_; clear hK K) | (apply Exists.intro; refine ⟨fun _ => ?_, hK _ ?_⟩; (first | fail); clear hK K)))
  (refine mix_step (by kernel_rfl) (by kernel_rfl) (fun K hK => ?_); go_simp; (try (simp only [↓IntWalk.iteOmega]; go_simp)); (first | (refine hK _ ?_; clear hK K) | (apply Exists.intro; refine ⟨fun _ => ?_, hK _ ?_⟩; (first | fail); clear hK K)))
  refine mix_exact (.agg #[.int .u8 ((r 0).toNat : Int), .int .u8 ((r 1).toNat : Int), .int .u8 ((r 2).toNat : Int), .int .u8 ((r 3).toNat : Int), .int .u8 ((r 4).toNat : Int), .int .u8 ((r 5).toNat : Int), .int .u8 ((r 6).toNat : Int), .int .u8 ((r 7).toNat : Int)]) rfl (exact_load_mid (off := 0) (sub := [.int .u8 ((r 0).toNat : Int), .int .u8 ((r 1).toNat : Int), .int .u8 ((r 2).toNat : Int), .int .u8 ((r 3).toNat : Int), .int .u8 ((r 4).toNat : Int), .int .u8 ((r 5).toNat : Int), .int .u8 ((r 6).toNat : Int), .int .u8 ((r 7).toNat : Int)]) rfl rfl (by simp) r7.out rfl Try.underlying22 rfl (by kernel_rfl)) ?_
  (refine mix_step (by kernel_rfl) (by kernel_rfl) (fun K hK => ?_); go_simp; (try (simp only [↓IntWalk.iteOmega]; go_simp)); (first | (refine hK _ ?_; clear hK K) | (apply Exists.intro; refine ⟨fun _ => ?_, hK _ ?_⟩; (first | fail); clear hK K)))
  refine mix_exact (.agg #[.int .u8 ((b 0).toNat : Int), .int .u8 ((b 1).toNat : Int), .int .u8 ((b 2).toNat : Int), .int .u8 ((b 3).toNat : Int), .int .u8 ((b 4).toNat : Int), .int .u8 ((b 5).toNat : Int), .int .u8 ((b 6).toNat : Int), .int .u8 ((b 7).toNat : Int)]) rfl (exact_load_mid (off := 8) (sub := [.int .u8 ((b 0).toNat : Int), .int .u8 ((b 1).toNat : Int), .int .u8 ((b 2).toNat : Int), .int .u8 ((b 3).toNat : Int), .int .u8 ((b 4).toNat : Int), .int .u8 ((b 5).toNat : Int), .int .u8 ((b 6).toNat : Int), .int .u8 ((b 7).toNat : Int)]) rfl rfl (by simp) r7.out rfl Try.underlying22 rfl (by kernel_rfl)) ?_
  (refine mix_step (by kernel_rfl) (by kernel_rfl) (fun K hK => ?_); go_simp; (try (simp only [↓IntWalk.iteOmega]; go_simp)); (first | (refine hK _ ?_; clear hK K) | (apply Exists.intro; refine ⟨fun _ => ?_, hK _ ?_⟩; (first | exact LE.out _); clear hK K)))
  (refine mix_step (by kernel_rfl) (by kernel_rfl) (fun K hK => ?_); go_simp; (try (simp only [↓IntWalk.iteOmega]; go_simp)); (first | (refine hK _ ?_; clear hK K) | (apply Exists.intro; refine ⟨fun _ => ?_, hK _ ?_⟩; (first | fail); clear hK K)))
  refine mix_exact (.agg #[.int .u8 ((r 0).toNat : Int), .int .u8 ((r 1).toNat : Int), .int .u8 ((r 2).toNat : Int), .int .u8 ((r 3).toNat : Int), .int .u8 ((r 4).toNat : Int), .int .u8 ((r 5).toNat : Int), .int .u8 ((r 6).toNat : Int), .int .u8 ((r 7).toNat : Int)]) rfl (exact_load_mid (off := 0) (sub := [.int .u8 ((r 0).toNat : Int), .int .u8 ((r 1).toNat : Int), .int .u8 ((r 2).toNat : Int), .int .u8 ((r 3).toNat : Int), .int .u8 ((r 4).toNat : Int), .int .u8 ((r 5).toNat : Int), .int .u8 ((r 6).toNat : Int), .int .u8 ((r 7).toNat : Int)]) rfl rfl (by simp) r7.out rfl Try.underlying22 rfl (by kernel_rfl)) ?_
  (refine mix_step (by kernel_rfl) (by kernel_rfl) (fun K hK => ?_); go_simp; (try (simp only [↓IntWalk.iteOmega]; go_simp)); (first | (refine hK _ ?_; clear hK K) | (apply Exists.intro; refine ⟨fun _ => ?_, hK _ ?_⟩; (first | fail); clear hK K)))
  refine mix_exact (.agg #[.int .u8 ((b 0).toNat : Int), .int .u8 ((b 1).toNat : Int), .int .u8 ((b 2).toNat : Int), .int .u8 ((b 3).toNat : Int), .int .u8 ((b 4).toNat : Int), .int .u8 ((b 5).toNat : Int), .int .u8 ((b 6).toNat : Int), .int .u8 ((b 7).toNat : Int)]) rfl (exact_load_mid (off := 8) (sub := [.int .u8 ((b 0).toNat : Int), .int .u8 ((b 1).toNat : Int), .int .u8 ((b 2).toNat : Int), .int .u8 ((b 3).toNat : Int), .int .u8 ((b 4).toNat : Int), .int .u8 ((b 5).toNat : Int), .int .u8 ((b 6).toNat : Int), .int .u8 ((b 7).toNat : Int)]) rfl rfl (by simp) r7.out rfl Try.underlying22 rfl (by kernel_rfl)) ?_
  (refine mix_step (by kernel_rfl) (by kernel_rfl) (fun K hK => ?_); go_simp; (try (simp only [↓IntWalk.iteOmega]; go_simp)); (first | (refine hK _ ?_; clear hK K) | (apply Exists.intro; refine ⟨fun _ => ?_, hK _ ?_⟩; (first | exact RL.out _); clear hK K)))
  (refine mix_step (by kernel_rfl) (by kernel_rfl) (fun K hK => ?_); go_simp; (try (simp only [↓IntWalk.iteOmega]; go_simp)); (first | (refine hK _ ?_; clear hK K) | (apply Exists.intro; refine ⟨fun _ => ?_, hK _ ?_⟩; (first | fail); clear hK K)))
  (refine mix_step (by kernel_rfl) (by kernel_rfl) (fun K hK => ?_); go_simp; (try (simp only [↓IntWalk.iteOmega]; go_simp)); (first | (refine hK _ ?_; clear hK K) | (apply Exists.intro; refine ⟨fun _ => ?_, hK _ ?_⟩; (first | fail); clear hK K)))
  (refine mix_step (by kernel_rfl) (by kernel_rfl) (fun K hK => ?_); go_simp; (try (simp only [↓IntWalk.iteOmega]; go_simp)); (first | (refine hK _ ?_; clear hK K) | (apply Exists.intro; refine ⟨fun _ => ?_, hK _ ?_⟩; (first | fail); clear hK K)))
  (refine mix_step (by kernel_rfl) (by kernel_rfl) (fun K hK => ?_); go_simp; (try (simp only [↓IntWalk.iteOmega]; go_simp)); (first | (refine hK _ ?_; clear hK K) | (apply Exists.intro; refine ⟨fun _ => ?_, hK _ ?_⟩; (first | exact TO.out _); clear hK K)))
  (refine mix_step (by kernel_rfl) (by kernel_rfl) (fun K hK => ?_); go_simp; (try (simp only [↓IntWalk.iteOmega]; go_simp)); (first | (refine hK _ ?_; clear hK K) | (apply Exists.intro; refine ⟨fun _ => ?_, hK _ ?_⟩; (first | fail); clear hK K)))
  (refine mix_step (by kernel_rfl) (by kernel_rfl) (fun K hK => ?_); go_simp; (try (simp only [↓IntWalk.iteOmega]; go_simp)); (first | (refine hK _ ?_; clear hK K) | (apply Exists.intro; refine ⟨fun _ => ?_, hK _ ?_⟩; (first | fail); clear hK K)))
  (refine mix_step (by kernel_rfl) (by kernel_rfl) (fun K hK => ?_); go_simp; (try (simp only [↓IntWalk.iteOmega]; go_simp)); (first | (refine hK _ ?_; clear hK K) | (apply Exists.intro; refine ⟨fun _ => ?_, hK _ ?_⟩; (first | fail); clear hK K)))
  refine mix_nil ?_
  rintro ⟨dq, osq⟩
  have hb8 := below_regrown w7 dq osq
  have hbW := hbW.trans (hb8.mono hbW.size)
  have r8 : Hid (RowIs (grow (redrawn w7 dq) osq) w.heap.size 28 #[.int .u8 ((r 0).toNat : Int), .int .u8 ((r 1).toNat : Int), .int .u8 ((r 2).toNat : Int), .int .u8 ((r 3).toNat : Int), .int .u8 ((r 4).toNat : Int), .int .u8 ((r 5).toNat : Int), .int .u8 ((r 6).toNat : Int), .int .u8 ((r 7).toNat : Int), .int .u8 ((b 0).toNat : Int), .int .u8 ((b 1).toNat : Int), .int .u8 ((b 2).toNat : Int), .int .u8 ((b 3).toNat : Int), .int .u8 ((b 4).toNat : Int), .int .u8 ((b 5).toNat : Int), .int .u8 ((b 6).toNat : Int), .int .u8 ((b 7).toNat : Int), .int .i64 co, .int .i64 po, .int .i64 ag, .int .i64 ma, .int .i64 he, .int .i64 de, .bool ch, .bool ak]) := r7.out.kept hb8
  generalize grow (redrawn w7 dq) osq = w8 at *
  clear hb8
  refine (show wpList _ _ _ _ _ _ from ?_)
  simp only [List.drop, Act.put, List.setIfInBounds_toArray, List.set]
  have hend := HE.out
  rcases hend with ⟨rfl, rfl, RP⟩ | ⟨rfl, rfl, rfl⟩
  · have RP := Lib.hid RP
    go_wp2_with ((with_reducible refine at_load 28 (.tmp 3) ?_); refine wpList_load_own rfl 28 (.tmp 3) rfl _ rfl _ _ _ r8.out Try.underlying28 rfl info_rword ?_)
    refine (RR.out _).mono ?_
    rintro e9 w9 ⟨rfl, hb⟩
    have r9 : Hid (RowIs w9 w.heap.size 28 #[.int .u8 ((r 0).toNat : Int), .int .u8 ((r 1).toNat : Int), .int .u8 ((r 2).toNat : Int), .int .u8 ((r 3).toNat : Int), .int .u8 ((r 4).toNat : Int), .int .u8 ((r 5).toNat : Int), .int .u8 ((r 6).toNat : Int), .int .u8 ((r 7).toNat : Int), .int .u8 ((b 0).toNat : Int), .int .u8 ((b 1).toNat : Int), .int .u8 ((b 2).toNat : Int), .int .u8 ((b 3).toNat : Int), .int .u8 ((b 4).toNat : Int), .int .u8 ((b 5).toNat : Int), .int .u8 ((b 6).toNat : Int), .int .u8 ((b 7).toNat : Int), .int .i64 co, .int .i64 po, .int .i64 ag, .int .i64 ma, .int .i64 he, .int .i64 de, .bool ch, .bool ak]) := r8.out.kept hb
    have hbW := hbW.trans (hb.mono hbW.size)
    clear hb
    go_wp2_with ((with_reducible refine at_load 28 (.tmp 3) ?_); refine wpList_load_own rfl 28 (.tmp 3) rfl _ rfl _ _ _ r9.out Try.underlying28 rfl info_rword ?_)
    refine (RP.out _).mono ?_
    rintro e10 w10 ⟨rfl, hb⟩
    have hbW := hbW.trans (hb.mono hbW.size)
    clear hb
    go_wp2_with fail
    go_ret
    exact ⟨rfl, hbW⟩
  · go_wp2_with ((with_reducible refine at_load 28 (.tmp 3) ?_); refine wpList_load_own rfl 28 (.tmp 3) rfl _ rfl _ _ _ r8.out Try.underlying28 rfl info_rword ?_)
    refine (RR.out _).mono ?_
    rintro e9 w9 ⟨rfl, hb⟩
    have hbW := hbW.trans (hb.mono hbW.size)
    clear hb
    go_wp2_with fail
    go_ret
    exact ⟨rfl, hbW⟩

set_option maxHeartbeats 1000000 in
theorem bpduPlays_walk (s : ByteArray) (r b : Nat → UInt8) (co po ag ma he de : Int) (ch ak : Bool) (w : World) :
    Calls Try.prog 7 #[.string s, .agg #[.int .u8 ((r 0).toNat : Int), .int .u8 ((r 1).toNat : Int), .int .u8 ((r 2).toNat : Int), .int .u8 ((r 3).toNat : Int), .int .u8 ((r 4).toNat : Int), .int .u8 ((r 5).toNat : Int), .int .u8 ((r 6).toNat : Int), .int .u8 ((r 7).toNat : Int), .int .u8 ((b 0).toNat : Int), .int .u8 ((b 1).toNat : Int), .int .u8 ((b 2).toNat : Int), .int .u8 ((b 3).toNat : Int), .int .u8 ((b 4).toNat : Int), .int .u8 ((b 5).toNat : Int), .int .u8 ((b 6).toNat : Int), .int .u8 ((b 7).toNat : Int), .int .i64 co, .int .i64 po, .int .i64 ag, .int .i64 ma, .int .i64 he, .int .i64 de, .bool ch, .bool ak]] w fun e w' => e = .returned (.bool true) ∧ Below w.heap.size w w' := by
  by_cases h : 1000 < s.size
  · go_enter Try.func7, Try.ntmps7
    go_wp2_with fail
    refine (awake_any _).mono ?_
    rintro e w1 ⟨rfl, hb⟩
    have hbW : Below w.heap.size w w1 := ((Below.refl _ _).alloc (Nat.le_refl _) _).trans (hb.mono (by simp))
    clear hb
    go_wp2_with fail
    refine (awake_any _).mono ?_
    rintro e w2 ⟨rfl, hb⟩
    have hbW := hbW.trans (hb.mono hbW.size)
    go_wp2_with fail
    go_ret
    exact ⟨rfl, hbW⟩
  · exact bpduPlays_main s r b co po ag ma he de ch ak w (by omega)
end Go.Proofs.Ytkbnkacmmjabkaa
