/- strings.Lines, and slices.Collect of it. By an AI agent. -/
import Derived.Test.YthfckdnennfnoaaGreatDoorConf4
import Derived.BigRegionIn
import Derived.Test.YthfckdnennfnoaaGreatDoorStrs
namespace Go.Proofs.YthfckdnennfnoaaGreatDoor
open Go.RowKit Go.Shelf
attribute [local go_sem] Oper.semAt_some

namespace Cf
theorem lines_no : ∀ l, l ≠ [] → Lib.indexByte l 10 < 0 → lines l = [l]
  | [], h, _ => absurd rfl h
  | a :: l, _, h => by
    unfold Lib.indexByte at h
    have hg := Lib.indexByte_ge l 10
    by_cases e : a = 10
    · subst e
      simp at h
    · rw [if_neg (by simpa using e)] at h
      unfold lines
      rw [if_neg e]
      cases l with
      | nil => rfl
      | cons b l =>
        have h2 : Lib.indexByte (b :: l) 10 < 0 := by
          split at h
          · rename_i h3
            rw [beq_iff_eq.1 h3]
            decide
          · omega
        rw [lines_no (b :: l) (by simp) h2]
theorem lines_at : ∀ l, 0 ≤ Lib.indexByte l 10 → ∃ i : Nat, Lib.indexByte l 10 = i ∧ i < l.length ∧ lines l = l.take (i + 1) :: lines (l.drop (i + 1))
  | [], h => absurd (show (0 : Int) ≤ -1 from h) (by decide)
  | a :: l, h => by
    unfold Lib.indexByte at h ⊢
    by_cases e : a = 10
    · subst e
      refine ⟨0, by simp, by simp, ?_⟩
      rw [lines, if_pos rfl]
      rfl
    · rw [if_neg (by simpa using e)] at h ⊢
      have hg := Lib.indexByte_ge l 10
      split at h
      · exact absurd h (by decide)
      · rename_i h3
        rw [if_neg h3]
        have h4 : Lib.indexByte l 10 ≠ -1 := fun h => h3 (beq_iff_eq.2 h)
        obtain ⟨i, e1, e2, e3⟩ := lines_at l (by omega)
        refine ⟨i + 1, by rw [e1]; rfl, by simpa using e2, ?_⟩
        rw [lines, if_neg e, e3]
        rfl
theorem lines_len : ∀ l, (lines l).length ≤ l.length
  | [] => by simp [lines]
  | a :: l => by
    have ih := lines_len l
    unfold lines
    by_cases e : a = 10
    · rw [if_pos e]; simp; omega
    · rw [if_neg e]
      cases h : lines l with
      | nil => simp
      | cons p ps => rw [h] at ih; simp at ih ⊢; omega
def linesB (s : ByteArray) : List ByteArray := (lines s.data.toList).map fun l => ⟨l.toArray⟩
theorem linesB_nil {s : ByteArray} (h : s.size = 0) : linesB s = [] := by
  unfold linesB
  have : s.data.toList = [] := by
    apply List.eq_nil_of_length_eq_zero
    simpa using h
  rw [this]
  rfl
theorem linesB_no {s : ByteArray} (h0 : 0 < s.size) (h : Lib.indexByte s.data.toList 10 < 0) : linesB s = [s] := by
  unfold linesB
  rw [lines_no _ (fun e => by have : s.data.toList.length = s.size := by simp
                              rw [e] at this; simp at this; omega) h]
  simp
theorem linesB_at {s : ByteArray} (h : 0 ≤ Lib.indexByte s.data.toList 10) : ∃ i : Nat, Lib.indexByte s.data.toList 10 = i ∧ i < s.size ∧ linesB s = s.extract 0 (i + 1) :: linesB (s.extract (i + 1) s.size) := by
  obtain ⟨i, e1, e2, e3⟩ := lines_at _ h
  have hl : s.data.toList.length = s.size := by simp
  refine ⟨i, e1, by omega, ?_⟩
  unfold linesB
  rw [e3, List.map_cons]
  congr 1
  · apply ByteArray.ext
    apply Array.toList_inj.1
    simp
  · congr 2
    simp
    rw [List.take_of_length_le]
    rw [List.length_drop, hl]
    omega
theorem linesB_len (s : ByteArray) : (linesB s).length ≤ s.size := by
  unfold linesB
  rw [List.length_map]
  have := lines_len s.data.toList
  simpa using this
theorem linesB_small (s : ByteArray) : ∀ l ∈ linesB s, l.size ≤ s.size := by
  have key : ∀ l : List UInt8, ∀ p ∈ lines l, p.length ≤ l.length := by
    intro l
    induction l with
    | nil => intro p hp; simp [lines] at hp
    | cons a l ih =>
      intro p hp
      unfold lines at hp
      by_cases e : a = 10
      · rw [if_pos e] at hp
        rcases List.mem_cons.1 hp with rfl | hp
        · simp
        · have := ih p hp; simp; omega
      · rw [if_neg e] at hp
        cases h : lines l with
        | nil => rw [h] at hp; simp at hp; simp [hp]
        | cons q qs =>
          rw [h] at hp ih
          rcases List.mem_cons.1 hp with rfl | hp
          · have := ih q (by simp); simp; omega
          · have := ih p (by simp [hp]); simp; omega
  intro l hl
  unfold linesB at hl
  obtain ⟨p, hp, rfl⟩ := List.mem_map.1 hl
  have := key _ p hp
  show p.toArray.size ≤ _
  have e : s.data.toList.length = s.size := by simp
  rw [List.size_toArray]
  omega
end Cf

set_option maxHeartbeats 1000000 in
theorem index_byte_in (n : Nat) (s : ByteArray) (c : Int) (w : World) : CallsIn Kn n Tryz.prog 34 #[.string s, .int .u8 c] w fun e w' => e = .returned (.int .i64 (Lib.indexByte s.data.toList c.toNat.toUInt8)) ∧ w = w' := by
  have hro : Kn.round = none := rfl
  refine callsIn_of_wp Tryz.func34 rfl ⟨_, Tryz.func34⟩ ?_ rfl
  simp only [Tryz.ntmps34, List.size_toArray, List.length_cons, List.length_nil, Nat.reduceAdd, Nat.reduceSub, Array.replicate_succ, Array.replicate_zero, List.push_toArray, List.append_toArray, List.nil_append, List.cons_append]
  gi_wp2_with (refine ⟨⟨_, Tryz.func55⟩, (slite_byte_in _ _ _ _).mono ?_⟩; rintro e w' ⟨rfl, rfl⟩)
  go_ret
  exact ⟨rfl, rfl⟩

theorem grownBy_drew {w w' : World} {r : Option Nat} (h : w.grownBy w' r) : w.grownBy w'.drew r := ⟨h.os, h.tape, h.output, h.size, h.block⟩
def One (b : Nat) (W W' : World) : Prop := W'.heap[b]? = W.heap[b]?

set_option maxRecDepth 100000 in
set_option maxHeartbeats 4000000 in
theorem lines1_kn (n : Nat) (l b : Nat) (s : ByteArray) (hsz : s.size ≤ 100000) (J : List ByteArray → World → Prop) (Jp : List PanicEntry → World → Prop) (hJ : TurnsZ b J)
    (hY : ∀ pre x W, J pre W → pre ++ [x] <+: Cf.linesB s → YieldAt Kn (n - 1) Tryz.prog l #[.string x] W fun e W' =>
      (e = .returned (.bool true) ∧ J (pre ++ [x]) W' ∧ One b W W') ∨ (∃ ch, e = .panicked ch ∧ Jp ch W'))
    (W : World) (h0 : Boxed W b 9 (.string s)) (hj : J [] W) :
    CallsIn Kn n Tryz.prog 33 #[.func (.yield l) #[] #[], .pointer (some ⟨b, 0, none⟩)] W fun e W' => ((∃ v, e = .returned v) ∧ ∃ xs, xs = Cf.linesB s ∧ J xs W') ∨ (∃ ch, e = .panicked ch ∧ Jp ch W') := by
  have hro : Kn.round = none := rfl
  refine callsIn_of_wp Tryz.func33 rfl ⟨_, Tryz.func33⟩ ?_ rfl
  simp only [Tryz.ntmps33, List.size_toArray, List.length_cons, List.length_nil, Nat.reduceAdd, Nat.reduceSub, Array.replicate_succ, Array.replicate_zero, List.push_toArray, List.append_toArray, List.nil_append, List.cons_append]
  gi_wp2
  gi_loopw [3, 4] (fun _ _ wr => ∃ (pre : List ByteArray) (r : ByteArray), Cf.linesB s = pre ++ Cf.linesB r ∧ r.size ≤ 100000 ∧ Boxed wr b 9 (.string r) ∧ J pre wr)
    (fun _ _ wr => lenAt wr b)
  case atStart => exact ⟨[], s, rfl, hsz, h0, hj⟩
  case round =>
    clear h0 hj
    rename_i wr
    obtain ⟨pre, r, hp, hrz, h0, hj⟩ := hrel
    have c0 := h0.cell
    have f0 := h0.frozen
    by_cases hr0 : r.size = 0
    · have e3 := Cf.linesB_nil hr0
      have HP := Lib.hid (show Cf.linesB s = pre by rw [hp, e3, List.append_nil])
      clear hp e3
      gi_wp2
      go_end0
      exact .inl ⟨⟨_, rfl⟩, pre, HP.out.symm, hj⟩
    have d0 : decide (0 < (r.size : Int)) = true := decide_eq_true (by omega)
    by_cases hi : 0 ≤ Lib.indexByte r.data.toList 10
    · obtain ⟨i, e1, e2, e3⟩ := Cf.linesB_at hi
      have hix := Lib.hid (fun n => index_byte_in n r 10 wr)
      have e1' : Lib.indexByte r.data.toList ((10 : Int).toNat.toUInt8) = i := e1
      rw [e1'] at hix
      clear hi e1 e1' hr0
      have w1 : IntKind.i64.wrap ((i : Int) + 1) = (i : Int) + 1 := by rw [IntKind.wrap_i64]; omega
      have hs1 : ∀ w, (Instr.slice 9 (.string r) none (some (.int .i64 ((i : Int) + 1))) none).run Tryz.prog w = .ok (.string (r.extract 0 (i + 1))) w := fun w => by
        have h := run_slice_string_h (P := Tryz.prog) (t := 9) (s := r) (w := w) Tryz.underlying9 .i64 ((i : Int) + 1) (by omega) (by omega)
        simpa using h
      have hs2 : ∀ w, (Instr.slice 9 (.string r) (some (.int .i64 ((i : Int) + 1))) none none).run Tryz.prog w = .ok (.string (r.extract (i + 1) r.size)) w := fun w => by
        have h := run_slice_string_l (P := Tryz.prog) (t := 9) (s := r) (w := w) Tryz.underlying9 .i64 ((i : Int) + 1) (by omega) (by omega)
        simpa using h
      gi_wp2_with (refine ⟨⟨_, Tryz.func34⟩, (hix.out _).mono ?_⟩; rintro e w' ⟨rfl, rfl⟩)
      gi_region
      have g0 : Boxed (wr.setCell ⟨b, 0, none⟩ (.string (r.extract (i + 1) r.size))).drew b 9 (.string (r.extract (i + 1) r.size)) := h0.set _
      have hj2 : J pre (wr.setCell ⟨b, 0, none⟩ (.string (r.extract (i + 1) r.size))).drew := hJ _ _ _ _ hj (grownBy_drew (grownBy_setCell' wr b _)) (fun r' e => by cases e; rfl)
      have hlen := lenAt_eq g0.cell
      have hlen0 := lenAt_eq h0.cell
      generalize (wr.setCell ⟨b, 0, none⟩ (.string (r.extract (i + 1) r.size))).drew = W2 at *
      obtain ⟨fn, tmps, assign, body, hy, hR⟩ := hY pre (r.extract 0 (i + 1)) W2 hj2 ⟨Cf.linesB (r.extract (i + 1) r.size), by rw [hp, e3, List.append_assoc]; rfl⟩
      have HE := Lib.hid e3
      have HPP := Lib.hid hp
      clear e3 hp c0 f0 hs1 hs2 w1
      gi_wp2
      refine hR.mono ?_
      rintro e W3 (⟨rfl, hJ3, hk3⟩ | ⟨ch, rfl, hJx3⟩)
      · have g3 : Boxed W3 b 9 (.string (r.extract (i + 1) r.size)) := hk3.trans g0
        gi_wp2
        go_roundw
        case rel => exact ⟨pre ++ [r.extract 0 (i + 1)], r.extract (i + 1) r.size, by rw [HPP.out, HE.out, List.append_assoc]; rfl, by rw [ByteArray.size_extract]; omega, g3, hJ3⟩
        case measure =>
          rw [lenAt_eq g3.cell, hlen0, ByteArray.size_extract]
          omega
      · exact ⟨rfl, .inr ⟨ch, rfl, hJx3⟩⟩
    · have hi' : Lib.indexByte r.data.toList 10 < 0 := by omega
      have e3 := Cf.linesB_no (by omega) hi'
      have hix := Lib.hid (fun n => index_byte_in n r 10 wr)
      have hi2 : Lib.indexByte r.data.toList ((10 : Int).toNat.toUInt8) < 0 := hi'
      generalize Lib.indexByte r.data.toList ((10 : Int).toNat.toUInt8) = i at *
      have d1 : decide (0 ≤ i) = false := decide_eq_false (by omega)
      have hp2 : Cf.linesB s = pre ++ [r] := by rw [hp, e3]
      have HPP := Lib.hid hp2
      have g0 : Boxed (wr.setCell ⟨b, 0, none⟩ (.string ⟨#[]⟩)) b 9 (.string ⟨#[]⟩) := h0.set _
      have hj2 : J pre (wr.setCell ⟨b, 0, none⟩ (.string ⟨#[]⟩)) := hJ _ _ _ _ hj (grownBy_setCell' wr b _) (fun r' e => by cases e; rfl)
      have hlen0 := lenAt_eq h0.cell
      obtain ⟨fn, tmps, assign, body, hy, hR⟩ := hY pre r _ hj2 ⟨[], by rw [hp2]; simp⟩
      clear hp e3 hi hi' hi2 hp2
      gi_wp2_with (refine ⟨⟨_, Tryz.func34⟩, (hix.out _).mono ?_⟩; rintro e w' ⟨rfl, rfl⟩)
      refine hR.mono ?_
      rintro e W3 (⟨rfl, hJ3, hk3⟩ | ⟨ch, rfl, hJx3⟩)
      · have g3 : Boxed W3 b 9 (.string ⟨#[]⟩) := hk3.trans g0
        gi_wp2
        go_roundw
        case rel => exact ⟨pre ++ [r], ⟨#[]⟩, by rw [HPP.out, Cf.linesB_nil rfl, List.append_nil], Nat.zero_le _, g3, hJ3⟩
        case measure =>
          rw [lenAt_eq g3.cell, hlen0]
          show 0 < r.size
          omega
      · exact ⟨rfl, .inr ⟨ch, rfl, hJx3⟩⟩

theorem lines_stopsP (n : Nat) (b : Nat) (s : ByteArray) (hsz : s.size ≤ 100000) (w : World) (h0 : Boxed w b 9 (.string s)) :
    StopsP Kn n Tryz.prog 33 #[.pointer (some ⟨b, 0, none⟩)] (fun x : ByteArray => #[.string x]) b (One b) (fun xs => xs = Cf.linesB s) (fun pre => pre <+: Cf.linesB s) w := fun l J Jp W hW hJ hY hj =>
  lines1_kn n l b s hsz J Jp hJ hY W (RowIs.kept h0 hW) hj

set_option maxRecDepth 100000 in
set_option maxHeartbeats 8000000 in
theorem appendSeq_in (b : Nat) (s : ByteArray) (hsz : s.size ≤ 100000) (w : World) (h0 : Boxed w b 9 (.string s)) :
    CallsIn Kn 8 Tryz.prog 32 #[.slice none 0 0, .func (.func 33) #[] #[.pointer (some ⟨b, 0, none⟩)]] w fun e w' => (∃ v, e = .returned v ∧ w'.ownsRow w.heap.size 9 1 v (Cf.linesB s).length (Strs.all (Cf.linesB s))) ∧ Below b w w' := by
  have hro : Kn.round = none := rfl
  have hbw := h0.lt
  refine callsIn_of_wp_marks Tryz.func32 rfl ⟨_, Tryz.func32⟩ ?_ rfl
  simp only [Tryz.ntmps32, List.size_toArray, List.length_cons, List.length_nil, Nat.reduceAdd, Nat.reduceSub, Array.replicate_succ, Array.replicate_zero, List.push_toArray, List.append_toArray, List.nil_append, List.cons_append]
  gi_wp2
  have hW : ∃ W0, w.alloc (.cells #[.slice none 0 0] 51) = W0 := ⟨_, rfl⟩
  obtain ⟨W0, hW⟩ := hW
  have hX0 : Boxed W0 w.heap.size 51 (.slice none 0 0) := by rw [← hW]; exact Boxed.new w _ _
  have hB0 : Boxed W0 b 9 (.string s) := by rw [← hW]; exact h0.alloc _
  have hbel : Below b w W0 := by rw [← hW]; exact (Below.refl _ _).alloc (by omega) _
  have hsz0 : W0.heap.size = w.heap.size + 1 := by rw [← hW]; simp
  rw [hW]
  clear hW
  have hHw : w.heap.size ≤ w.heap.size := Nat.le_refl _
  generalize hH : w.heap.size = H at *
  obtain ⟨ti, tz, hi, hz, hz1, hz2, hz3⟩ := info_str
  have hplen := Cf.linesB_len s
  refine wpIn_rangeFunc_ownP (F := Kn) rfl (fun f h => h) (by decide) (gf := 33) (lb := #[.pointer (some ⟨b, 0, none⟩)]) rfl ⟨_, Tryz.func33⟩ (enters_of Tryz.func33 (by kernel_rfl) rfl)
    (lines_stopsP 7 b s hsz W0 hB0) (by omega) (fun h k => k.trans h) (fun W l o hl => World.putObj_heap_other (by omega)) (fun _ => rfl)
    (fun pre W => ∃ v, Boxed W H 51 v ∧ W.ownsRow H 9 1 v pre.length (Strs.all pre) ∧ Below b w W ∧ H + 1 ≤ W.heap.size)
    (fun _ _ => False)
    ?hI ?hIZ ⟨_, hX0, World.ownsRow_nil _ _ _ _, hbel, by omega⟩
    (fun x => { tmps := #[.slice none 0 0, .func (.func 33) #[] #[.pointer (some ⟨b, 0, none⟩)], .pointer (some ⟨H, 0, none⟩), undef, .slice none 0 0, .string x, .func (.func 33) #[] #[.pointer (some ⟨b, 0, none⟩)], .string x, undef, undef, undef, undef, undef], defers := [] }) ?assign ?body ?done ?pan
  case hI =>
    rintro pre A B row ⟨v, h3, h4, h5, h6⟩ hg hr
    exact ⟨v, RowIs.turned h3 hg (fun r e => by have := (hr r e).1; omega), owns_turned h4 hg (fun r e => (hr r e).2), below_turned h5 (by omega) hg (fun r e => by have := (hr r e).1; omega), Nat.le_trans h6 hg.size⟩
  case hIZ =>
    rintro pre A B row ⟨v, h3, h4, h5, h6⟩ hg hr
    exact ⟨v, RowIs.turned h3 hg (fun r e => by have := hr r e; omega), owns_other h4 hg (fun r e => by have := hr r e; omega), below_turned h5 (by omega) hg (fun r e => by have := hr r e; omega), Nat.le_trans h6 hg.size⟩
  case assign =>
    intro l x W K hK
    gi_wp2
    exact hK
  case body =>
    rintro l pre x W ⟨v, h3, h4, h5, h6⟩ hpre
    have hvc := h3.cell
    have hpl : (pre ++ [x]).length ≤ 100000 := Nat.le_trans hpre.length_le (by omega)
    rw [List.length_append, List.length_singleton] at hpl
    have hbd1 : pre.length + 1 ≤ maxLen := by unfold maxLen; omega
    have hbd2 : (pre.length + 1) * 16 ≤ 140737488355328 := by omega
    clear hpl
    gi_wp2_with (gi_at_builtin; refine wpListIn_append_own _ rfl _ _ 51 rfl H 9 ti tz 1 16 Tryz.underlying51 hi hz hz1 hz2 hz3 (by decide) _ pre.length _ rfl (World.ownsRow.alloc h4 _) ⟨W.heap.size, 0, none⟩ 1 1 [.string x] rfl rfl (cell_one_new _ _ _) (by simp [Value.oneCell']) hbd1 hbd2 (by simp; omega) ?_)
    intro v' w2 hown' hgrow _
    obtain ⟨g', cap', rfl⟩ := ownsRow_succ hown'
    obtain ⟨hv1, hv2, hr2, hk2, hb2⟩ := h3.appended (n₀ := H) (by decide) h4 (by omega) (Nat.le_refl _) hown' hgrow
    have hc1 := hv1.cell
    have hf1 := hv1.frozen
    have hge : ∀ k, v.ownBlock = some k → H ≤ k := fun k hk => owns_ge h4 k hk
    have hone : One b W (w2.setCell ⟨H, 0, none⟩ (.slice (some ⟨g', 0, none⟩) (pre.length + 1) cap')) :=
      (Below.heap_setCell _ _ _ _ (by show b ≠ H; omega)).trans ((hgrow.block b (by simp; omega) (fun e => by have := hge b e.symm; omega)).trans (Below.heap_alloc _ _ _ (by omega)))
    have hr3 : (w2.setCell ⟨H, 0, none⟩ (.slice (some ⟨g', 0, none⟩) (pre.length + 1) cap')).ownsRow H 9 1 (.slice (some ⟨g', 0, none⟩) (pre.length + 1) cap') (pre ++ [x]).length (Strs.all (pre ++ [x])) := by
      rw [Strs.all_snoc, List.length_append, List.length_singleton]
      exact hr2
    gi_wp2
    exact ⟨hk2.from _, hone, _, hv2, hr3, h5.trans (hb2.mono (by omega)), Nat.le_trans h6 hb2.size⟩
  case done =>
    rintro D xs W hD rfl ⟨v, h3, h4, h5, h6⟩ hK
    have hvc := h3.cell
    gi_wp2
    refine ⟨by simp, .inl ⟨_, _, rfl, run_takeDeferred hK, ?_⟩⟩
    refine ⟨_, results_tmp rfl _ _ _, ⟨_, rfl, by rw [hH]; exact ownsRow_putObj h4 _ hK rfl⟩, ?_⟩
    exact h5.trans (belowK_b (w := W0) (by omega) _ D _ _ (by omega) hK rfl rfl)
  case pan =>
    rintro D ch W hD h _
    exact h.elim

set_option maxHeartbeats 1000000 in
theorem collect_any (b : Nat) (s : ByteArray) (hsz : s.size ≤ 100000) (w : World) (h0 : Boxed w b 9 (.string s)) :
    Calls Tryz.prog 14 #[.func (.func 33) #[] #[.pointer (some ⟨b, 0, none⟩)]] w fun e w' => (∃ v, e = .returned v ∧ w'.ownsRow w.heap.size 9 1 v (Cf.linesB s).length (Strs.all (Cf.linesB s))) ∧ Below b w w' := by
  have H := Lib.hid (Kn.calls (appendSeq_in b s hsz w h0))
  clear h0
  go_enter Tryz.func14, Tryz.ntmps14
  go_wp2_with fail
  refine H.out.mono ?_
  rintro e w1 ⟨⟨v, rfl, ho⟩, hb⟩
  go_wp2_with fail
  go_ret
  exact ⟨⟨v, rfl, ho⟩, hb⟩
set_option maxHeartbeats 1000000 in
theorem lines_any (s : ByteArray) (w : World) : Calls Tryz.prog 15 #[.string s] w fun e w' => e = .returned (.func (.func 33) #[] #[.pointer (some ⟨w.heap.size, 0, none⟩)]) ∧ w' = w.alloc (.cells #[.string s] 9) := by
  have hmf : ∀ (fn : Fn) (first cap : Array Value) (w : World), (Instr.makeFunc fn first cap).run Tryz.prog w = .ok (.func fn first cap) w := fun _ _ _ _ => rfl
  go_enter Tryz.func15, Tryz.ntmps15
  go_wp2_with fail
  go_ret
  exact ⟨rfl, rfl⟩
end Go.Proofs.YthfckdnennfnoaaGreatDoor
