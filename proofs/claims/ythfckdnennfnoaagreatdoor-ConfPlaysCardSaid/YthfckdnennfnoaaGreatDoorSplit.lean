/- strings.SplitSeq at a separator of one byte. By an AI agent. -/
import Derived.Test.YthfckdnennfnoaaGreatDoorFenceZ
import Derived.Test.YthfckdnennfnoaaGreatDoorIdx
import Derived.Lib.Hide
namespace Go.Proofs.YthfckdnennfnoaaGreatDoor
open Go.RowKit Go.Shelf
attribute [local go_sem] Oper.semAt_some

namespace Oct
/-- what lies between the signs c -/
def parts (c : UInt8) : List UInt8 → List (List UInt8)
  | [] => [[]]
  | a :: l => if a = c then [] :: parts c l else match parts c l with
    | [] => [[a]]
    | p :: ps => (a :: p) :: ps
theorem parts_no (c : UInt8) : ∀ l, Lib.indexByte l c < 0 → parts c l = [l]
  | [], _ => rfl
  | a :: l, h => by
    unfold Lib.indexByte at h
    have hg := Lib.indexByte_ge l c
    by_cases e : a = c
    · subst e
      simp at h
    · rw [if_neg (by simpa using e)] at h
      have h2 : Lib.indexByte l c < 0 := by
        split at h
        · rename_i h3
          rw [beq_iff_eq.1 h3]
          decide
        · omega
      unfold parts
      rw [if_neg e, parts_no c l h2]
theorem parts_at (c : UInt8) : ∀ l, 0 ≤ Lib.indexByte l c → ∃ i : Nat, Lib.indexByte l c = i ∧ i < l.length ∧ parts c l = l.take i :: parts c (l.drop (i + 1))
  | [], h => absurd (show (0 : Int) ≤ -1 from h) (by decide)
  | a :: l, h => by
    unfold Lib.indexByte at h ⊢
    by_cases e : a = c
    · subst e
      refine ⟨0, by simp, by simp, ?_⟩
      rw [parts, if_pos rfl]
      rfl
    · rw [if_neg (by simpa using e)] at h ⊢
      have hg := Lib.indexByte_ge l c
      split at h
      · exact absurd h (by decide)
      · rename_i h3
        rw [if_neg h3]
        have h4 : Lib.indexByte l c ≠ -1 := fun h => h3 (beq_iff_eq.2 h)
        obtain ⟨i, e1, e2, e3⟩ := parts_at c l (by omega)
        refine ⟨i + 1, by rw [e1]; rfl, by simpa using e2, ?_⟩
        rw [parts, if_neg e, e3]
        rfl
def pieces (c : UInt8) (s : ByteArray) : List ByteArray := (parts c s.data.toList).map fun l => ⟨l.toArray⟩
theorem pieces_no {c : UInt8} {s : ByteArray} (h : Lib.indexByte s.data.toList c < 0) : pieces c s = [s] := by
  unfold pieces
  rw [parts_no c _ h]
  simp
theorem pieces_at {c : UInt8} {s : ByteArray} (h : 0 ≤ Lib.indexByte s.data.toList c) : ∃ i : Nat, Lib.indexByte s.data.toList c = i ∧ i < s.size ∧ pieces c s = s.extract 0 i :: pieces c (s.extract (i + 1) s.size) := by
  obtain ⟨i, e1, e2, e3⟩ := parts_at c _ h
  have hl : s.data.toList.length = s.size := by simp
  refine ⟨i, e1, by omega, ?_⟩
  unfold pieces
  rw [e3, List.map_cons]
  congr 1
  · apply ByteArray.ext
    apply Array.toList_inj.1
    simp
  · congr 2
    simp
    rw [List.take_of_length_le]
    rw [List.length_drop, hl]
    omega
end Oct

/-- how long the text in a box is: for a measure -/
def lenAt (w : World) (b : Nat) : Nat := match w.cell? ⟨b, 0, none⟩ with
  | some (.string s) => s.size
  | _ => 0
theorem lenAt_eq {w : World} {b : Nat} {s : ByteArray} (h : w.cell? ⟨b, 0, none⟩ = some (.string s)) : lenAt w b = s.size := by
  unfold lenAt
  rw [h]

def Three (b : Nat) (W W' : World) : Prop := W'.heap[b]? = W.heap[b]? ∧ W'.heap[b + 1]? = W.heap[b + 1]? ∧ W'.heap[b + 2]? = W.heap[b + 2]?
theorem Three.trans {b : Nat} {A B C : World} (h : Three b A B) (k : Three b B C) : Three b A C := ⟨k.1.trans h.1, k.2.1.trans h.2.1, k.2.2.trans h.2.2⟩
theorem Three.put {b N : Nat} (hb : b + 2 < N) (W : World) (l : Nat) (o : Obj) (hl : N ≤ l) : Three b W (W.putObj l o) :=
  ⟨World.putObj_heap_other (by omega), World.putObj_heap_other (by omega), World.putObj_heap_other (by omega)⟩
theorem Three.setCell {b m : Nat} (h : m < b) (W : World) (k : Nat) (v : Value) : Three b W (W.setCell ⟨m, k, none⟩ v) :=
  ⟨Below.heap_setCell _ _ _ _ (by show _ ≠ m; omega), Below.heap_setCell _ _ _ _ (by show _ ≠ m; omega), Below.heap_setCell _ _ _ _ (by show _ ≠ m; omega)⟩
theorem Three.below {b N : Nat} (hb : b + 2 < N) {W W' : World} (h : Below N W W') : Three b W W' := ⟨h.block _ (by omega), h.block _ (by omega), h.block _ (by omega)⟩

set_option maxRecDepth 100000 in
set_option maxHeartbeats 4000000 in
theorem split1_in (n : Nat) (hn : 1 ≤ n) (l b : Nat) (c : UInt8) (s : ByteArray) (hsz : s.size ≤ 100000) (J Jx : List ByteArray → World → Prop) (hJ : TurnsZ b J)
    (hY : ∀ pre x W, J pre W → YieldAt Fence.wide (n - 1) Tryz.prog l #[.string x] W fun e W' =>
      (e = .returned (.bool true) ∧ J (pre ++ [x]) W' ∧ Three b W W') ∨ (e = .returned (.bool false) ∧ Jx (pre ++ [x]) W'))
    (W : World) (h0 : Boxed W b 9 (.string s)) (h1 : Boxed W (b + 1) 9 (.string ⟨#[c]⟩)) (h2 : Boxed W (b + 2) 3 (.int .i64 0)) (hj : J [] W) :
    CallsIn Fence.wide n Tryz.prog 97 #[.func (.yield l) #[] #[], .pointer (some ⟨b + 1, 0, none⟩), .pointer (some ⟨b, 0, none⟩), .pointer (some ⟨b + 2, 0, none⟩)] W fun e W' => (∃ v, e = .returned v) ∧
      ((∃ xs, xs = Oct.pieces c s ∧ J xs W') ∨ (∃ pre, pre <+: Oct.pieces c s ∧ Jx pre W')) := by
  have c1 := h1.cell
  refine callsIn_of_wp Tryz.func97 rfl trivial ?_ rfl
  simp only [Tryz.ntmps97, List.size_toArray, List.length_cons, List.length_nil, Nat.reduceAdd, Nat.reduceSub, Array.replicate_succ, Array.replicate_zero, List.push_toArray, List.append_toArray, List.nil_append, List.cons_append]
  gi_wp2
  gi_loopw [7, 8] (fun _ _ wr => ∃ (pre : List ByteArray) (r : ByteArray), Oct.pieces c s = pre ++ Oct.pieces c r ∧ r.size ≤ 100000 ∧ Boxed wr b 9 (.string r) ∧ Boxed wr (b + 1) 9 (.string ⟨#[c]⟩) ∧ Boxed wr (b + 2) 3 (.int .i64 0) ∧ J pre wr)
    (fun _ _ wr => lenAt wr b)
  case atStart => exact ⟨[], s, rfl, hsz, h0, h1, h2, hj⟩
  case round =>
    clear h0 h1 h2 hj c1
    rename_i wr
    obtain ⟨pre, r, hp, hrz, h0, h1, h2, hj⟩ := hrel
    have c0 := h0.cell
    have c1 := h1.cell
    have c2 := h2.cell
    have f0 := h0.frozen
    by_cases hi : 0 ≤ Lib.indexByte r.data.toList c
    · obtain ⟨i, e1, e2, e3⟩ := Oct.pieces_at hi
      obtain ⟨fn, tmps, assign, body, hy, hR⟩ := hY pre (r.extract 0 i) wr hj
      have hix := Lib.hid (index_one_any r c wr)
      rw [e1] at hix
      clear hi e1
      have hs1 : ∀ w, (Instr.slice 9 (.string r) none (some (.int .i64 (i : Int))) none).run Tryz.prog w = .ok (.string (r.extract 0 i)) w := fun w => by
        have h := run_slice_string_h (P := Tryz.prog) (t := 9) (s := r) (w := w) Tryz.underlying9 .i64 (i : Int) (by omega) (by omega)
        simpa using h
      have hs2 : ∀ w, (Instr.slice 9 (.string r) (some (.int .i64 ((i : Int) + 1))) none none).run Tryz.prog w = .ok (.string (r.extract (i + 1) r.size)) w := fun w => by
        have h := run_slice_string_l (P := Tryz.prog) (t := 9) (s := r) (w := w) Tryz.underlying9 .i64 ((i : Int) + 1) (by omega) (by omega)
        simpa using h
      gi_wp2_with (refine ⟨trivial, ?_⟩; gi_at_call 75; refine (callsIn_wide.2 hix.out).mono ?_; rintro e w' ⟨rfl, rfl⟩)
      refine hR.mono ?_
      rintro e W3 (⟨rfl, hJ3, hk3⟩ | ⟨rfl, hJx3⟩)
      · have g0 : Boxed W3 b 9 (.string r) := hk3.1.trans h0
        have g1 : Boxed W3 (b + 1) 9 (.string ⟨#[c]⟩) := hk3.2.1.trans h1
        have g2 : Boxed W3 (b + 2) 3 (.int .i64 0) := hk3.2.2.trans h2
        clear c0 c1 c2 f0
        have c0 := g0.cell
        have c1 := g1.cell
        have f0 := g0.frozen
        gi_wp2
        go_roundw
        case rel =>
          exact ⟨pre ++ [r.extract 0 i], r.extract (i + 1) r.size, by rw [hp, e3, List.append_assoc]; rfl, by rw [ByteArray.size_extract]; omega, g0.set _, g1.other (by omega) _, g2.other (by omega) _, hJ _ _ _ _ hJ3 (grownBy_setCell' _ _ _) (fun r' e => by cases e; rfl)⟩
        case measure =>
          rw [lenAt_eq (g0.set _).cell, lenAt_eq h0.cell, ByteArray.size_extract]
          omega
      · gi_wp2
        refine bodyPost_ret (results_none rfl _ _ _) rfl ?_
        exact ⟨⟨_, rfl⟩, .inr ⟨pre ++ [r.extract 0 i], by rw [hp, e3]; exact ⟨Oct.pieces c (r.extract (i + 1) r.size), by rw [List.append_assoc]; rfl⟩, hJx3⟩⟩
    · have hi' : Lib.indexByte r.data.toList c < 0 := by omega
      have e3 := Oct.pieces_no hi'
      obtain ⟨fn, tmps, assign, body, hy, hR⟩ := hY pre r wr hj
      have hix := Lib.hid (index_one_any r c wr)
      generalize Lib.indexByte r.data.toList c = i at *
      gi_wp2_with (refine ⟨trivial, ?_⟩; gi_at_call 75; refine (callsIn_wide.2 hix.out).mono ?_; rintro e w' ⟨rfl, rfl⟩)
      refine hR.mono ?_
      rintro e W3 (⟨rfl, hJ3, hk3⟩ | ⟨rfl, hJx3⟩)
      · gi_wp2
        go_end0
        exact ⟨⟨_, rfl⟩, .inl ⟨pre ++ [r], by rw [hp, e3], hJ3⟩⟩
      · gi_wp2
        go_end0
        exact ⟨⟨_, rfl⟩, .inr ⟨pre ++ [r], by rw [hp, e3]; exact ⟨[], by simp⟩, hJx3⟩⟩
end Go.Proofs.YthfckdnennfnoaaGreatDoor
