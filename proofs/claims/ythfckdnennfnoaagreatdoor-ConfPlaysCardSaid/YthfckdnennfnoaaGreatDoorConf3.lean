/- strings.SplitSeq, and a range over it, in the fence of the functions that there are. By an AI agent. -/
import Derived.Test.YthfckdnennfnoaaGreatDoorConf2
import Derived.Test.YthfckdnennfnoaaGreatDoorSplit
namespace Go.Proofs.YthfckdnennfnoaaGreatDoor
open Go.RowKit Go.Shelf
attribute [local go_sem] Oper.semAt_some

set_option maxHeartbeats 1000000 in
set_option maxRecDepth 100000 in
theorem slite_byte_in (n : Nat) (s : ByteArray) (c : Int) (w : World) : CallsIn Kn n Tryz.prog 55 #[.string s, .int .u8 c] w fun e w' => e = .returned (.int .i64 (Lib.indexByte s.data.toList c.toNat.toUInt8)) ∧ w = w' := by
  have hro : Kn.round = none := rfl
  refine callsIn_of_wp Tryz.func55 rfl ⟨_, Tryz.func55⟩ ?_ rfl
  simp only [Tryz.ntmps55, List.size_toArray, List.length_cons, List.length_nil, Nat.reduceAdd, Nat.reduceSub, Array.replicate_succ, Array.replicate_zero, List.push_toArray, List.append_toArray, List.nil_append, List.cons_append]
  gi_wp2
  refine ⟨⟨_, Tryz.func71⟩, ?_⟩
  rw [run_callFunc_extern Tryz.func71 (by kernel_rfl) (by kernel_rfl) (by kernel_rfl) (e := Extern.BytealgIndexByte.indexByte) (by kernel_rfl), Lib.run_indexByteString]
  simp only [Result.andThen]
  rw [Oper.uponIn_value]
  gi_wp2
  go_ret
  exact ⟨rfl, rfl⟩

set_option maxHeartbeats 2000000 in
set_option maxRecDepth 100000 in
theorem slite_one_in (n : Nat) (s : ByteArray) (c : UInt8) (w : World) : CallsIn Kn n Tryz.prog 86 #[.string s, .string ⟨#[c]⟩] w fun e w' => e = .returned (.int .i64 (Lib.indexByte s.data.toList c)) ∧ w = w' := by
  have hro : Kn.round = none := rfl
  refine callsIn_of_wp Tryz.func86 rfl ⟨_, Tryz.func86⟩ ?_ rfl
  simp only [Tryz.ntmps86, List.size_toArray, List.length_cons, List.length_nil, Nat.reduceAdd, Nat.reduceSub, Array.replicate_succ, Array.replicate_zero, List.push_toArray, List.append_toArray, List.nil_append, List.cons_append]
  gi_wp2_with (refine ⟨⟨_, Tryz.func55⟩, (slite_byte_in _ _ _ _).mono ?_⟩; rintro e w' ⟨rfl, rfl⟩)
  · have h : ([c] == s.toList) = true := by assumption
    go_ret
    refine ⟨?_, rfl⟩
    have e : s.data.toList = [c] := by rw [← Lib.toList_data]; exact (beq_iff_eq.1 h).symm
    rw [e]
    simp [Lib.indexByte]
  · go_ret
    exact ⟨rfl, rfl⟩

set_option maxHeartbeats 1000000 in
theorem index_one_in (n : Nat) (s : ByteArray) (c : UInt8) (w : World) : CallsIn Kn n Tryz.prog 75 #[.string s, .string ⟨#[c]⟩] w fun e w' => e = .returned (.int .i64 (Lib.indexByte s.data.toList c)) ∧ w = w' := by
  have hro : Kn.round = none := rfl
  refine callsIn_of_wp Tryz.func75 rfl ⟨_, Tryz.func75⟩ ?_ rfl
  simp only [Tryz.ntmps75, List.size_toArray, List.length_cons, List.length_nil, Nat.reduceAdd, Nat.reduceSub, Array.replicate_succ, Array.replicate_zero, List.push_toArray, List.append_toArray, List.nil_append, List.cons_append]
  gi_wp2_with (refine ⟨⟨_, Tryz.func86⟩, (slite_one_in _ _ _ _).mono ?_⟩; rintro e w' ⟨rfl, rfl⟩)
  go_ret
  exact ⟨rfl, rfl⟩

set_option maxRecDepth 100000 in
set_option maxHeartbeats 4000000 in
theorem split1_kn (n : Nat) (l b : Nat) (c : UInt8) (s : ByteArray) (hsz : s.size ≤ 100000) (J : List ByteArray → World → Prop) (Jp : List PanicEntry → World → Prop) (hJ : TurnsZ b J)
    (hY : ∀ pre x W, J pre W → pre ++ [x] <+: Oct.pieces c s → YieldAt Kn (n - 1) Tryz.prog l #[.string x] W fun e W' =>
      (e = .returned (.bool true) ∧ J (pre ++ [x]) W' ∧ Three b W W') ∨ (∃ ch, e = .panicked ch ∧ Jp ch W'))
    (W : World) (h0 : Boxed W b 9 (.string s)) (h1 : Boxed W (b + 1) 9 (.string ⟨#[c]⟩)) (h2 : Boxed W (b + 2) 3 (.int .i64 0)) (hj : J [] W) :
    CallsIn Kn n Tryz.prog 97 #[.func (.yield l) #[] #[], .pointer (some ⟨b + 1, 0, none⟩), .pointer (some ⟨b, 0, none⟩), .pointer (some ⟨b + 2, 0, none⟩)] W fun e W' => ((∃ v, e = .returned v) ∧ ∃ xs, xs = Oct.pieces c s ∧ J xs W') ∨ (∃ ch, e = .panicked ch ∧ Jp ch W') := by
  have hro : Kn.round = none := rfl
  have c1 := h1.cell
  refine callsIn_of_wp Tryz.func97 rfl ⟨_, Tryz.func97⟩ ?_ rfl
  simp only [Tryz.ntmps97, List.size_toArray, List.length_cons, List.length_nil, Nat.reduceAdd, Nat.reduceSub, Array.replicate_succ, Array.replicate_zero, List.push_toArray, List.append_toArray, List.nil_append, List.cons_append]
  gi_wp2
  gi_loopw [7, 8] (fun _ _ wr => ∃ (pre : List ByteArray) (r : ByteArray), Oct.pieces c s = pre ++ Oct.pieces c r ∧ r.size ≤ 100000 ∧ Boxed wr b 9 (.string r) ∧ Boxed wr (b + 1) 9 (.string ⟨#[c]⟩) ∧ Boxed wr (b + 2) 3 (.int .i64 0) ∧ J pre wr)
    (fun _ _ wr => lenAt wr b)
  case atStart => exact ⟨[], s, rfl, hsz, h0, h1, h2, hj⟩
  case round =>
    clear h0 h1 h2 hj c1
    rename_i wr
    obtain ⟨pre, r, hp, hrz, h0, h1, h2, hj⟩ := hrel
    have c0 := h0.cell
    have c1 := h1.cell
    have c2 := h2.cell
    have f0 := h0.frozen
    by_cases hi : 0 ≤ Lib.indexByte r.data.toList c
    · obtain ⟨i, e1, e2, e3⟩ := Oct.pieces_at hi
      obtain ⟨fn, tmps, assign, body, hy, hR⟩ := hY pre (r.extract 0 i) wr hj ⟨Oct.pieces c (r.extract (i + 1) r.size), by rw [hp, e3, List.append_assoc]; rfl⟩
      have hix := Lib.hid (fun n => index_one_in n r c wr)
      rw [e1] at hix
      clear hi e1
      have hs1 : ∀ w, (Instr.slice 9 (.string r) none (some (.int .i64 (i : Int))) none).run Tryz.prog w = .ok (.string (r.extract 0 i)) w := fun w => by
        have h := run_slice_string_h (P := Tryz.prog) (t := 9) (s := r) (w := w) Tryz.underlying9 .i64 (i : Int) (by omega) (by omega)
        simpa using h
      have hs2 : ∀ w, (Instr.slice 9 (.string r) (some (.int .i64 ((i : Int) + 1))) none none).run Tryz.prog w = .ok (.string (r.extract (i + 1) r.size)) w := fun w => by
        have h := run_slice_string_l (P := Tryz.prog) (t := 9) (s := r) (w := w) Tryz.underlying9 .i64 ((i : Int) + 1) (by omega) (by omega)
        simpa using h
      gi_wp2_with (refine ⟨⟨_, Tryz.func75⟩, (hix.out _).mono ?_⟩; rintro e w' ⟨rfl, rfl⟩)
      refine hR.mono ?_
      rintro e W3 (⟨rfl, hJ3, hk3⟩ | ⟨ch, rfl, hJx3⟩)
      · have g0 : Boxed W3 b 9 (.string r) := hk3.1.trans h0
        have g1 : Boxed W3 (b + 1) 9 (.string ⟨#[c]⟩) := hk3.2.1.trans h1
        have g2 : Boxed W3 (b + 2) 3 (.int .i64 0) := hk3.2.2.trans h2
        clear c0 c1 c2 f0
        have c0 := g0.cell
        have c1 := g1.cell
        have f0 := g0.frozen
        gi_wp2
        go_roundw
        case rel =>
          exact ⟨pre ++ [r.extract 0 i], r.extract (i + 1) r.size, by rw [hp, e3, List.append_assoc]; rfl, by rw [ByteArray.size_extract]; omega, g0.set _, g1.other (by omega) _, g2.other (by omega) _, hJ _ _ _ _ hJ3 (grownBy_setCell' _ _ _) (fun r' e => by cases e; rfl)⟩
        case measure =>
          rw [lenAt_eq (g0.set _).cell, lenAt_eq h0.cell, ByteArray.size_extract]
          omega
      · exact ⟨rfl, .inr ⟨ch, rfl, hJx3⟩⟩
    · have hi' : Lib.indexByte r.data.toList c < 0 := by omega
      have e3 := Oct.pieces_no hi'
      obtain ⟨fn, tmps, assign, body, hy, hR⟩ := hY pre r wr hj ⟨[], by rw [hp, e3]; simp⟩
      have hix := Lib.hid (fun n => index_one_in n r c wr)
      generalize Lib.indexByte r.data.toList c = i at *
      gi_wp2_with (refine ⟨⟨_, Tryz.func75⟩, (hix.out _).mono ?_⟩; rintro e w' ⟨rfl, rfl⟩)
      refine hR.mono ?_
      rintro e W3 (⟨rfl, hJ3, hk3⟩ | ⟨ch, rfl, hJx3⟩)
      · gi_wp2
        go_end0
        exact .inl ⟨⟨_, rfl⟩, pre ++ [r], by rw [hp, e3], hJ3⟩
      · exact ⟨rfl, .inr ⟨ch, rfl, hJx3⟩⟩

end Go.Proofs.YthfckdnennfnoaaGreatDoor
