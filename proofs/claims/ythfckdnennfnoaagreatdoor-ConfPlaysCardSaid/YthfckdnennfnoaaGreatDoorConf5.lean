/- conf: bridge. By an AI agent. -/
import Derived.Test.YthfckdnennfnoaaGreatDoorConf4
import Derived.Test.YthfckdnennfnoaaGreatDoorPart
namespace Go.Proofs.YthfckdnennfnoaaGreatDoor
open Go.RowKit Go.Sort Grow

section
variable {P : Program} {ops : Array Oper} {rest : List Oper} {o : Oper} {a : Act} {w : World} {Q : Exit → Act → World → Prop}
theorem wpList_arrayAt (hgd : Region.wanted o (yielded ops a.tmps) = true) (arr e : TypeId) (n : Nat) (x : Operand) (ho : o.op = .sliceToArrayPointer arr x) (b m cap : Nat) (hx : a.eval x = .slice (some ⟨b, 0, none⟩) m cap)
    (ha : P.underlying arr = some (.array n e)) (hn : n ≤ m)
    (h : wpList P ops Q rest (a.put o.dst (.pointer (some ⟨b, 0, none⟩))) w) : wpList P ops Q (o :: rest) a w :=
  BigFrame.wpList_want hgd fun _ hK => by
    unfold Oper.wp execOp
    simp only [ho, hx, Sem.run_bind, run_arrayAt w arr e n _ _ cap ha hn, Result.andThen_ok, Sem.run_pure]
    exact hK _ _ h
theorem wpList_load_cells (hgd : Region.wanted o (yielded ops a.tmps) = true) (ty e : TypeId) (n : Nat) (x : Operand) (ho : o.op = .load ty x) (b : Nat) (vs : List Value) (hx : a.eval x = .pointer (some ⟨b, 0, none⟩)) (hc : CellsAt w b vs)
    (hu : P.underlying ty = some (.array n e)) (hi : (P.info? ty).map (·.size) = some vs.length)
    (h : wpList P ops Q rest (a.put o.dst (.agg vs.toArray)) w) : wpList P ops Q (o :: rest) a w :=
  BigFrame.wpList_want hgd fun _ hK => by
    unfold Oper.wp execOp
    simp only [ho, hx, Instr.loadAt, Instr.sureAddr, Sem.run_bind, Sem.run_pure, Result.andThen_ok, run_loadVar_cells hc hu hi]
    exact hK _ _ h
theorem at_arr (ty : TypeId) (x : Operand) {dst : Option Tmp} {t : TypeId} {pos : String} {aft : Array Edge} {g : Option _}
    (h : wpList P ops Q (⟨dst, .sliceToArrayPointer ty x, t, pos, aft, g⟩ :: rest) a w) : wpList P ops Q (⟨dst, .sliceToArrayPointer ty x, t, pos, aft, g⟩ :: rest) a w := h
end

namespace Cf
def part (ps : List ByteArray) (k : Nat) : List UInt8 := (ps.getD k ⟨#[]⟩).data.toList
def lists (ps : List ByteArray) : List (List UInt8) := ps.map fun x => x.data.toList
theorem bridge_len {ps : List ByteArray} (h : ps.length ≠ 6) : bridgeOf (lists ps) = none := by
  match ps, h with
  | [], _ => rfl
  | [_], _ => rfl
  | [_, _], _ => rfl
  | [_, _, _], _ => rfl
  | [_, _, _, _], _ => rfl
  | [_, _, _, _, _], _ => rfl
  | [_, _, _, _, _, _], h => exact absurd rfl h
  | _ :: _ :: _ :: _ :: _ :: _ :: _ :: _, _ => rfl
theorem bridge_is {ps : List ByteArray} (h : ps.length = 6) : bridgeOf (lists ps) = (if part ps 0 = wBridge then match bytesOf (part ps 1) 8, numOf (part ps 2), numOf (part ps 3), numOf (part ps 4), numOf (part ps 5) with
    | some i, some a, some b, some c, some d => some ⟨i, a, b, c, d⟩
    | _, _, _, _, _ => none
    else none) := by
  match ps, h with
  | [_, _, _, _, _, _], _ => rfl
theorem bridge_word {ps : List ByteArray} (h : part ps 0 ≠ wBridge) : bridgeOf (lists ps) = none := by
  by_cases hl : ps.length = 6
  · rw [bridge_is hl, if_neg h]
  · exact bridge_len hl
theorem bridge_bad {ps : List ByteArray} (h : bytesOf (part ps 1) 8 = none ∨ ∃ j, 2 ≤ j ∧ j ≤ 5 ∧ numOf (part ps j) = none) : bridgeOf (lists ps) = none := by
  by_cases hl : ps.length = 6
  · rw [bridge_is hl]
    by_cases hw : part ps 0 = wBridge
    · rw [if_pos hw]
      rcases h with h | ⟨j, h1, h2, h⟩
      · rw [h]
      · have : j = 2 ∨ j = 3 ∨ j = 4 ∨ j = 5 := by omega
        rcases this with rfl | rfl | rfl | rfl
        · rw [h]; cases bytesOf (part ps 1) 8 <;> rfl
        · rw [h]; cases bytesOf (part ps 1) 8 <;> cases numOf (part ps 2) <;> rfl
        · rw [h]; cases bytesOf (part ps 1) 8 <;> cases numOf (part ps 2) <;> cases numOf (part ps 3) <;> rfl
        · rw [h]; cases bytesOf (part ps 1) 8 <;> cases numOf (part ps 2) <;> cases numOf (part ps 3) <;> cases numOf (part ps 4) <;> rfl
    · rw [if_neg hw]
  · exact bridge_len hl
theorem bridge_some {ps : List ByteArray} {i : List UInt8} {a b c d : Nat} (h : ps.length = 6) (hw : part ps 0 = wBridge) (hi : bytesOf (part ps 1) 8 = some i) (ha : numOf (part ps 2) = some a) (hb : numOf (part ps 3) = some b) (hc : numOf (part ps 4) = some c) (hd : numOf (part ps 5) = some d) :
    bridgeOf (lists ps) = some ⟨i, a, b, c, d⟩ := by
  rw [bridge_is h, if_pos hw, hi, ha, hb, hc, hd]
/-- a configuration's cells -/
def bcells (b : Br) (pv : Value) : Array Value := (byteVals b.id ++ [.int .i64 b.maxAge, .int .i64 b.hello, .int .i64 b.delay, .int .i64 b.ageing, pv]).toArray
/-- the first line is read, or a panic -/
def BridgeAns (ps : List ByteArray) (C : Nat) (pv : Value) (e : Ending) (w : World) : Prop := match bridgeOf (lists ps) with
  | some b => e = .returned (.tuple #[]) ∧ RowIs w C 33 (bcells b pv)
  | none => e = .panicked ch
theorem bridgeAns_no {ps : List ByteArray} {C : Nat} {pv : Value} {w : World} (h : bridgeOf (lists ps) = none) : BridgeAns ps C pv (.panicked ch) w := by unfold BridgeAns; rw [h]
theorem bridgeAns_yes {ps : List ByteArray} {C : Nat} {pv : Value} {w : World} {b : Br} (h : bridgeOf (lists ps) = some b) (hr : RowIs w C 33 (bcells b pv)) : BridgeAns ps C pv (.returned (.tuple #[])) w := by unfold BridgeAns; rw [h]; exact ⟨rfl, hr⟩
theorem own_cells {w : World} {B : Nat} {v : Value} {l : List UInt8} (h : OwnB w B v l) (h1 : 1 ≤ l.length) : ∃ g cap, v = .slice (some ⟨g, 0, none⟩) l.length cap ∧ B ≤ g ∧ CellsAt w g (byteVals l) := by
  rcases h.2 with ⟨_, h0⟩ | ⟨g, cap, cur, rfl, hb, hg, hn, hc, hs, ht⟩
  · omega
  · refine ⟨g, cap, rfl, hb, (Array.getElem?_eq_some_iff.1 hg).1, fun j v hj => ?_⟩
    have hl : j < (byteVals l).length := (List.getElem?_eq_some_iff.1 hj).1
    rw [byteVals_length] at hl
    have := World.ownsRow.cellAt (h : w.ownsRow B 5 1 (.slice (some ⟨g, 0, none⟩) l.length cap) l.length (byteVals l)) j (by omega)
    rw [this]
    simpa using hj
theorem next_ok' (B R sb : Nat) (ps : List ByteArray) (k : Nat) (w : World) (h : PAt w R sb ps k) (hk : k < ps.length) (hB : B ≤ R) :
    Calls Tryz.prog 58 #[.pointer (some ⟨R, 0, none⟩)] w fun e w' => e = .returned (.string (ps.getD k ⟨#[]⟩)) ∧ PAt w' R sb ps (k + 1) ∧ Only [R] w w' ∧ Below B w w' := next_ok B R sb ps k w h hk hB
end Cf
theorem next_no' (R sb : Nat) (ps : List ByteArray) (k : Nat) (w : World) (h : Cf.PAt w R sb ps k) (hk : ¬ k < ps.length) :
    Calls Tryz.prog 58 #[.pointer (some ⟨R, 0, none⟩)] w fun e w' => e = .panicked Cf.ch ∧ w = w' := by
  obtain rfl : k = ps.length := by have := h.2.1; omega
  exact next_no R sb ps w h
theorem number_okC {s : ByteArray} {k : Nat} (h : Cf.numOf s.data.toList = some k) (w : World) : Calls Tryz.prog 60 #[.string s] w fun e w' => e = .returned (.int .i64 k) ∧ Below w.heap.size w w' := Kn.calls (number_ok h 0 w)
theorem number_badC {s : ByteArray} (h : Cf.numOf s.data.toList = none) (w : World) : Calls Tryz.prog 60 #[.string s] w fun e w' => e = .panicked Cf.ch ∧ Below w.heap.size w w' := Kn.calls (number_bad h 0 w)
theorem bytes_ok {s : ByteArray} {n : Nat} {bs : List UInt8} (h : Cf.bytesOf s.data.toList n = some bs) (hn : n ≤ 100) (h1 : 1 ≤ n) (w : World) : Calls Tryz.prog 59 #[.string s, .int .i64 n] w fun e w' => (∃ g cap, e = .returned (.slice (some ⟨g, 0, none⟩) n cap) ∧ w.heap.size ≤ g ∧ CellsAt w' g (byteVals bs)) ∧ Below w.heap.size w w' :=
  (bytes_any s n hn w).mono fun e w' ⟨h3, h2⟩ => by
    unfold Cf.BytesAns at h3
    rw [h] at h3
    obtain ⟨v, rfl, ho⟩ := h3
    have hl := Cf.bytesOf_length h
    obtain ⟨g, cap, rfl, hb, hc⟩ := Cf.own_cells ho (by omega)
    exact ⟨⟨g, cap, by rw [hl], hb, hc⟩, h2⟩
theorem bytes_bad {s : ByteArray} {n : Nat} (h : Cf.bytesOf s.data.toList n = none) (hn : n ≤ 100) (w : World) : Calls Tryz.prog 59 #[.string s, .int .i64 n] w fun e w' => e = .panicked Cf.ch ∧ Below w.heap.size w w' :=
  (bytes_any s n hn w).mono fun e w' ⟨h3, h2⟩ => ⟨by unfold Cf.BytesAns at h3; rw [h] at h3; exact h3, h2⟩

theorem next_okX {B R sb : Nat} {ps : List ByteArray} {k : Nat} {w : World} {x : ByteArray} (h : Cf.PAt w R sb ps k) (hk : k < ps.length) (hB : B ≤ R) (hx : ps.getD k ⟨#[]⟩ = x) :
    Calls Tryz.prog 58 #[.pointer (some ⟨R, 0, none⟩)] w fun e w' => e = .returned (.string x) ∧ Cf.PAt w' R sb ps (k + 1) ∧ Only [R] w w' ∧ Below B w w' := by
  subst hx
  exact next_ok B R sb ps k w h hk hB
theorem Cf.part_x {ps : List ByteArray} {k : Nat} {x : ByteArray} (hx : ps.getD k ⟨#[]⟩ = x) : Cf.part ps k = x.data.toList := by unfold Cf.part; rw [hx]
theorem Cf.eqT {x : ByteArray} {l : List UInt8} (h : x.data.toList = l) : (x.toList == l) = true := by rw [Lib.toList_data, h]; simp
theorem Cf.eqF {x : ByteArray} {l : List UInt8} (h : x.data.toList ≠ l) : (x.toList == l) = false := by rw [Lib.toList_data, beq_eq_false_iff_ne]; exact h

namespace Cf
theorem put_front (old new rest : List Value) (h : old.length = new.length) : putAt (old ++ rest) 0 new = new ++ rest := by
  unfold putAt
  rw [List.take_zero, List.nil_append, Nat.zero_add, ← h, List.drop_left]
theorem put_mid (xs old new rest : List Value) (h : old.length = new.length) : putAt (xs ++ (old ++ rest)) xs.length new = xs ++ (new ++ rest) := by
  unfold putAt
  rw [List.take_left, ← h, List.append_assoc]
  congr 1
  rw [← List.drop_drop, List.drop_left, List.drop_left]
theorem put_midK (xs old new rest : List Value) (k : Nat) (hk : xs.length = k) (h : old.length = new.length) : putAt (xs ++ (old ++ rest)) k new = xs ++ (new ++ rest) := by
  subst hk
  exact put_mid xs old new rest h
theorem one_bytes (l : List UInt8) : (byteVals l).toArray.all (·.oneCell') = true := by
  simp [byteVals, Value.oneCell']
theorem set_mid (xs : List Value) (k : Nat) (h : xs.length = k) (o v : Value) (rest : List Value) : ((xs ++ (o :: rest)).toArray).setIfInBounds k v = (xs ++ (v :: rest)).toArray := by
  subst h
  simp
end Cf

set_option maxRecDepth 20000 in
set_option maxHeartbeats 4000000 in
theorem bridge_any (B R sb C : Nat) (ps : List ByteArray) (id : List UInt8) (hid : id.length = 8) (a0 b0 c0 d0 pv : Value) (w0 : World) (hp : Cf.PAt w0 R sb ps 0) (hX : RowIs w0 C 33 (byteVals id ++ [a0, b0, c0, d0, pv]).toArray) (hBR : B ≤ R) (hBC : B ≤ C) (hRC : R ≠ C) (hSC : sb ≠ C) :
    Calls Tryz.prog 39 #[.pointer (some ⟨R, 0, none⟩), .pointer (some ⟨C, 0, none⟩)] w0 fun e w' => Cf.BridgeAns ps C pv e w' ∧ Only [R, C] w0 w' ∧ Below B w0 w' := by
  have hCR : C ≠ R := Ne.symm hRC
  have HLI := Lib.hid hid
  have HP0 := Lib.hid hp
  have HX0 := Lib.hid hX
  have HO0 := Lib.hid (Only.refl [R, C] w0)
  have HB0 := Lib.hid (Below.refl B w0)
  have hBw : B ≤ w0.heap.size := Nat.le_trans hBC (Nat.le_of_lt hX.lt)
  have HZ0 := Lib.hid hBw
  clear hp hX hid
  obtain ⟨x0, hx0⟩ : ∃ x, ps.getD 0 ⟨#[]⟩ = x := ⟨_, rfl⟩
  obtain ⟨x1, hx1⟩ : ∃ x, ps.getD 1 ⟨#[]⟩ = x := ⟨_, rfl⟩
  obtain ⟨x2, hx2⟩ : ∃ x, ps.getD 2 ⟨#[]⟩ = x := ⟨_, rfl⟩
  obtain ⟨x3, hx3⟩ : ∃ x, ps.getD 3 ⟨#[]⟩ = x := ⟨_, rfl⟩
  obtain ⟨x4, hx4⟩ : ∃ x, ps.getD 4 ⟨#[]⟩ = x := ⟨_, rfl⟩
  obtain ⟨x5, hx5⟩ : ∃ x, ps.getD 5 ⟨#[]⟩ = x := ⟨_, rfl⟩
  go_enter Tryz.func39, Tryz.ntmps39
  go_wp2_with fail
  by_cases q0 : 0 < ps.length
  case neg =>
    refine (next_no' R sb ps 0 _ HP0.out q0).mono ?_
    rintro e w' ⟨rfl, rfl⟩
    exact ⟨rfl, Cf.bridgeAns_no (Cf.bridge_len (by omega)), HO0.out, HB0.out⟩
  have HQ0 := Lib.hid q0
  clear q0
  refine (next_okX (B := B) HP0.out HQ0.out hBR hx0).mono ?_
  rintro e w1 ⟨rfl, hP, hO, hb⟩
  have HP1 := Lib.hid hP
  have HX1 := Lib.hid (HX0.out.only hO (by simpa using hCR))
  have HO1 := Lib.hid (HO0.out.trans (hO.mono (by simp)))
  have HB1 := Lib.hid (HB0.out.trans hb)
  clear hP hO hb HX0 HO0 HB0 HP0 HZ0
  have HZ1 : Hid (B ≤ w1.heap.size) := Nat.le_trans hBw HB1.out.size
  by_cases hw : x0.data.toList = Cf.wBridge
  case neg =>
    have hno := Cf.bridge_word (ps := ps) (by rw [Cf.part_x hx0]; exact hw)
    have dw : (x0.toList == [98, 114, 105, 100, 103, 101]) = false := Cf.eqF hw
    clear hw
    have HNO := Lib.hid hno
    clear hno
    go_wp2_with fail
    refine (must_not _).mono ?_
    rintro e w' ⟨rfl, rfl⟩
    exact ⟨rfl, Cf.bridgeAns_no HNO.out, HO1.out, HB1.out⟩
  have dw : (x0.toList == [98, 114, 105, 100, 103, 101]) = true := Cf.eqT hw
  have HW := Lib.hid hw
  clear hw
  go_wp2_with fail
  refine (must_ok _).mono ?_
  rintro e w' ⟨rfl, rfl⟩
  go_wp2_with fail
  by_cases q1 : 1 < ps.length
  case neg =>
    refine (next_no' R sb ps 1 _ HP1.out q1).mono ?_
    rintro e w' ⟨rfl, rfl⟩
    exact ⟨rfl, Cf.bridgeAns_no (Cf.bridge_len (by omega)), HO1.out, HB1.out⟩
  have HQ1 := Lib.hid q1
  clear q1
  refine (next_okX (B := B) HP1.out HQ1.out hBR hx1).mono ?_
  rintro e w2 ⟨rfl, hP, hO, hb⟩
  have HP2 := Lib.hid hP
  have HX2 := Lib.hid (HX1.out.only hO (by simpa using hCR))
  have HO2 := Lib.hid (HO1.out.trans (hO.mono (by simp)))
  have HB2 := Lib.hid (HB1.out.trans hb)
  clear hP hO hb HX1 HO1 HB1 HP1 HZ1
  have HZ2 : Hid (B ≤ w2.heap.size) := Nat.le_trans hBw HB2.out.size
  go_wp2_with fail
  cases hn : Cf.bytesOf x1.data.toList 8 with
  | none =>
    refine (bytes_bad (n := 8) hn (by decide) _).mono ?_
    rintro e w' ⟨rfl, hb⟩
    exact ⟨rfl, Cf.bridgeAns_no (Cf.bridge_bad (.inl (by rw [Cf.part_x hx1]; exact hn))), HO2.out.below hb, HB2.out.trans (hb.mono HZ2.out)⟩
  | some bs =>
    refine (bytes_ok (n := 8) hn (by decide) (by decide) _).mono ?_
    rintro e w3 ⟨⟨gb, cap, rfl, hgb, hcb⟩, hb⟩
    have HNbs := Lib.hid hn
    have HCB := Lib.hid hcb
    have HLbs := Lib.hid (Cf.bytesOf_length hn)
    clear hn hcb
    have HP3 := Lib.hid (HP2.out.kept hb)
    have HX3 := Lib.hid (HX2.out.kept hb)
    have HO3 := Lib.hid (HO2.out.below hb)
    have HB3 := Lib.hid (HB2.out.trans (hb.mono HZ2.out))
    clear hb HX2 HO2 HB2 HP2 HZ2
    have HZ3 : Hid (B ≤ w3.heap.size) := Nat.le_trans hBw HB3.out.size
    go_wp2_with (first | ((with_reducible refine at_arr 28 (.tmp 11) ?_); refine wpList_arrayAt rfl 28 5 8 (.tmp 11) rfl gb 8 cap rfl Tryz.underlying28 (by decide) ?_) | ((with_reducible refine at_load 28 (.tmp 12) ?_); refine wpList_load_cells rfl 28 5 8 (.tmp 12) rfl gb (byteVals bs) rfl HCB.out Tryz.underlying28 (by rw [byteVals_length, HLbs.out]; kernel_rfl) ?_) | ((with_reducible refine at_store 28 (.tmp 15) (.tmp 13) ?_); refine wpList_store_part rfl 28 (.tmp 15) (.tmp 13) rfl C 0 _ rfl rfl 33 _ HX3.out (by simp [byteVals_length, HLbs.out, HLI.out]) (by rw [List.size_toArray, byteVals_length, HLbs.out]; kernel_rfl) (Cf.one_bytes bs) (byteVals bs ++ [a0, b0, c0, d0, pv]).toArray (congrArg List.toArray (Cf.put_front _ _ _ (by rw [byteVals_length, byteVals_length, HLbs.out, HLI.out]))) B hBC ?_))
    intro w4 hR hO hs hb
    have HP4 := Lib.hid (HP3.out.only ((Only.refl [C] w3).store (List.mem_singleton.2 rfl) hO hs) (by simpa using hRC) (by simpa using hSC))
    have HX4 : Hid (RowIs w4 C 33 (byteVals bs ++ [a0, b0, c0, d0, pv]).toArray) := hR
    have HO4 := Lib.hid (HO3.out.store (S := C) (by simp) hO hs)
    have HB4 := Lib.hid (HB3.out.trans hb)
    clear hR hO hs hb HX3 HO3 HB3 HP3 HZ3
    have HZ4 : Hid (B ≤ w4.heap.size) := Nat.le_trans hBw HB4.out.size
    go_wp2_with fail
    by_cases q2 : 2 < ps.length
    case neg =>
      refine (next_no' R sb ps 2 _ HP4.out q2).mono ?_
      rintro e w' ⟨rfl, rfl⟩
      exact ⟨rfl, Cf.bridgeAns_no (Cf.bridge_len (by omega)), HO4.out, HB4.out⟩
    have HQ2 := Lib.hid q2
    clear q2
    refine (next_okX (B := B) HP4.out HQ2.out hBR hx2).mono ?_
    rintro e w5 ⟨rfl, hP, hO, hb⟩
    have HP5 := Lib.hid hP
    have HX5 := Lib.hid (HX4.out.only hO (by simpa using hCR))
    have HO5 := Lib.hid (HO4.out.trans (hO.mono (by simp)))
    have HB5 := Lib.hid (HB4.out.trans hb)
    clear hP hO hb HX4 HO4 HB4 HP4 HZ4
    have HZ5 : Hid (B ≤ w5.heap.size) := Nat.le_trans hBw HB5.out.size
    go_wp2_with fail
    cases hn : Cf.numOf x2.data.toList with
    | none =>
      refine (number_badC hn _).mono ?_
      rintro e w' ⟨rfl, hb⟩
      exact ⟨rfl, Cf.bridgeAns_no (Cf.bridge_bad (.inr ⟨2, by decide, by decide, by rw [Cf.part_x hx2]; exact hn⟩)), HO5.out.below hb, HB5.out.trans (hb.mono HZ5.out)⟩
    | some na =>
      refine (number_okC hn _).mono ?_
      rintro e w6 ⟨rfl, hb⟩
      have HNna := Lib.hid hn
      clear hn
      have HP6 := Lib.hid (HP5.out.kept hb)
      have HX6 := Lib.hid (HX5.out.kept hb)
      have HO6 := Lib.hid (HO5.out.below hb)
      have HB6 := Lib.hid (HB5.out.trans (hb.mono HZ5.out))
      clear hb HX5 HO5 HB5 HP5 HZ5
      have HZ6 : Hid (B ≤ w6.heap.size) := Nat.le_trans hBw HB6.out.size
      go_wp2_with fail
      by_cases q3 : 3 < ps.length
      case neg =>
        refine (next_no' R sb ps 3 _ HP6.out q3).mono ?_
        rintro e w' ⟨rfl, rfl⟩
        exact ⟨rfl, Cf.bridgeAns_no (Cf.bridge_len (by omega)), HO6.out, HB6.out⟩
      have HQ3 := Lib.hid q3
      clear q3
      refine (next_okX (B := B) HP6.out HQ3.out hBR hx3).mono ?_
      rintro e w7 ⟨rfl, hP, hO, hb⟩
      have HP7 := Lib.hid hP
      have HX7 := Lib.hid (HX6.out.only hO (by simpa using hCR))
      have HO7 := Lib.hid (HO6.out.trans (hO.mono (by simp)))
      have HB7 := Lib.hid (HB6.out.trans hb)
      clear hP hO hb HX6 HO6 HB6 HP6 HZ6
      have HZ7 : Hid (B ≤ w7.heap.size) := Nat.le_trans hBw HB7.out.size
      go_wp2_with fail
      cases hn : Cf.numOf x3.data.toList with
      | none =>
        refine (number_badC hn _).mono ?_
        rintro e w' ⟨rfl, hb⟩
        exact ⟨rfl, Cf.bridgeAns_no (Cf.bridge_bad (.inr ⟨3, by decide, by decide, by rw [Cf.part_x hx3]; exact hn⟩)), HO7.out.below hb, HB7.out.trans (hb.mono HZ7.out)⟩
      | some nb =>
        refine (number_okC hn _).mono ?_
        rintro e w8 ⟨rfl, hb⟩
        have HNnb := Lib.hid hn
        clear hn
        have HP8 := Lib.hid (HP7.out.kept hb)
        have HX8 := Lib.hid (HX7.out.kept hb)
        have HO8 := Lib.hid (HO7.out.below hb)
        have HB8 := Lib.hid (HB7.out.trans (hb.mono HZ7.out))
        clear hb HX7 HO7 HB7 HP7 HZ7
        have HZ8 : Hid (B ≤ w8.heap.size) := Nat.le_trans hBw HB8.out.size
        go_wp2_with fail
        by_cases q4 : 4 < ps.length
        case neg =>
          refine (next_no' R sb ps 4 _ HP8.out q4).mono ?_
          rintro e w' ⟨rfl, rfl⟩
          exact ⟨rfl, Cf.bridgeAns_no (Cf.bridge_len (by omega)), HO8.out, HB8.out⟩
        have HQ4 := Lib.hid q4
        clear q4
        refine (next_okX (B := B) HP8.out HQ4.out hBR hx4).mono ?_
        rintro e w9 ⟨rfl, hP, hO, hb⟩
        have HP9 := Lib.hid hP
        have HX9 := Lib.hid (HX8.out.only hO (by simpa using hCR))
        have HO9 := Lib.hid (HO8.out.trans (hO.mono (by simp)))
        have HB9 := Lib.hid (HB8.out.trans hb)
        clear hP hO hb HX8 HO8 HB8 HP8 HZ8
        have HZ9 : Hid (B ≤ w9.heap.size) := Nat.le_trans hBw HB9.out.size
        go_wp2_with fail
        cases hn : Cf.numOf x4.data.toList with
        | none =>
          refine (number_badC hn _).mono ?_
          rintro e w' ⟨rfl, hb⟩
          exact ⟨rfl, Cf.bridgeAns_no (Cf.bridge_bad (.inr ⟨4, by decide, by decide, by rw [Cf.part_x hx4]; exact hn⟩)), HO9.out.below hb, HB9.out.trans (hb.mono HZ9.out)⟩
        | some nc =>
          refine (number_okC hn _).mono ?_
          rintro e w10 ⟨rfl, hb⟩
          have HNnc := Lib.hid hn
          clear hn
          have HP10 := Lib.hid (HP9.out.kept hb)
          have HX10 := Lib.hid (HX9.out.kept hb)
          have HO10 := Lib.hid (HO9.out.below hb)
          have HB10 := Lib.hid (HB9.out.trans (hb.mono HZ9.out))
          clear hb HX9 HO9 HB9 HP9 HZ9
          have HZ10 : Hid (B ≤ w10.heap.size) := Nat.le_trans hBw HB10.out.size
          go_wp2_with ((with_reducible refine at_store 30 (.tmp 28) (.tmp 26) ?_); refine wpList_store_part rfl 30 (.tmp 28) (.tmp 26) rfl C 8 #[.int .i64 na, .int .i64 nb, .int .i64 nc] rfl rfl 33 _ HX10.out (by simp [byteVals_length, HLbs.out]) (by kernel_rfl) (by simp [Value.oneCell']) (byteVals bs ++ [.int .i64 na, .int .i64 nb, .int .i64 nc, d0, pv]).toArray (congrArg List.toArray (Cf.put_midK (byteVals bs) [a0, b0, c0] [.int .i64 na, .int .i64 nb, .int .i64 nc] [d0, pv] 8 (by rw [byteVals_length, HLbs.out]) rfl)) B hBC ?_)
          intro w11 hR hO hs hb
          have HP11 := Lib.hid (HP10.out.only ((Only.refl [C] w10).store (List.mem_singleton.2 rfl) hO hs) (by simpa using hRC) (by simpa using hSC))
          have HX11 : Hid (RowIs w11 C 33 (byteVals bs ++ [.int .i64 na, .int .i64 nb, .int .i64 nc, d0, pv]).toArray) := hR
          have HO11 := Lib.hid (HO10.out.store (S := C) (by simp) hO hs)
          have HB11 := Lib.hid (HB10.out.trans hb)
          clear hR hO hs hb HX10 HO10 HB10 HP10 HZ10
          have HZ11 : Hid (B ≤ w11.heap.size) := Nat.le_trans hBw HB11.out.size
          go_wp2_with fail
          by_cases q5 : 5 < ps.length
          case neg =>
            refine (next_no' R sb ps 5 _ HP11.out q5).mono ?_
            rintro e w' ⟨rfl, rfl⟩
            exact ⟨rfl, Cf.bridgeAns_no (Cf.bridge_len (by omega)), HO11.out, HB11.out⟩
          have HQ5 := Lib.hid q5
          clear q5
          refine (next_okX (B := B) HP11.out HQ5.out hBR hx5).mono ?_
          rintro e w12 ⟨rfl, hP, hO, hb⟩
          have HP12 := Lib.hid hP
          have HX12 := Lib.hid (HX11.out.only hO (by simpa using hCR))
          have HO12 := Lib.hid (HO11.out.trans (hO.mono (by simp)))
          have HB12 := Lib.hid (HB11.out.trans hb)
          clear hP hO hb HX11 HO11 HB11 HP11 HZ11
          have HZ12 : Hid (B ≤ w12.heap.size) := Nat.le_trans hBw HB12.out.size
          go_wp2_with fail
          cases hn : Cf.numOf x5.data.toList with
          | none =>
            refine (number_badC hn _).mono ?_
            rintro e w' ⟨rfl, hb⟩
            exact ⟨rfl, Cf.bridgeAns_no (Cf.bridge_bad (.inr ⟨5, by decide, by decide, by rw [Cf.part_x hx5]; exact hn⟩)), HO12.out.below hb, HB12.out.trans (hb.mono HZ12.out)⟩
          | some nd =>
            refine (number_okC hn _).mono ?_
            rintro e w13 ⟨rfl, hb⟩
            have HNnd := Lib.hid hn
            clear hn
            have HP13 := Lib.hid (HP12.out.kept hb)
            have HX13 := Lib.hid (HX12.out.kept hb)
            have HO13 := Lib.hid (HO12.out.below hb)
            have HB13 := Lib.hid (HB12.out.trans (hb.mono HZ12.out))
            clear hb HX12 HO12 HB12 HP12 HZ12
            have HZ13 : Hid (B ≤ w13.heap.size) := Nat.le_trans hBw HB13.out.size
            go_wp2_with ((with_reducible refine at_store 3 (.tmp 34) (.tmp 32) ?_); refine wpList_store_cell rfl 3 (.tmp 34) (.tmp 32) rfl C 11 _ rfl rfl 33 _ HX13.out (by simp [byteVals_length, HLbs.out]) (by kernel_rfl) rfl B hBC ?_)
            intro w14 hR hO hs hb
            have hR : RowIs w14 C 33 ((byteVals bs ++ [.int .i64 na, .int .i64 nb, .int .i64 nc, .int .i64 nd, pv]).toArray) := by
              have e : (byteVals bs ++ [.int .i64 na, .int .i64 nb, .int .i64 nc, d0, pv]).set 11 (.int .i64 nd) = byteVals bs ++ [.int .i64 na, .int .i64 nb, .int .i64 nc, .int .i64 nd, pv] := by
                rw [List.set_append_right _ _ (by simp [byteVals_length, HLbs.out])]
                simp [byteVals_length, HLbs.out]
              rw [← e]
              exact hR
            have HP14 := Lib.hid (HP13.out.only ((Only.refl [C] w13).store (List.mem_singleton.2 rfl) hO hs) (by simpa using hRC) (by simpa using hSC))
            have HX14 : Hid (RowIs w14 C 33 (byteVals bs ++ [.int .i64 na, .int .i64 nb, .int .i64 nc, .int .i64 nd, pv]).toArray) := hR
            have HO14 := Lib.hid (HO13.out.store (S := C) (by simp) hO hs)
            have HB14 := Lib.hid (HB13.out.trans hb)
            clear hR hO hs hb HX13 HO13 HB13 HP13 HZ13
            have HZ14 : Hid (B ≤ w14.heap.size) := Nat.le_trans hBw HB14.out.size
            obtain ⟨off, c0⟩ : ∃ off, w14.cell? ⟨R, 0, none⟩ = some (.slice (some ⟨sb, off, none⟩) (ps.length - 6) (ps.length - 6)) := by
              obtain ⟨_, _, _, _, off, _, h⟩ := HP14.out
              exact ⟨off, h.cell 0⟩
            obtain ⟨m, hm⟩ : ∃ m, m = ps.length - 6 := ⟨_, rfl⟩
            rw [← hm] at c0
            have HM := Lib.hid hm
            clear hm
            by_cases hm0 : m = 0
            case neg =>
              have dm : ((m : Int) == 0) = false := by rw [beq_eq_false_iff_ne]; omega
              go_wp2_with fail
              refine (must_not _).mono ?_
              rintro e w' ⟨rfl, rfl⟩
              exact ⟨rfl, Cf.bridgeAns_no (Cf.bridge_len (by have := HM.out; omega)), HO14.out, HB14.out⟩
            subst hm0
            go_wp2_with fail
            refine (must_ok _).mono ?_
            rintro e w' ⟨rfl, rfl⟩
            go_wp2_with fail
            go_end0
            exact ⟨Cf.bridgeAns_yes (Cf.bridge_some (by have := HM.out; have := HQ5.out; omega) (by rw [Cf.part_x hx0]; exact HW.out) (by rw [Cf.part_x hx1]; exact HNbs.out) (by rw [Cf.part_x hx2]; exact HNna.out) (by rw [Cf.part_x hx3]; exact HNnb.out) (by rw [Cf.part_x hx4]; exact HNnc.out) (by rw [Cf.part_x hx5]; exact HNnd.out)) HX14.out, HO14.out, HB14.out⟩
end Go.Proofs.YthfckdnennfnoaaGreatDoor
