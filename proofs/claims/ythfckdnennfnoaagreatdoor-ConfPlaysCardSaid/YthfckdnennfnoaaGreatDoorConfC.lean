/- conf: a port that is right; hush.New. By an AI agent. -/
import Derived.Test.YthfckdnennfnoaaGreatDoorConf6
import Derived.Test.YthfckdnennfnoaaGreatDoorArrays
namespace Go.Proofs.YthfckdnennfnoaaGreatDoor
open Go.RowKit Go.WideShapes Go.Sort Grow

theorem run_build_none {P : Program} {t e : TypeId} {n : Nat} {cs : Array Value} (hi : ((P.info? t).bind fun i => i.zero.map (·.cells)) = some cs) (hu : P.underlying t = some (.array n e)) (w : World) (he : (sizeOf e).run P w = .ok 1 w) : (Instr.build t #[]).run P w = .ok (.agg cs) w := by
  obtain ⟨i, hi', hz'⟩ := Option.bind_eq_some_iff.1 hi
  obtain ⟨z, hz, hc⟩ := Option.map_eq_some_iff.1 hz'
  simp [Instr.build, zeroValue, typeInfo, hi', hz, run_underlying hu, he, Instr.fill, hc]
theorem wpList_build_none {P : Program} {ops : Array Oper} {rest : List Oper} {o : Oper} {a : Act} {w : World} {Q : Exit → Act → World → Prop} (hgd : Region.wanted o (yielded ops a.tmps) = true) (t : TypeId) (cs : Array Value) (ho : o.op = .build t #[]) (hi : ((P.info? t).bind fun i => i.zero.map (·.cells)) = some cs) {n : Nat} {e : TypeId} (hu : P.underlying t = some (.array n e)) (he : ∀ w, (sizeOf e).run P w = .ok 1 w)
    (h : wpList P ops Q rest (a.put o.dst (.agg cs)) w) : wpList P ops Q (o :: rest) a w :=
  BigFrame.wpList_want hgd fun _ hK => by
    unfold Oper.wp execOp
    have e1 : ((#[] : Array (Nat × Operand)).map fun (i, x) => (i, a.eval x)) = #[] := by simp
    simp only [ho, e1, Sem.run_bind, run_build_none hi hu w (he w), Result.andThen_ok, Sem.run_pure]
    exact hK _ _ h
theorem at_build {P : Program} {ops : Array Oper} {rest : List Oper} {a : Act} {w : World} {Q : Exit → Act → World → Prop} (ty : TypeId) {dst : Option Tmp} {t : TypeId} {pos : String} {aft : Array Edge} {g : Option _} {ps : Array (Nat × Operand)}
    (h : wpList P ops Q (⟨dst, .build ty ps, t, pos, aft, g⟩ :: rest) a w) : wpList P ops Q (⟨dst, .build ty ps, t, pos, aft, g⟩ :: rest) a w := h
namespace Cf
def portOk (lk : Bool) (ra : Int) (gr : Bool) (psk : List UInt8) : Bool := if lk then decide (1 ≤ ra) && decide (ra ≤ 1000000000) else ra == 0 && (!gr && eqB psk (zeros 32))
end Cf
set_option maxRecDepth 20000 in
set_option maxHeartbeats 2000000 in
theorem pright_any (na tg ho li : Value) (h1 : (na.oneCell' && tg.oneCell' && ho.oneCell' && li.oneCell') = true) (lk : Bool) (ra : Int) (gr : Bool) (psk : List UInt8) (hp : psk.length = 32) (w : World) :
    Calls Tryz.prog 27 #[.agg ((na :: tg :: ho :: li :: .bool lk :: .int .i64 ra :: .bool gr :: byteVals psk).toArray)] w fun e w' => e = .returned (.bool (Cf.portOk lk ra gr psk)) ∧ Below w.heap.size w w' := by
  have hk := run_equalIn_bytes 9998 32 Tryz.underlying70 psk (Cf.zeros 32) hp rfl
  have hi56 : (Tryz.prog.info? 72).map (·.size) = some (((na :: tg :: ho :: li :: .bool lk :: .int .i64 ra :: .bool gr :: byteVals psk).toArray)).size := pc_info hp
  have HX : Hid (RowIs (w.alloc (.cells ((na :: tg :: ho :: li :: .bool lk :: .int .i64 ra :: .bool gr :: byteVals psk).toArray) 72)) w.heap.size 72 ((na :: tg :: ho :: li :: .bool lk :: .int .i64 ra :: .bool gr :: byteVals psk).toArray)) := by show RowIs _ _ _ _; exact rowIs_new w _ _
  have hbx : Below w.heap.size w (w.alloc (.cells ((na :: tg :: ho :: li :: .bool lk :: .int .i64 ra :: .bool gr :: byteVals psk).toArray) 72)) := (Below.refl _ _).alloc (Nat.le_refl _) _
  have c4 : (w.alloc (.cells ((na :: tg :: ho :: li :: .bool lk :: .int .i64 ra :: .bool gr :: byteVals psk).toArray) 72)).cell? ⟨w.heap.size, 4, none⟩ = some (.bool lk) := HX.out.cell 4
  have c5 : (w.alloc (.cells ((na :: tg :: ho :: li :: .bool lk :: .int .i64 ra :: .bool gr :: byteVals psk).toArray) 72)).cell? ⟨w.heap.size, 5, none⟩ = some (.int .i64 ra) := HX.out.cell 5
  have c6 : (w.alloc (.cells ((na :: tg :: ho :: li :: .bool lk :: .int .i64 ra :: .bool gr :: byteVals psk).toArray) 72)).cell? ⟨w.heap.size, 6, none⟩ = some (.bool gr) := HX.out.cell 6
  go_enter Tryz.func27, Tryz.ntmps27
  go_upto_region 1 with fail
  generalize w.alloc (.cells ((na :: tg :: ho :: li :: .bool lk :: .int .i64 ra :: .bool gr :: byteVals psk).toArray) 72) = w1 at *
  clear hi56
  cases lk
  · cases hr : ra == 0
    · have e : Cf.portOk false ra gr psk = false := by unfold Cf.portOk; rw [hr]; rfl
      have HE := Lib.hid e
      clear e
      go_wp2_with fail
      go_ret
      exact ⟨by rw [HE.out]; rfl, hbx⟩
    · cases gr
      · have e : Cf.portOk false ra false psk = eqB psk (Cf.zeros 32) := by unfold Cf.portOk; rw [hr]; rfl
        have HE := Lib.hid e
        clear e
        go_wp2_with (first
          | ((with_reducible refine at_load 70 (.tmp 22) ?_); refine wpList_load_part rfl 70 (.tmp 22) rfl w.heap.size 7 rfl 72 _ HX.out (byteVals psk) (by show (byteVals psk).take (byteVals psk).length = _; exact List.take_length) _ Tryz.underlying70 rfl (by rw [byteVals_length, hp]; kernel_rfl) ?_)
          | ((with_reducible refine at_build 70 ?_); refine wpList_build_none rfl 70 (byteVals (Cf.zeros 32)).toArray rfl (by kernel_rfl) Tryz.underlying70 Tryz.sizeOf5 ?_))
        go_ret
        exact ⟨by rw [HE.out]; rfl, hbx⟩
      · have e : Cf.portOk false ra true psk = false := by unfold Cf.portOk; rw [hr]; rfl
        have HE := Lib.hid e
        clear e
        go_wp2_with fail
        go_ret
        exact ⟨by rw [HE.out]; rfl, hbx⟩
  · cases h1 : decide (1 ≤ ra)
    · have e : Cf.portOk true ra gr psk = false := by unfold Cf.portOk; rw [h1]; rfl
      have HE := Lib.hid e
      clear e
      go_wp2_with fail
      go_ret
      exact ⟨by rw [HE.out]; rfl, hbx⟩
    · cases h2 : decide (ra ≤ 1000000000)
      · have e : Cf.portOk true ra gr psk = false := by unfold Cf.portOk; rw [h1, h2]; rfl
        have HE := Lib.hid e
        clear e
        go_wp2_with fail
        go_ret
        exact ⟨by rw [HE.out]; rfl, hbx⟩
      · have e : Cf.portOk true ra gr psk = true := by unfold Cf.portOk; rw [h1, h2]; rfl
        have HE := Lib.hid e
        clear e
        go_wp2_with fail
        go_ret
        exact ⟨by rw [HE.out]; rfl, hbx⟩
set_option maxHeartbeats 1000000 in
theorem hush_any (x : Int) (w : World) : Calls Tryz.prog 49 #[.int .i64 x] w fun e w' => (∃ v, e = .returned (.tuple #[.pointer v, .int .i64 (if 1 ≤ x ∧ x ≤ 1000000 then 0 else 1)])) ∧ Below w.heap.size w w' := by
  have hmm := @run_makeMap Tryz.prog
  by_cases h : 1 ≤ x ∧ x ≤ 1000000
  · rw [if_pos h]
    have g1 : decide (x < 1) = false := decide_eq_false (by omega)
    have g2 : decide (1000000 < x) = false := decide_eq_false (by omega)
    go_enter Tryz.func49, Tryz.ntmps49
    go_wp2_with fail
    go_ret2
    exact ⟨⟨_, rfl⟩, ((Below.refl _ _).alloc (Nat.le_refl _) _).alloc (by simp) _⟩
  · rw [if_neg h]
    by_cases h1 : x < 1
    · have g1 : decide (x < 1) = true := decide_eq_true h1
      go_enter Tryz.func49, Tryz.ntmps49
      go_wp2_with fail
      go_ret2
      exact ⟨⟨_, rfl⟩, Below.refl _ _⟩
    · have g1 : decide (x < 1) = false := decide_eq_false h1
      have g2 : decide (1000000 < x) = true := decide_eq_true (by omega)
      go_enter Tryz.func49, Tryz.ntmps49
      go_wp2_with fail
      go_ret2
      exact ⟨⟨_, rfl⟩, Below.refl _ _⟩
end Go.Proofs.YthfckdnennfnoaaGreatDoor
