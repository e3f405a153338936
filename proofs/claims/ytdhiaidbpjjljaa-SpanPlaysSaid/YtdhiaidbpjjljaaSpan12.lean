/- The law's own small functions: Of, few, Do, awake. By an AI agent. -/
import Derived.Test.YtdhiaidbpjjljaaSpan11
namespace Go.Proofs.Ytdhiaidbpjjljaa
open Go.RowKit Go.WideShapes Go.Sort Grow

set_option maxRecDepth 20000 in
set_option maxHeartbeats 4000000 in
theorem of_any (x : SW) (w : World) : Calls Try.prog 38 #[.agg #[.int .u8 ((x.r.f 0).toNat : Int), .int .u8 ((x.r.f 1).toNat : Int), .int .u8 ((x.r.f 2).toNat : Int), .int .u8 ((x.r.f 3).toNat : Int), .int .u8 ((x.r.f 4).toNat : Int), .int .u8 ((x.r.f 5).toNat : Int), .int .u8 ((x.r.f 6).toNat : Int), .int .u8 ((x.r.f 7).toNat : Int), .int .u8 ((x.b.f 0).toNat : Int), .int .u8 ((x.b.f 1).toNat : Int), .int .u8 ((x.b.f 2).toNat : Int), .int .u8 ((x.b.f 3).toNat : Int), .int .u8 ((x.b.f 4).toNat : Int), .int .u8 ((x.b.f 5).toNat : Int), .int .u8 ((x.b.f 6).toNat : Int), .int .u8 ((x.b.f 7).toNat : Int), .int .i64 x.c, .int .i64 x.p, .int .i64 x.age, .int .i64 x.ma, .int .i64 x.he, .int .i64 x.de, .bool x.ch, .bool x.ak]] w fun e w' => e = .returned (.agg #[.int .u8 ((x.r.f 0).toNat : Int), .int .u8 ((x.r.f 1).toNat : Int), .int .u8 ((x.r.f 2).toNat : Int), .int .u8 ((x.r.f 3).toNat : Int), .int .u8 ((x.r.f 4).toNat : Int), .int .u8 ((x.r.f 5).toNat : Int), .int .u8 ((x.r.f 6).toNat : Int), .int .u8 ((x.r.f 7).toNat : Int), .int .u8 ((x.b.f 0).toNat : Int), .int .u8 ((x.b.f 1).toNat : Int), .int .u8 ((x.b.f 2).toNat : Int), .int .u8 ((x.b.f 3).toNat : Int), .int .u8 ((x.b.f 4).toNat : Int), .int .u8 ((x.b.f 5).toNat : Int), .int .u8 ((x.b.f 6).toNat : Int), .int .u8 ((x.b.f 7).toNat : Int), .int .i64 x.c, .int .i64 x.p, .int .i64 x.age, .int .i64 x.ma, .int .i64 x.he, .int .i64 x.de, .bool x.ch, .bool x.ak]) ∧ Below w.heap.size w w' := by
  go_enter Try.func38, Try.ntmps38
  go_upto_region 1 with fail
  generalize hW : (w.alloc _).alloc _ = W
  have hbW : Below w.heap.size w W := by rw [← hW]; exact ((Below.refl _ _).alloc (Nat.le_refl _) _).alloc (by simp) _
  have R1 : Hid (RowIs W w.heap.size 63 #[.int .u8 ((x.r.f 0).toNat : Int), .int .u8 ((x.r.f 1).toNat : Int), .int .u8 ((x.r.f 2).toNat : Int), .int .u8 ((x.r.f 3).toNat : Int), .int .u8 ((x.r.f 4).toNat : Int), .int .u8 ((x.r.f 5).toNat : Int), .int .u8 ((x.r.f 6).toNat : Int), .int .u8 ((x.r.f 7).toNat : Int), .int .u8 ((x.b.f 0).toNat : Int), .int .u8 ((x.b.f 1).toNat : Int), .int .u8 ((x.b.f 2).toNat : Int), .int .u8 ((x.b.f 3).toNat : Int), .int .u8 ((x.b.f 4).toNat : Int), .int .u8 ((x.b.f 5).toNat : Int), .int .u8 ((x.b.f 6).toNat : Int), .int .u8 ((x.b.f 7).toNat : Int), .int .i64 x.c, .int .i64 x.p, .int .i64 x.age, .int .i64 x.ma, .int .i64 x.he, .int .i64 x.de, .bool x.ch, .bool x.ak]) := by subst hW; exact (rowIs_new w _ _).alloc _
  have R2 : Hid (RowIs W (w.heap.size + 1) 45 #[.int .u8 0, .int .u8 0, .int .u8 0, .int .u8 0, .int .u8 0, .int .u8 0, .int .u8 0, .int .u8 0, .int .u8 0, .int .u8 0, .int .u8 0, .int .u8 0, .int .u8 0, .int .u8 0, .int .u8 0, .int .u8 0, .int .i64 0, .int .i64 0, .int .i64 0, .int .i64 0, .int .i64 0, .int .i64 0, .bool false, .bool false]) := by subst hW; exact rowIs_new1 w _ _ _
  clear hW
  have c16 : W.cell? ⟨w.heap.size, 16, none⟩ = some (.int .i64 x.c) := R1.out.cell 16
  have c17 : W.cell? ⟨w.heap.size, 17, none⟩ = some (.int .i64 x.p) := R1.out.cell 17
  have c18 : W.cell? ⟨w.heap.size, 18, none⟩ = some (.int .i64 x.age) := R1.out.cell 18
  have c19 : W.cell? ⟨w.heap.size, 19, none⟩ = some (.int .i64 x.ma) := R1.out.cell 19
  have c20 : W.cell? ⟨w.heap.size, 20, none⟩ = some (.int .i64 x.he) := R1.out.cell 20
  have c21 : W.cell? ⟨w.heap.size, 21, none⟩ = some (.int .i64 x.de) := R1.out.cell 21
  have c22 : W.cell? ⟨w.heap.size, 22, none⟩ = some (.bool x.ch) := R1.out.cell 22
  have c23 : W.cell? ⟨w.heap.size, 23, none⟩ = some (.bool x.ak) := R1.out.cell 23
  go_wp2_with (first
    | ((with_reducible refine at_load 22 (.tmp 3) ?_); refine wpList_load_part rfl 22 (.tmp 3) rfl (w.heap.size) 0 rfl 63 _ R1.out [.int .u8 ((x.r.f 0).toNat : Int), .int .u8 ((x.r.f 1).toNat : Int), .int .u8 ((x.r.f 2).toNat : Int), .int .u8 ((x.r.f 3).toNat : Int), .int .u8 ((x.r.f 4).toNat : Int), .int .u8 ((x.r.f 5).toNat : Int), .int .u8 ((x.r.f 6).toNat : Int), .int .u8 ((x.r.f 7).toNat : Int)] rfl _ Try.underlying22 rfl (by kernel_rfl) ?_)
    | ((with_reducible refine at_load 22 (.tmp 5) ?_); refine wpList_load_part rfl 22 (.tmp 5) rfl (w.heap.size) 8 rfl 63 _ R1.out [.int .u8 ((x.b.f 0).toNat : Int), .int .u8 ((x.b.f 1).toNat : Int), .int .u8 ((x.b.f 2).toNat : Int), .int .u8 ((x.b.f 3).toNat : Int), .int .u8 ((x.b.f 4).toNat : Int), .int .u8 ((x.b.f 5).toNat : Int), .int .u8 ((x.b.f 6).toNat : Int), .int .u8 ((x.b.f 7).toNat : Int)] rfl _ Try.underlying22 rfl (by kernel_rfl) ?_)
    | ((with_reducible refine at_store 45 (.tmp 2) (.tmp 23) ?_); refine wpList_store_own rfl 45 (.tmp 2) (.tmp 23) rfl (w.heap.size + 1) _ rfl rfl _ _ R2.out (by kernel_rfl) rfl (by simp [Value.oneCell']) w.heap.size (by omega) ?_))
  intro w' hR _ _ hB
  have R5 := Lib.hid hR
  clear hR
  go_wp2_with fail
  refine bodyPost_ret (results_row Try.results38 _ _ (w.heap.size + 1) 45 _ _ rfl R5.out Try.underlying45 rfl (by kernel_rfl)) rfl ?_
  exact ⟨rfl, hbW.trans hB⟩

theorem few_any (ao : Option Addr) (n cap : Nat) (w : World) : Calls Try.prog 15 #[.slice ao n cap] w fun e w' => e = .returned (.bool (decide ((n : Int) ≤ 100))) ∧ w = w' := by
  go_enter Try.func15, Try.ntmps15
  go_wp2_with fail
  go_ret
  exact ⟨ret_bool (by simp), rfl⟩

/-- something that befalls a bridge -/
structure ActS where
  (d : UInt8) (port : Int) (w : SW)
def ActS.cells (x : ActS) : List Value := [.int .u8 (x.d.toNat : Int), .int .i64 x.port, .int .u8 ((x.w.r.f 0).toNat : Int), .int .u8 ((x.w.r.f 1).toNat : Int), .int .u8 ((x.w.r.f 2).toNat : Int), .int .u8 ((x.w.r.f 3).toNat : Int), .int .u8 ((x.w.r.f 4).toNat : Int), .int .u8 ((x.w.r.f 5).toNat : Int), .int .u8 ((x.w.r.f 6).toNat : Int), .int .u8 ((x.w.r.f 7).toNat : Int), .int .u8 ((x.w.b.f 0).toNat : Int), .int .u8 ((x.w.b.f 1).toNat : Int), .int .u8 ((x.w.b.f 2).toNat : Int), .int .u8 ((x.w.b.f 3).toNat : Int), .int .u8 ((x.w.b.f 4).toNat : Int), .int .u8 ((x.w.b.f 5).toNat : Int), .int .u8 ((x.w.b.f 6).toNat : Int), .int .u8 ((x.w.b.f 7).toNat : Int), .int .i64 x.w.c, .int .i64 x.w.p, .int .i64 x.w.age, .int .i64 x.w.ma, .int .i64 x.w.he, .int .i64 x.w.de, .bool x.w.ch, .bool x.w.ak]
def ActS.kind (x : ActS) : Nat := x.d.toNat % 8
def SS.act (s : SS) (x : ActS) : SS × List SO := if x.kind ≤ 1 then s.tick else if x.kind = 2 then s.setUp x.port true else if x.kind = 3 then s.setUp x.port false else s.take x.port x.w
theorem SS.Ok.act {s : SS} {n : Int} (h : s.Ok n) (x : ActS) : (s.act x).1.Ok (n + 300) := by
  unfold SS.act
  split
  · exact h.ticked
  · split
    · exact (h.setUp _ _).mono (by omega)
    · split
      · exact (h.setUp _ _).mono (by omega)
      · exact (h.take _ _).mono (by omega)

set_option maxRecDepth 20000 in
set_option maxHeartbeats 4000000 in
theorem do_any (B S g cap : Nat) (pbs : List Nat) (w : World) (s : SS) (h : SpAt B S g cap pbs w s) (n : Int) (hok : s.Ok n) (hn : n ≤ 900000000) (x : ActS) (hi : (Lit.int .i64 x.port).wf = true) :
    Calls Try.prog 18 #[.pointer (some ⟨S, 0, none⟩), .agg #[.int .u8 (x.d.toNat : Int), .int .i64 x.port, .int .u8 ((x.w.r.f 0).toNat : Int), .int .u8 ((x.w.r.f 1).toNat : Int), .int .u8 ((x.w.r.f 2).toNat : Int), .int .u8 ((x.w.r.f 3).toNat : Int), .int .u8 ((x.w.r.f 4).toNat : Int), .int .u8 ((x.w.r.f 5).toNat : Int), .int .u8 ((x.w.r.f 6).toNat : Int), .int .u8 ((x.w.r.f 7).toNat : Int), .int .u8 ((x.w.b.f 0).toNat : Int), .int .u8 ((x.w.b.f 1).toNat : Int), .int .u8 ((x.w.b.f 2).toNat : Int), .int .u8 ((x.w.b.f 3).toNat : Int), .int .u8 ((x.w.b.f 4).toNat : Int), .int .u8 ((x.w.b.f 5).toNat : Int), .int .u8 ((x.w.b.f 6).toNat : Int), .int .u8 ((x.w.b.f 7).toNat : Int), .int .i64 x.w.c, .int .i64 x.w.p, .int .i64 x.w.age, .int .i64 x.w.ma, .int .i64 x.w.he, .int .i64 x.w.de, .bool x.w.ch, .bool x.w.ak]] w fun e w' => ∃ v, e = .returned v ∧ OutAt w' w.heap.size v (s.act x).2 ∧ SpAt B S g cap pbs w' (s.act x).1 ∧ Below B w w' ∧ Only (S :: pbs) w w' := by
  have HA := Lib.hid h
  have HOK := Lib.hid hok
  have HPW := Lib.hid hi
  have hB0 : B ≤ w.heap.size := Nat.le_trans h.hB (Nat.le_of_lt h.row.lt)
  have HE : Hid (s.act x = if x.kind ≤ 1 then s.tick else if x.kind = 2 then s.setUp x.port true else if x.kind = 3 then s.setUp x.port false else s.take x.port x.w) := rfl
  have HK : Hid (x.kind = x.d.toNat % 8) := rfl
  clear h hok hi
  go_enter Try.func18, Try.ntmps18
  by_cases h0 : x.kind = 0
  · have HE : Hid (s.act x = s.tick) := by show _ = _; rw [HE.out, if_pos (by omega)]
    have e0 : ((x.d.toNat : Int) % 8 == 0) = true := by have := HK.out; rw [beq_iff_eq]; omega
    clear h0
    go_upto_region 1 with fail
    generalize hW : w.alloc _ = w1
    have hbW : Below w.heap.size w w1 := by rw [← hW]; exact (Below.refl _ _).alloc (Nat.le_refl _) _
    have RA : Hid (RowIs w1 w.heap.size 65 #[.int .u8 (x.d.toNat : Int), .int .i64 x.port, .int .u8 ((x.w.r.f 0).toNat : Int), .int .u8 ((x.w.r.f 1).toNat : Int), .int .u8 ((x.w.r.f 2).toNat : Int), .int .u8 ((x.w.r.f 3).toNat : Int), .int .u8 ((x.w.r.f 4).toNat : Int), .int .u8 ((x.w.r.f 5).toNat : Int), .int .u8 ((x.w.r.f 6).toNat : Int), .int .u8 ((x.w.r.f 7).toNat : Int), .int .u8 ((x.w.b.f 0).toNat : Int), .int .u8 ((x.w.b.f 1).toNat : Int), .int .u8 ((x.w.b.f 2).toNat : Int), .int .u8 ((x.w.b.f 3).toNat : Int), .int .u8 ((x.w.b.f 4).toNat : Int), .int .u8 ((x.w.b.f 5).toNat : Int), .int .u8 ((x.w.b.f 6).toNat : Int), .int .u8 ((x.w.b.f 7).toNat : Int), .int .i64 x.w.c, .int .i64 x.w.p, .int .i64 x.w.age, .int .i64 x.w.ma, .int .i64 x.w.he, .int .i64 x.w.de, .bool x.w.ch, .bool x.w.ak]) := by subst hW; exact rowIs_new w _ _
    clear hW
    have HA1 := Lib.hid (HA.out.later hbW)
    have HC := Lib.hid (tick_any B S g cap pbs w1 s HA1.out n HOK.out hn)
    have c0 : w1.cell? ⟨w.heap.size, 0, none⟩ = some (.int .u8 (x.d.toNat : Int)) := RA.out.cell 0
    have c1 : w1.cell? ⟨w.heap.size, 1, none⟩ = some (.int .i64 x.port) := RA.out.cell 1
    go_wp2_with fail
    refine HC.out.mono ?_
    rintro e w2 ⟨v, rfl, hO, hA, hb, ho⟩
    have HO := Lib.hid hO
    have HA2 := Lib.hid hA
    have HOO := Lib.hid (((Only.refl (S :: pbs) w).below hbW).trans ho)
    have hbF := (hbW.mono hB0).trans hb
    have hsz := hbW.size
    clear hO hA hb ho HC HA1 HA c0 c1 RA hbW
    go_wp2_with fail
    go_ret
    rw [HE.out]
    exact ⟨_, rfl, HO.out.lower hsz, HA2.out, hbF, HOO.out⟩
  · by_cases h1 : x.kind = 1
    · have HE : Hid (s.act x = s.tick) := by show _ = _; rw [HE.out, if_pos (by omega)]
      have e0 : ((x.d.toNat : Int) % 8 == 0) = false := by have := HK.out; rw [beq_eq_false_iff_ne]; omega
      have e1 : ((x.d.toNat : Int) % 8 == 1) = true := by have := HK.out; rw [beq_iff_eq]; omega
      clear h0 h1
      go_upto_region 1 with fail
      generalize hW : w.alloc _ = w1
      have hbW : Below w.heap.size w w1 := by rw [← hW]; exact (Below.refl _ _).alloc (Nat.le_refl _) _
      have RA : Hid (RowIs w1 w.heap.size 65 #[.int .u8 (x.d.toNat : Int), .int .i64 x.port, .int .u8 ((x.w.r.f 0).toNat : Int), .int .u8 ((x.w.r.f 1).toNat : Int), .int .u8 ((x.w.r.f 2).toNat : Int), .int .u8 ((x.w.r.f 3).toNat : Int), .int .u8 ((x.w.r.f 4).toNat : Int), .int .u8 ((x.w.r.f 5).toNat : Int), .int .u8 ((x.w.r.f 6).toNat : Int), .int .u8 ((x.w.r.f 7).toNat : Int), .int .u8 ((x.w.b.f 0).toNat : Int), .int .u8 ((x.w.b.f 1).toNat : Int), .int .u8 ((x.w.b.f 2).toNat : Int), .int .u8 ((x.w.b.f 3).toNat : Int), .int .u8 ((x.w.b.f 4).toNat : Int), .int .u8 ((x.w.b.f 5).toNat : Int), .int .u8 ((x.w.b.f 6).toNat : Int), .int .u8 ((x.w.b.f 7).toNat : Int), .int .i64 x.w.c, .int .i64 x.w.p, .int .i64 x.w.age, .int .i64 x.w.ma, .int .i64 x.w.he, .int .i64 x.w.de, .bool x.w.ch, .bool x.w.ak]) := by subst hW; exact rowIs_new w _ _
      clear hW
      have HA1 := Lib.hid (HA.out.later hbW)
      have HC := Lib.hid (tick_any B S g cap pbs w1 s HA1.out n HOK.out hn)
      have c0 : w1.cell? ⟨w.heap.size, 0, none⟩ = some (.int .u8 (x.d.toNat : Int)) := RA.out.cell 0
      have c1 : w1.cell? ⟨w.heap.size, 1, none⟩ = some (.int .i64 x.port) := RA.out.cell 1
      go_wp2_with fail
      refine HC.out.mono ?_
      rintro e w2 ⟨v, rfl, hO, hA, hb, ho⟩
      have HO := Lib.hid hO
      have HA2 := Lib.hid hA
      have HOO := Lib.hid (((Only.refl (S :: pbs) w).below hbW).trans ho)
      have hbF := (hbW.mono hB0).trans hb
      have hsz := hbW.size
      clear hO hA hb ho HC HA1 HA c0 c1 RA hbW
      go_wp2_with fail
      go_ret
      rw [HE.out]
      exact ⟨_, rfl, HO.out.lower hsz, HA2.out, hbF, HOO.out⟩
    · have e0 : ((x.d.toNat : Int) % 8 == 0) = false := by have := HK.out; rw [beq_eq_false_iff_ne]; omega
      have e1 : ((x.d.toNat : Int) % 8 == 1) = false := by have := HK.out; rw [beq_eq_false_iff_ne]; omega
      have HE : Hid (s.act x = if x.kind = 2 then s.setUp x.port true else if x.kind = 3 then s.setUp x.port false else s.take x.port x.w) := by show _ = _; rw [HE.out, if_neg (by omega)]
      by_cases h2 : x.kind = 2
      · have HE : Hid (s.act x = s.setUp x.port true) := by show _ = _; rw [HE.out, if_pos h2]
        have e2 : ((x.d.toNat : Int) % 8 == 2) = true := by have := HK.out; rw [beq_iff_eq]; omega
        clear h0 h1 h2
        go_upto_region 1 with fail
        generalize hW : w.alloc _ = w1
        have hbW : Below w.heap.size w w1 := by rw [← hW]; exact (Below.refl _ _).alloc (Nat.le_refl _) _
        have RA : Hid (RowIs w1 w.heap.size 65 #[.int .u8 (x.d.toNat : Int), .int .i64 x.port, .int .u8 ((x.w.r.f 0).toNat : Int), .int .u8 ((x.w.r.f 1).toNat : Int), .int .u8 ((x.w.r.f 2).toNat : Int), .int .u8 ((x.w.r.f 3).toNat : Int), .int .u8 ((x.w.r.f 4).toNat : Int), .int .u8 ((x.w.r.f 5).toNat : Int), .int .u8 ((x.w.r.f 6).toNat : Int), .int .u8 ((x.w.r.f 7).toNat : Int), .int .u8 ((x.w.b.f 0).toNat : Int), .int .u8 ((x.w.b.f 1).toNat : Int), .int .u8 ((x.w.b.f 2).toNat : Int), .int .u8 ((x.w.b.f 3).toNat : Int), .int .u8 ((x.w.b.f 4).toNat : Int), .int .u8 ((x.w.b.f 5).toNat : Int), .int .u8 ((x.w.b.f 6).toNat : Int), .int .u8 ((x.w.b.f 7).toNat : Int), .int .i64 x.w.c, .int .i64 x.w.p, .int .i64 x.w.age, .int .i64 x.w.ma, .int .i64 x.w.he, .int .i64 x.w.de, .bool x.w.ch, .bool x.w.ak]) := by subst hW; exact rowIs_new w _ _
        clear hW
        have HA1 := Lib.hid (HA.out.later hbW)
        have HC := Lib.hid (set_any B S g cap pbs w1 s HA1.out n HOK.out hn x.port HPW.out true)
        have c0 : w1.cell? ⟨w.heap.size, 0, none⟩ = some (.int .u8 (x.d.toNat : Int)) := RA.out.cell 0
        have c1 : w1.cell? ⟨w.heap.size, 1, none⟩ = some (.int .i64 x.port) := RA.out.cell 1
        go_wp2_with fail
        refine HC.out.mono ?_
        rintro e w2 ⟨v, rfl, hO, hA, hb, ho⟩
        have HO := Lib.hid hO
        have HA2 := Lib.hid hA
        have HOO := Lib.hid (((Only.refl (S :: pbs) w).below hbW).trans ho)
        have hbF := (hbW.mono hB0).trans hb
        have hsz := hbW.size
        clear hO hA hb ho HC HA1 HA c0 c1 RA hbW
        go_wp2_with fail
        go_ret
        rw [HE.out]
        exact ⟨_, rfl, HO.out.lower hsz, HA2.out, hbF, HOO.out⟩
      · have e2 : ((x.d.toNat : Int) % 8 == 2) = false := by have := HK.out; rw [beq_eq_false_iff_ne]; omega
        by_cases h3 : x.kind = 3
        · have HE : Hid (s.act x = s.setUp x.port false) := by show _ = _; rw [HE.out, if_neg h2, if_pos h3]
          have e3 : ((x.d.toNat : Int) % 8 == 3) = true := by have := HK.out; rw [beq_iff_eq]; omega
          clear h0 h1 h2 h3
          go_upto_region 1 with fail
          generalize hW : w.alloc _ = w1
          have hbW : Below w.heap.size w w1 := by rw [← hW]; exact (Below.refl _ _).alloc (Nat.le_refl _) _
          have RA : Hid (RowIs w1 w.heap.size 65 #[.int .u8 (x.d.toNat : Int), .int .i64 x.port, .int .u8 ((x.w.r.f 0).toNat : Int), .int .u8 ((x.w.r.f 1).toNat : Int), .int .u8 ((x.w.r.f 2).toNat : Int), .int .u8 ((x.w.r.f 3).toNat : Int), .int .u8 ((x.w.r.f 4).toNat : Int), .int .u8 ((x.w.r.f 5).toNat : Int), .int .u8 ((x.w.r.f 6).toNat : Int), .int .u8 ((x.w.r.f 7).toNat : Int), .int .u8 ((x.w.b.f 0).toNat : Int), .int .u8 ((x.w.b.f 1).toNat : Int), .int .u8 ((x.w.b.f 2).toNat : Int), .int .u8 ((x.w.b.f 3).toNat : Int), .int .u8 ((x.w.b.f 4).toNat : Int), .int .u8 ((x.w.b.f 5).toNat : Int), .int .u8 ((x.w.b.f 6).toNat : Int), .int .u8 ((x.w.b.f 7).toNat : Int), .int .i64 x.w.c, .int .i64 x.w.p, .int .i64 x.w.age, .int .i64 x.w.ma, .int .i64 x.w.he, .int .i64 x.w.de, .bool x.w.ch, .bool x.w.ak]) := by subst hW; exact rowIs_new w _ _
          clear hW
          have HA1 := Lib.hid (HA.out.later hbW)
          have HC := Lib.hid (set_any B S g cap pbs w1 s HA1.out n HOK.out hn x.port HPW.out false)
          have c0 : w1.cell? ⟨w.heap.size, 0, none⟩ = some (.int .u8 (x.d.toNat : Int)) := RA.out.cell 0
          have c1 : w1.cell? ⟨w.heap.size, 1, none⟩ = some (.int .i64 x.port) := RA.out.cell 1
          go_wp2_with fail
          refine HC.out.mono ?_
          rintro e w2 ⟨v, rfl, hO, hA, hb, ho⟩
          have HO := Lib.hid hO
          have HA2 := Lib.hid hA
          have HOO := Lib.hid (((Only.refl (S :: pbs) w).below hbW).trans ho)
          have hbF := (hbW.mono hB0).trans hb
          have hsz := hbW.size
          clear hO hA hb ho HC HA1 HA c0 c1 RA hbW
          go_wp2_with fail
          go_ret
          rw [HE.out]
          exact ⟨_, rfl, HO.out.lower hsz, HA2.out, hbF, HOO.out⟩
        · have HE : Hid (s.act x = s.take x.port x.w) := by show _ = _; rw [HE.out, if_neg h2, if_neg h3]
          have e3 : ((x.d.toNat : Int) % 8 == 3) = false := by have := HK.out; rw [beq_eq_false_iff_ne]; omega
          clear h0 h1 h2 h3
          go_upto_region 1 with fail
          generalize hW : w.alloc _ = w1
          have hbW : Below w.heap.size w w1 := by rw [← hW]; exact (Below.refl _ _).alloc (Nat.le_refl _) _
          have RA : Hid (RowIs w1 w.heap.size 65 #[.int .u8 (x.d.toNat : Int), .int .i64 x.port, .int .u8 ((x.w.r.f 0).toNat : Int), .int .u8 ((x.w.r.f 1).toNat : Int), .int .u8 ((x.w.r.f 2).toNat : Int), .int .u8 ((x.w.r.f 3).toNat : Int), .int .u8 ((x.w.r.f 4).toNat : Int), .int .u8 ((x.w.r.f 5).toNat : Int), .int .u8 ((x.w.r.f 6).toNat : Int), .int .u8 ((x.w.r.f 7).toNat : Int), .int .u8 ((x.w.b.f 0).toNat : Int), .int .u8 ((x.w.b.f 1).toNat : Int), .int .u8 ((x.w.b.f 2).toNat : Int), .int .u8 ((x.w.b.f 3).toNat : Int), .int .u8 ((x.w.b.f 4).toNat : Int), .int .u8 ((x.w.b.f 5).toNat : Int), .int .u8 ((x.w.b.f 6).toNat : Int), .int .u8 ((x.w.b.f 7).toNat : Int), .int .i64 x.w.c, .int .i64 x.w.p, .int .i64 x.w.age, .int .i64 x.w.ma, .int .i64 x.w.he, .int .i64 x.w.de, .bool x.w.ch, .bool x.w.ak]) := by subst hW; exact rowIs_new w _ _
          clear hW
          have HA1 := Lib.hid (HA.out.later hbW)
          have c0 : w1.cell? ⟨w.heap.size, 0, none⟩ = some (.int .u8 (x.d.toNat : Int)) := RA.out.cell 0
          go_upto_region 9 with fail
          clear c0 e0 e1 e2 e3
          have k1 := cell_regrown (show w1.cell? ⟨w.heap.size, 1, none⟩ = some (.int .i64 x.port) from RA.out.cell 1)
          have C1 := Lib.hid (fun (q : Regrown) => of_any x.w (grow (redrawn w1 q.d) q.os))
          refine wp_region_mix 6 (by kernel_rfl) (by kernel_rfl) (by kernel_rfl) ?_
          (refine mix_step (by kernel_rfl) (by kernel_rfl) (fun K hK => ?_); go_simp; (try (simp only [↓IntWalk.iteOmega]; go_simp)); (first | (refine hK _ ?_; clear hK K) | (apply Exists.intro; refine ⟨fun _ => ?_, hK _ ?_⟩; (first | fail); clear hK K)))
          (refine mix_step (by kernel_rfl) (by kernel_rfl) (fun K hK => ?_); go_simp; (try (simp only [↓IntWalk.iteOmega]; go_simp)); (first | (refine hK _ ?_; clear hK K) | (apply Exists.intro; refine ⟨fun _ => ?_, hK _ ?_⟩; (first | fail); clear hK K)))
          (refine mix_step (by kernel_rfl) (by kernel_rfl) (fun K hK => ?_); go_simp; (try (simp only [↓IntWalk.iteOmega]; go_simp)); (first | (refine hK _ ?_; clear hK K) | (apply Exists.intro; refine ⟨fun _ => ?_, hK _ ?_⟩; (first | fail); clear hK K)))
          (refine mix_step (by kernel_rfl) (by kernel_rfl) (fun K hK => ?_); go_simp; (try (simp only [↓IntWalk.iteOmega]; go_simp)); (first | (refine hK _ ?_; clear hK K) | (apply Exists.intro; refine ⟨fun _ => ?_, hK _ ?_⟩; (first | fail); clear hK K)))
          refine mix_exact (.agg #[.int .u8 ((x.w.r.f 0).toNat : Int), .int .u8 ((x.w.r.f 1).toNat : Int), .int .u8 ((x.w.r.f 2).toNat : Int), .int .u8 ((x.w.r.f 3).toNat : Int), .int .u8 ((x.w.r.f 4).toNat : Int), .int .u8 ((x.w.r.f 5).toNat : Int), .int .u8 ((x.w.r.f 6).toNat : Int), .int .u8 ((x.w.r.f 7).toNat : Int), .int .u8 ((x.w.b.f 0).toNat : Int), .int .u8 ((x.w.b.f 1).toNat : Int), .int .u8 ((x.w.b.f 2).toNat : Int), .int .u8 ((x.w.b.f 3).toNat : Int), .int .u8 ((x.w.b.f 4).toNat : Int), .int .u8 ((x.w.b.f 5).toNat : Int), .int .u8 ((x.w.b.f 6).toNat : Int), .int .u8 ((x.w.b.f 7).toNat : Int), .int .i64 x.w.c, .int .i64 x.w.p, .int .i64 x.w.age, .int .i64 x.w.ma, .int .i64 x.w.he, .int .i64 x.w.de, .bool x.w.ch, .bool x.w.ak]) rfl (exact_load_mid (sub := [.int .u8 ((x.w.r.f 0).toNat : Int), .int .u8 ((x.w.r.f 1).toNat : Int), .int .u8 ((x.w.r.f 2).toNat : Int), .int .u8 ((x.w.r.f 3).toNat : Int), .int .u8 ((x.w.r.f 4).toNat : Int), .int .u8 ((x.w.r.f 5).toNat : Int), .int .u8 ((x.w.r.f 6).toNat : Int), .int .u8 ((x.w.r.f 7).toNat : Int), .int .u8 ((x.w.b.f 0).toNat : Int), .int .u8 ((x.w.b.f 1).toNat : Int), .int .u8 ((x.w.b.f 2).toNat : Int), .int .u8 ((x.w.b.f 3).toNat : Int), .int .u8 ((x.w.b.f 4).toNat : Int), .int .u8 ((x.w.b.f 5).toNat : Int), .int .u8 ((x.w.b.f 6).toNat : Int), .int .u8 ((x.w.b.f 7).toNat : Int), .int .i64 x.w.c, .int .i64 x.w.p, .int .i64 x.w.age, .int .i64 x.w.ma, .int .i64 x.w.he, .int .i64 x.w.de, .bool x.w.ch, .bool x.w.ak]) rfl rfl (by simp) RA.out rfl Try.underlying63 rfl (by kernel_rfl)) ?_
          (refine mix_step (by kernel_rfl) (by kernel_rfl) (fun K hK => ?_); go_simp; (try (simp only [↓IntWalk.iteOmega]; go_simp)); (first | (refine hK _ ?_; clear hK K) | (apply Exists.intro; refine ⟨fun _ => ?_, hK _ ?_⟩; (first | exact C1.out _); clear hK K)))
          refine mix_nil ?_
          rintro ⟨dq, osq⟩
          have hb2 := below_regrown w1 dq osq
          have HA2 := Lib.hid (HA1.out.later hb2)
          have hbW := hbW.trans (hb2.mono hbW.size)
          clear k1 C1 HA1 hb2 RA
          generalize grow (redrawn w1 dq) osq = w2 at *
          refine (show wpList _ _ _ _ _ _ from ?_)
          simp only [List.drop, Act.put, List.setIfInBounds_toArray, List.set]
          have HC := Lib.hid (take_any B S g cap pbs w2 s HA2.out n HOK.out hn x.port HPW.out x.w)
          go_wp2_with fail
          refine HC.out.mono ?_
          rintro e w3 ⟨v, rfl, hO, hA, hb, ho⟩
          have HO := Lib.hid hO
          have HA3 := Lib.hid hA
          have HOO := Lib.hid (((Only.refl (S :: pbs) w).below hbW).trans ho)
          have hbF := (hbW.mono hB0).trans hb
          have hsz := hbW.size
          clear hO hA hb ho HC HA2 HA hbW
          go_wp2_with fail
          go_ret
          rw [HE.out]
          exact ⟨_, rfl, HO.out.lower hsz, HA3.out, hbF, HOO.out⟩

theorem SS.Ok.fresh {id : Id8} {zs : List Int} {ma he de : Int} (h : newOk zs ma he de = true) : (SS.fresh id zs ma he de).found.1.Ok 100 := by
  unfold newOk rightT at h
  simp only [Bool.and_eq_true, decide_eq_true_eq] at h
  have hlen : (SS.fresh id zs ma he de).ports.length = zs.length := by simp [SS.fresh]
  have hp : ∀ k, (SS.fresh id zs ma he de).port k = .zero ∨ ∃ c, (SS.fresh id zs ma he de).port k = SP.fresh c := fun k => by
    by_cases hk : k < zs.length
    · exact .inr ⟨zs[k], by unfold SS.port SS.fresh; simp [List.getD, hk]⟩
    · exact .inl (SS.port_out _ _ (by rw [hlen]; omega))
  have hk : (SS.fresh id zs ma he de).Ok 0 := by
    refine ⟨⟨Int.le_refl _, Int.le_refl _⟩, ⟨Int.le_refl _, Int.le_refl _⟩, fun k => ?_, fun k => ?_, ?_, ?_, ?_, .inl (show (-1 : Int) < 0 by decide), by omega, Int.le_refl _⟩
    · rcases hp k with e | ⟨c, e⟩ <;> rw [e] <;> exact ⟨Int.le_refl _, Int.le_refl _⟩
    · rcases hp k with e | ⟨c, e⟩ <;> rw [e] <;> exact ⟨Int.le_refl _, show (0 : Int) ≤ 1000 by decide⟩
    · show 1 ≤ ma ∧ ma ≤ 1000
      omega
    · show 1 ≤ he ∧ he ≤ 100
      omega
    · show 1 ≤ de ∧ de ≤ 1000
      omega
  exact hk.found

def id1 : Id8 := ⟨1, 0, 0, 0, 0, 0, 0, 0⟩
def s1 : SS := (SS.fresh id1 [10] 20 2 15).found.1
set_option maxRecDepth 20000 in
set_option maxHeartbeats 4000000 in
theorem awake_any (w : World) : Calls Try.prog 6 #[] w fun e w' => e = .returned (.bool true) ∧ Below w.heap.size w w' := by
  have hok : newOk [10] 20 2 15 = true := by decide +kernel
  have e1 : (s1.setUp 0 true).1.stateAt 0 = 1 := by decide +kernel
  have e2 : (s1.setUp 0 true).1.roleAt 0 = 2 := by decide +kernel
  have HOK := Lib.hid (show s1.Ok 100 from SS.Ok.fresh hok)
  have E1 := Lib.hid e1
  have E2 := Lib.hid e2
  have HNW := Lib.hid (fun (ao : Option Addr) (w' : World) (h : IntsAt w' ao [10]) => show Calls Try.prog 7 #[.agg #[.int .u8 1, .int .u8 0, .int .u8 0, .int .u8 0, .int .u8 0, .int .u8 0, .int .u8 0, .int .u8 0], .slice ao 1 1, .agg #[.int .i64 20, .int .i64 2, .int .i64 15]] w' fun e w'' => ∃ S g cp pbs, e = .returned (.tuple #[.pointer (some ⟨S, 0, none⟩), .int .i64 0]) ∧ SpAt w'.heap.size S g cp pbs w'' s1 ∧ Below w'.heap.size w' w'' from new_good id1 ao [10] 1 20 2 15 w' h hok)
  have hb0 : Below w.heap.size w (w.alloc (.cells #[.int .i64 10] 3)) := (Below.refl _ _).alloc (Nat.le_refl _) _
  have HI : Hid (IntsAt (w.alloc (.cells #[.int .i64 10] 3)) (some ⟨w.heap.size, 0, none⟩) [10]) := by
    refine .inr ⟨w.heap.size, 0, rfl, fun i hi => ?_⟩
    obtain rfl : i = 0 := by simpa using hi
    exact (rowIs_new w 3 #[.int .i64 10]).cell 0
  clear hok e1 e2
  go_enter Try.func6, Try.ntmps6
  go_wp2_with fail
  refine (HNW.out _ _ HI.out).mono ?_
  rintro e w1 ⟨S, g, cp, pbs, rfl, hA, hb⟩
  have hB := hb0.trans (hb.mono hb0.size)
  have HA := Lib.hid hA
  have hbl : w.heap.size ≤ (w.alloc (.cells #[.int .i64 10] 3)).heap.size := hb0.size
  clear hA hb HNW HI
  have HC := Lib.hid (set_any _ S g cp pbs w1 s1 HA.out 100 HOK.out (by decide) 0 (by decide) true)
  go_wp2_with fail
  refine HC.out.mono ?_
  rintro e w2 ⟨v, rfl, _, hA2, hb2, _⟩
  have HA2 := Lib.hid hA2
  have hB2 := hB.trans (hb2.mono hbl)
  have hlen2 : (s1.setUp 0 true).1.ports.length = pbs.length := hA2.len.symm
  have hl2 : pbs.length ≤ 1000 := by
    have := (HOK.out.setUp 0 true).len
    omega
  clear hA2 hb2 HC HA hlen2
  have C1 := Lib.hid (stateAt_any _ S g cp pbs w2 _ HA2.out hl2 0 (by decide))
  have C2 := Lib.hid (roleAt_any _ S g cp pbs w2 _ HA2.out hl2 0 (by decide))
  rw [E1.out] at C1
  rw [E2.out] at C2
  go_wp2_with fail
  refine C1.out.mono ?_
  rintro e w3 ⟨rfl, rfl⟩
  go_wp2_with fail
  refine C2.out.mono ?_
  rintro e w3 ⟨rfl, rfl⟩
  go_wp2_with fail
  go_ret
  exact ⟨rfl, hB2⟩
end Go.Proofs.Ytdhiaidbpjjljaa
