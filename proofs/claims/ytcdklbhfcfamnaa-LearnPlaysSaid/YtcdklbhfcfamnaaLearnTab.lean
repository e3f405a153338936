/- Group, may, Find. By an AI agent. -/
import Derived.Test.YtcdklbhfcfamnaaLearnNew
import Derived.Test.YtcdklbhfcfamnaaLearnGone
import Derived.BigRegion
namespace Go.Proofs.Ytcdklbhfcfamnaa
open Go.RowKit Go.MapKept Go.Maps Go.WideShapes Go.Sort Grow

def grp (a : UInt8) : Bool := a &&& 1 == 1
theorem info_mac : (Try.prog.info? 23).map (·.size) = some 6 := by kernel_rfl
theorem and_u8 (a b : UInt8) : bits .and .u8 (a.toNat : Int) (b.toNat : Int) = ((a &&& b).toNat : Int) := by
  have e : ∀ x : UInt8, (BitVec.ofInt 8 (x.toNat : Int)).toNat = x.toNat := fun x => by
    have := x.toNat_lt
    rw [BitVec.toNat_ofInt]
    omega
  show IntKind.u8.wrap ((BitVec.ofInt 8 (a.toNat : Int) &&& BitVec.ofInt 8 (b.toNat : Int)).toNat : Nat) = _
  rw [BitVec.toNat_and, e, e, UInt8.toNat_and]
  have h := (a &&& b).toNat_lt
  rw [UInt8.toNat_and] at h
  rw [IntKind.wrap_u8']
  omega
theorem and1 (a : UInt8) : bits .and .u8 (a.toNat : Int) 1 = ((a &&& 1).toNat : Int) := and_u8 a 1
theorem and254 (a : UInt8) : bits .and .u8 (a.toNat : Int) 254 = ((a &&& 254).toNat : Int) := and_u8 a 254
theorem grp_eq (a : UInt8) : (bits .and .u8 (a.toNat : Int) 1 == 1) = grp a := by
  rw [and1, grp, Bool.eq_iff_iff, beq_iff_eq, beq_iff_eq]
  constructor
  · intro h
    refine UInt8.toNat_inj.1 ?_
    show _ = 1
    omega
  · intro h
    rw [h]
    rfl
theorem grp254 (a : UInt8) : grp (a &&& 254) = false := by
  have : (a &&& 254) &&& 1 = 0 := by rw [UInt8.and_assoc]; exact UInt8.and_zero
  simp [grp, this]

theorem group_any (m : Mac6) (w : World) : Calls Try.prog 40 #[.agg #[.int .u8 (m.a.toNat : Int), .int .u8 (m.b.toNat : Int), .int .u8 (m.c.toNat : Int), .int .u8 (m.d.toNat : Int), .int .u8 (m.e.toNat : Int), .int .u8 (m.f.toNat : Int)]] w fun e w' => e = .returned (.bool (grp m.a)) ∧ Below w.heap.size w w' := by
  go_enter Try.func40, Try.ntmps40
  go_wp2_with fail
  rw [grp_eq]
  go_ret
  exact ⟨rfl, (Below.refl _ w).alloc (Nat.le_refl _) _⟩

/-- a key's entry is there -/
def HasKey (L : List Ent) (v : Int) (m : Mac6) : Prop := ∃ e ∈ L, e.v = v ∧ e.m = m
theorem key_of_mem {L : List Ent} {e : Ent} (h : e ∈ L) : (keyV e.v e.m, placeV e.port e.age e.fixed) ∈ L.map Ent.kv := List.mem_map.2 ⟨e, h, rfl⟩
theorem no_key {L : List Ent} {v : Int} {m : Mac6} (h : ¬ HasKey L v m) : ∀ p ∈ L.map Ent.kv, p.1 ≠ keyV v m := fun p hp e => by
  obtain ⟨x, hx, rfl⟩ := List.mem_map.1 hp
  have := keyV_inj (show keyV x.v x.m = keyV v m from e)
  exact h ⟨x, hx, this.1, this.2⟩

set_option maxRecDepth 20000 in
set_option maxHeartbeats 4000000 in
theorem find_go (B T M : Nat) (ageing : Int) (lims : List Int) (L : List Ent) (v : Int) (m : Mac6) (r : Value) (port age : Int) (fixed ok : Bool) (w : World) (h : TabIs B T M w ageing lims L)
    (hr : ∀ w' M, MapP Try.prog 65 w' M (L.map Ent.kv) → (Instr.lookup 61 (.map (some M)) (keyV v m) true).run Try.prog w' = .ok (.tuple #[placeV port age fixed, .bool ok]) w') :
    Calls Try.prog 12 #[.pointer (some ⟨T, 0, none⟩), .int .i64 v, .agg #[.int .u8 (m.a.toNat : Int), .int .u8 (m.b.toNat : Int), .int .u8 (m.c.toNat : Int), .int .u8 (m.d.toNat : Int), .int .u8 (m.e.toNat : Int), .int .u8 (m.f.toNat : Int)]] w fun e w' => e = .returned (.tuple #[.int .i64 port, .bool ok]) ∧ Below w.heap.size w w' := by
  obtain ⟨la, lc, hT, hBT, hBM, ho, hM, _⟩ := h
  have hbW : Below w.heap.size w (w.alloc (.cells #[.int .u8 (m.a.toNat : Int), .int .u8 (m.b.toNat : Int), .int .u8 (m.c.toNat : Int), .int .u8 (m.d.toNat : Int), .int .u8 (m.e.toNat : Int), .int .u8 (m.f.toNat : Int)] 23)) := (Below.refl _ w).alloc (Nat.le_refl _) _
  have HT : Hid (RowIs (w.alloc (.cells #[.int .u8 (m.a.toNat : Int), .int .u8 (m.b.toNat : Int), .int .u8 (m.c.toNat : Int), .int .u8 (m.d.toNat : Int), .int .u8 (m.e.toNat : Int), .int .u8 (m.f.toNat : Int)] 23)) T 63 #[.int .i64 ageing, .slice la lims.length lc, .map (some M)]) := hT.kept hbW
  have HR : Hid (RowIs (w.alloc (.cells #[.int .u8 (m.a.toNat : Int), .int .u8 (m.b.toNat : Int), .int .u8 (m.c.toNat : Int), .int .u8 (m.d.toNat : Int), .int .u8 (m.e.toNat : Int), .int .u8 (m.f.toNat : Int)] 23)) w.heap.size 23 #[.int .u8 (m.a.toNat : Int), .int .u8 (m.b.toNat : Int), .int .u8 (m.c.toNat : Int), .int .u8 (m.d.toNat : Int), .int .u8 (m.e.toNat : Int), .int .u8 (m.f.toNat : Int)]) := rowIs_new w 23 #[.int .u8 (m.a.toNat : Int), .int .u8 (m.b.toNat : Int), .int .u8 (m.c.toNat : Int), .int .u8 (m.d.toNat : Int), .int .u8 (m.e.toNat : Int), .int .u8 (m.f.toNat : Int)]
  have hlk := fun W' (hb : Below (w.alloc (.cells #[.int .u8 (m.a.toNat : Int), .int .u8 (m.b.toNat : Int), .int .u8 (m.c.toNat : Int), .int .u8 (m.d.toNat : Int), .int .u8 (m.e.toNat : Int), .int .u8 (m.f.toNat : Int)] 23)).heap.size (w.alloc (.cells #[.int .u8 (m.a.toNat : Int), .int .u8 (m.b.toNat : Int), .int .u8 (m.c.toNat : Int), .int .u8 (m.d.toNat : Int), .int .u8 (m.e.toNat : Int), .int .u8 (m.f.toNat : Int)] 23)) W') => hr W' M (hM.kept (hbW.trans (hb.mono hbW.size)))
  simp only [keyV, placeV] at hlk
  clear hT ho hM hr
  go_enter Try.func12, Try.ntmps12
  go_upto_region 3 with fail
  have hsz : w.heap.size < (w.alloc (.cells #[.int .u8 (m.a.toNat : Int), .int .u8 (m.b.toNat : Int), .int .u8 (m.c.toNat : Int), .int .u8 (m.d.toNat : Int), .int .u8 (m.e.toNat : Int), .int .u8 (m.f.toNat : Int)] 23)).heap.size := by simp
  generalize (w.alloc (.cells #[.int .u8 (m.a.toNat : Int), .int .u8 (m.b.toNat : Int), .int .u8 (m.c.toNat : Int), .int .u8 (m.d.toNat : Int), .int .u8 (m.e.toNat : Int), .int .u8 (m.f.toNat : Int)] 23)) = W at *
  have k0 := fun j => HR.out.cell j
  have k1 : ∀ W' , Below W.heap.size W W' → W'.cell? ⟨T, 2, none⟩ = some (.map (some M)) := fun W' hb => (HT.out.kept hb).cell 2
  have d1 := k1 _ (Below.refl _ _).drew
  have d2 := k1 _ (((Below.refl _ W).alloc (Nat.le_refl _) (.cells #[.int .i64 0, .int .i64 0, .bool false] 67)).drew)
  have e1 := hlk _ (Below.refl _ _).drew
  have e2 := hlk _ (((Below.refl _ W).alloc (Nat.le_refl _) (.cells #[.int .i64 0, .int .i64 0, .bool false] 67)).drew)
  have HR1 : ∀ j, W.drew.cell? ⟨w.heap.size, j, none⟩ = #[.int .u8 (m.a.toNat : Int), .int .u8 (m.b.toNat : Int), .int .u8 (m.c.toNat : Int), .int .u8 (m.d.toNat : Int), .int .u8 (m.e.toNat : Int), .int .u8 (m.f.toNat : Int)][j]? := fun j => RowIs.cell (HR.out.kept (Below.refl _ _).drew) j
  have HR2 : ∀ j, (W.alloc (.cells #[.int .i64 0, .int .i64 0, .bool false] 67)).drew.cell? ⟨w.heap.size, j, none⟩ = #[.int .u8 (m.a.toNat : Int), .int .u8 (m.b.toNat : Int), .int .u8 (m.c.toNat : Int), .int .u8 (m.d.toNat : Int), .int .u8 (m.e.toNat : Int), .int .u8 (m.f.toNat : Int)][j]? := fun j => RowIs.cell (HR.out.kept ((Below.refl _ W).alloc (Nat.le_refl _) _).drew) j
  have f1 := HR1 0
  have f2 := HR1 1
  have f3 := HR1 2
  have f4 := HR1 3
  have f5 := HR1 4
  have f6 := HR1 5
  have g1 := HR2 0
  have g2 := HR2 1
  have g3 := HR2 2
  have g4 := HR2 3
  have g5 := HR2 4
  have g6 := HR2 5
  simp at f1 f2 f3 f4 f5 f6 g1 g2 g3 g4 g5 g6
  clear k0 k1 HR1 HR2 hlk
  have hbW := hbW.trans ((((Below.refl _ W).alloc (Nat.le_refl _) (.cells #[.int .i64 port, .int .i64 age, .bool fixed] 67)).drew).mono (Nat.le_of_lt hsz))
  go_big_region
  all_goals
    go_wp2_with fail
    go_ret2
    exact ⟨rfl, hbW⟩

theorem find_hit (B T M : Nat) (ageing : Int) (lims : List Int) (L : List Ent) (e0 : Ent) (w : World) (h : TabIs B T M w ageing lims L) (he : e0 ∈ L) :
    Calls Try.prog 12 #[.pointer (some ⟨T, 0, none⟩), .int .i64 e0.v, .agg #[.int .u8 (e0.m.a.toNat : Int), .int .u8 (e0.m.b.toNat : Int), .int .u8 (e0.m.c.toNat : Int), .int .u8 (e0.m.d.toNat : Int), .int .u8 (e0.m.e.toNat : Int), .int .u8 (e0.m.f.toNat : Int)]] w fun e w' => e = .returned (.tuple #[.int .i64 e0.port, .bool true]) ∧ Below w.heap.size w w' := by
  have hv : I64 e0.v := by
    obtain ⟨_, _, _, _, _, _, _, h6⟩ := h
    exact h6 e0 he
  obtain ⟨x, hx⟩ := keyOf_learn e0.v hv e0.m
  exact find_go B T M ageing lims L e0.v e0.m (.bool true) e0.port e0.age e0.fixed true w h (fun w' M hM => run_lookup_hitP learn_keyed Try.underlying61 hM hx (key_of_mem he) true)

theorem zero_place (w : World) : (zeroValue 67).run Try.prog w = .ok (placeV 0 0 false) w := by
  simp only [placeV]
  go_simp

theorem find_miss (B T M : Nat) (ageing : Int) (lims : List Int) (L : List Ent) (v : Int) (hv : I64 v) (m : Mac6) (w : World) (h : TabIs B T M w ageing lims L) (hn : ¬ HasKey L v m) :
    Calls Try.prog 12 #[.pointer (some ⟨T, 0, none⟩), .int .i64 v, .agg #[.int .u8 (m.a.toNat : Int), .int .u8 (m.b.toNat : Int), .int .u8 (m.c.toNat : Int), .int .u8 (m.d.toNat : Int), .int .u8 (m.e.toNat : Int), .int .u8 (m.f.toNat : Int)]] w fun e w' => e = .returned (.tuple #[.int .i64 0, .bool false]) ∧ Below w.heap.size w w' := by
  obtain ⟨x, hx⟩ := keyOf_learn v hv m
  exact find_go B T M ageing lims L v m (.bool true) 0 0 false false w h (fun w' M hM => run_lookup_missP learn_keyed Try.underlying61 hM hx (no_key hn) (zero_place w') true)

/-! ### may -/
def mayBad (lims : List Int) (v : Int) (m : Mac6) (port : Int) : Bool := decide (v < 1) || decide (4094 < v) || grp m.a || decide (port < 0) || decide ((lims.length : Int) ≤ port)

set_option maxRecDepth 20000 in
set_option maxHeartbeats 4000000 in
theorem may_bad (B T M : Nat) (ageing : Int) (lims : List Int) (L : List Ent) (v : Int) (m : Mac6) (port : Int) (w : World) (h : TabIs B T M w ageing lims L) (hb : mayBad lims v m port = true) :
    Calls Try.prog 27 #[.pointer (some ⟨T, 0, none⟩), .int .i64 v, .agg #[.int .u8 (m.a.toNat : Int), .int .u8 (m.b.toNat : Int), .int .u8 (m.c.toNat : Int), .int .u8 (m.d.toNat : Int), .int .u8 (m.e.toNat : Int), .int .u8 (m.f.toNat : Int)], .int .i64 port] w fun e w' => e = .returned (.int .i64 1) ∧ Below w.heap.size w w' := by
  obtain ⟨la, lc, hT, hBT, hBM, ho, hM, _⟩ := h
  have hbW : Below w.heap.size w (w.alloc (.cells #[.int .u8 (m.a.toNat : Int), .int .u8 (m.b.toNat : Int), .int .u8 (m.c.toNat : Int), .int .u8 (m.d.toNat : Int), .int .u8 (m.e.toNat : Int), .int .u8 (m.f.toNat : Int)] 23)) := (Below.refl _ w).alloc (Nat.le_refl _) _
  have HG := Lib.hid (group_any m)
  have HT := Lib.hid hT
  unfold mayBad at hb
  clear hT ho hM
  by_cases h1 : v < 1
  · clear hb
    go_enter Try.func27, Try.ntmps27
    go_wp2_with fail
    go_ret
    exact ⟨rfl, hbW⟩
  · by_cases h2 : 4094 < v
    · have h1' : decide (v < 1) = false := decide_eq_false h1
      clear hb
      go_enter Try.func27, Try.ntmps27
      go_wp2_with fail
      go_ret
      exact ⟨rfl, hbW⟩
    · have h1' : decide (v < 1) = false := decide_eq_false h1
      have h2' : decide (4094 < v) = false := decide_eq_false h2
      rw [h1', h2'] at hb
      cases hg : grp m.a
      · rw [hg] at hb HG
        have HQ : Hid (∀ w2, Below w.heap.size w w2 → w2.cell? ⟨T, 1, none⟩ = some (.slice la lims.length lc)) := fun w2 hb2 => (HT.out.kept hb2).cell 1
        by_cases h3 : port < 0
        · clear hb
          go_enter Try.func27, Try.ntmps27
          go_wp2_with fail
          refine (HG.out _).mono ?_
          rintro e w2 ⟨rfl, hb2⟩
          have hbW := hbW.trans (hb2.mono hbW.size)
          clear hb2
          go_wp2_with fail
          go_ret
          exact ⟨rfl, hbW⟩
        · have h3' : decide (port < 0) = false := decide_eq_false h3
          rw [h3'] at hb
          have h4 : (lims.length : Int) ≤ port := by simpa using hb
          clear hb
          go_enter Try.func27, Try.ntmps27
          go_wp2_with fail
          refine (HG.out _).mono ?_
          rintro e w2 ⟨rfl, hb2⟩
          have hbW := hbW.trans (hb2.mono hbW.size)
          have c1 := HQ.out _ hbW
          clear hb2
          go_wp2_with fail
          go_ret
          exact ⟨rfl, hbW⟩
      · rw [hg] at HG
        clear hb
        go_enter Try.func27, Try.ntmps27
        go_wp2_with fail
        refine (HG.out _).mono ?_
        rintro e w2 ⟨rfl, hb2⟩
        have hbW := hbW.trans (hb2.mono hbW.size)
        clear hb2
        go_wp2_with fail
        go_ret
        exact ⟨rfl, hbW⟩

set_option maxRecDepth 20000 in
set_option maxHeartbeats 4000000 in
theorem may_go (B T M : Nat) (ageing : Int) (lims : List Int) (L : List Ent) (v : Int) (m : Mac6) (port p0 age : Int) (fixed : Bool) (w : World) (h : TabIs B T M w ageing lims L) (hb : mayBad lims v m port = false)
    (hr : ∀ w' M, MapP Try.prog 65 w' M (L.map Ent.kv) → (Instr.lookup 61 (.map (some M)) (keyV v m) false).run Try.prog w' = .ok (placeV p0 age fixed) w') :
    Calls Try.prog 27 #[.pointer (some ⟨T, 0, none⟩), .int .i64 v, .agg #[.int .u8 (m.a.toNat : Int), .int .u8 (m.b.toNat : Int), .int .u8 (m.c.toNat : Int), .int .u8 (m.d.toNat : Int), .int .u8 (m.e.toNat : Int), .int .u8 (m.f.toNat : Int)], .int .i64 port] w fun e w' => e = .returned (.int .i64 (if fixed then 10 else 0)) ∧ Below w.heap.size w w' := by
  obtain ⟨la, lc, hT, hBT, hBM, ho, hM, _⟩ := h
  have hbW : Below w.heap.size w (w.alloc (.cells #[.int .u8 (m.a.toNat : Int), .int .u8 (m.b.toNat : Int), .int .u8 (m.c.toNat : Int), .int .u8 (m.d.toNat : Int), .int .u8 (m.e.toNat : Int), .int .u8 (m.f.toNat : Int)] 23)) := (Below.refl _ w).alloc (Nat.le_refl _) _
  have HR : Hid (RowIs (w.alloc (.cells #[.int .u8 (m.a.toNat : Int), .int .u8 (m.b.toNat : Int), .int .u8 (m.c.toNat : Int), .int .u8 (m.d.toNat : Int), .int .u8 (m.e.toNat : Int), .int .u8 (m.f.toNat : Int)] 23)) w.heap.size 23 #[.int .u8 (m.a.toNat : Int), .int .u8 (m.b.toNat : Int), .int .u8 (m.c.toNat : Int), .int .u8 (m.d.toNat : Int), .int .u8 (m.e.toNat : Int), .int .u8 (m.f.toNat : Int)]) := rowIs_new w 23 #[.int .u8 (m.a.toNat : Int), .int .u8 (m.b.toNat : Int), .int .u8 (m.c.toNat : Int), .int .u8 (m.d.toNat : Int), .int .u8 (m.e.toNat : Int), .int .u8 (m.f.toNat : Int)]
  have HG := Lib.hid (group_any m)
  have HT := Lib.hid hT
  have hlk := Lib.hid fun W' (hb : Below w.heap.size w W') => hr W' M (hM.kept hb)
  unfold mayBad at hb
  simp only [Bool.or_eq_false_iff, decide_eq_false_iff_not] at hb
  obtain ⟨⟨⟨⟨h1, h2⟩, hg⟩, h3⟩, h4⟩ := hb
  have h1' : decide (v < 1) = false := decide_eq_false h1
  have h2' : decide (4094 < v) = false := decide_eq_false h2
  have h3' : decide (port < 0) = false := decide_eq_false h3
  have h4' : decide ((lims.length : Int) ≤ port) = false := decide_eq_false h4
  rw [hg] at HG
  clear hT ho hM hr hg
  have HQ : Hid (∀ w2, Below w.heap.size w w2 → w2.cell? ⟨T, 1, none⟩ = some (.slice la lims.length lc)) := fun w2 hb2 => (HT.out.kept hb2).cell 1
  go_enter Try.func27, Try.ntmps27
  go_wp2_with fail
  refine (HG.out _).mono ?_
  rintro e w2 ⟨rfl, hb2⟩
  have HR2 := Lib.hid (HR.out.kept hb2)
  have hbW := hbW.trans (hb2.mono hbW.size)
  have c1 := HQ.out _ hbW
  clear hb2 HR
  go_upto_region 3 with fail
  have hbW := hbW.trans ((Below.refl w2.heap.size w2).drew.mono hbW.size)
  have d1 : w2.drew.cell? ⟨T, 2, none⟩ = some (.map (some M)) := (HT.out.kept hbW).cell 2
  have e1 := hlk.out _ hbW
  simp only [keyV, placeV] at e1
  have HR1 : ∀ j, w2.drew.cell? ⟨w.heap.size, j, none⟩ = #[.int .u8 (m.a.toNat : Int), .int .u8 (m.b.toNat : Int), .int .u8 (m.c.toNat : Int), .int .u8 (m.d.toNat : Int), .int .u8 (m.e.toNat : Int), .int .u8 (m.f.toNat : Int)][j]? := fun j => RowIs.cell (HR2.out.kept (Below.refl _ _).drew) j
  have f1 := HR1 0
  have f2 := HR1 1
  have f3 := HR1 2
  have f4 := HR1 3
  have f5 := HR1 4
  have f6 := HR1 5
  simp at f1 f2 f3 f4 f5 f6
  clear HR1
  have hfl : ∀ w : World, (Instr.field 67 (.agg #[.int .i64 p0, .int .i64 age, .bool fixed]) 2).run Try.prog w = .ok (.bool fixed) w := fun w => by kernel_rfl
  cases fixed
  all_goals
    go_big_region
    all_goals
      go_wp2_with fail
      go_ret
      exact ⟨rfl, hbW⟩

theorem may_fixed (B T M : Nat) (ageing : Int) (lims : List Int) (L : List Ent) (e0 : Ent) (port : Int) (w : World) (h : TabIs B T M w ageing lims L) (hb : mayBad lims e0.v e0.m port = false) (he : e0 ∈ L) :
    Calls Try.prog 27 #[.pointer (some ⟨T, 0, none⟩), .int .i64 e0.v, .agg #[.int .u8 (e0.m.a.toNat : Int), .int .u8 (e0.m.b.toNat : Int), .int .u8 (e0.m.c.toNat : Int), .int .u8 (e0.m.d.toNat : Int), .int .u8 (e0.m.e.toNat : Int), .int .u8 (e0.m.f.toNat : Int)], .int .i64 port] w fun e w' => e = .returned (.int .i64 (if e0.fixed then 10 else 0)) ∧ Below w.heap.size w w' := by
  have hv : I64 e0.v := by
    obtain ⟨_, _, _, _, _, _, _, h6⟩ := h
    exact h6 e0 he
  obtain ⟨x, hx⟩ := keyOf_learn e0.v hv e0.m
  exact may_go B T M ageing lims L e0.v e0.m port e0.port e0.age e0.fixed w h hb (fun w' M hM => run_lookup_hitP learn_keyed Try.underlying61 hM hx (key_of_mem he) false)
theorem may_new (B T M : Nat) (ageing : Int) (lims : List Int) (L : List Ent) (v : Int) (hv : I64 v) (m : Mac6) (port : Int) (w : World) (h : TabIs B T M w ageing lims L) (hb : mayBad lims v m port = false) (hn : ¬ HasKey L v m) :
    Calls Try.prog 27 #[.pointer (some ⟨T, 0, none⟩), .int .i64 v, .agg #[.int .u8 (m.a.toNat : Int), .int .u8 (m.b.toNat : Int), .int .u8 (m.c.toNat : Int), .int .u8 (m.d.toNat : Int), .int .u8 (m.e.toNat : Int), .int .u8 (m.f.toNat : Int)], .int .i64 port] w fun e w' => e = .returned (.int .i64 0) ∧ Below w.heap.size w w' := by
  obtain ⟨x, hx⟩ := keyOf_learn v hv m
  exact may_go B T M ageing lims L v m port 0 0 false w h hb (fun w' M hM => run_lookup_missP learn_keyed Try.underlying61 hM hx (no_key hn) (zero_place w') false)
end Go.Proofs.Ytcdklbhfcfamnaa
