/- Tables of stations, as they lie in memory: keys, places. Of no function. By an AI agent. -/
import Derived.Test.YthfckdnennfnoaaGreatDoorKeyed
import Derived.Test.YthfckdnennfnoaaGreatDoorCell
namespace Go.Proofs.YthfckdnennfnoaaGreatDoor
open Go.RowKit Go.MapKept Go.Maps Go.WideShapes

structure Mac6 where
  (a b c d e f : UInt8)
def Mac6.l (m : Mac6) : List UInt8 := [m.a, m.b, m.c, m.d, m.e, m.f]
theorem Mac6.l_inj {m m' : Mac6} (h : m.l = m'.l) : m = m' := by
  cases m; cases m'
  simp only [Mac6.l, List.cons.injEq, and_true] at h
  simp [h]

/-- an entry: a VLAN, a station; a port, an age, fixed? -/
structure Ent where
  (v : Int) (m : Mac6) (port age : Int) (fixed : Bool)
def keyV (v : Int) (m : Mac6) : Value := .agg #[.int .i64 v, .int .u8 (m.a.toNat : Int), .int .u8 (m.b.toNat : Int), .int .u8 (m.c.toNat : Int), .int .u8 (m.d.toNat : Int), .int .u8 (m.e.toNat : Int), .int .u8 (m.f.toNat : Int)]
def placeV (port age : Int) (fixed : Bool) : Value := .agg #[.int .i64 port, .int .i64 age, .bool fixed]
def Ent.kv (e : Ent) : KV := (keyV e.v e.m, placeV e.port e.age e.fixed)
theorem keyV_inj {v v' : Int} {m m' : Mac6} (h : keyV v m = keyV v' m') : v = v' ∧ m = m' := by
  cases m; cases m'
  simp only [keyV, Value.agg.injEq, Array.mk.injEq, List.cons.injEq, Value.int.injEq, true_and, and_true] at h
  obtain ⟨h, h1, h2, h3, h4, h5, h6⟩ := h
  have e : ∀ x y : UInt8, (x.toNat : Int) = (y.toNat : Int) → x = y := fun x y h => UInt8.toNat_inj.1 (by omega)
  refine ⟨h, ?_⟩
  rw [e _ _ h1, e _ _ h2, e _ _ h3, e _ _ h4, e _ _ h5, e _ _ h6]
def I64 (n : Int) : Prop := -9223372036854775808 ≤ n ∧ n ≤ 9223372036854775807

theorem und_key : ∃ fs, Tryz.prog.underlying 207 = some (.struct fs) := ⟨_, Tryz.underlying207⟩
set_option maxRecDepth 20000 in
theorem keyOf_learn (v : Int) (hv : I64 v) (m : Mac6) : ∃ x, keyOf Tryz.prog 207 (keyV v m) = some x := by
  have hu := Tryz.underlying207
  have hk : Tryz.prog.keyType 207 = true := by kernel_rfl
  have hc : Tryz.prog.cellsOf 207 = 7 := by kernel_rfl
  have hc8 : Tryz.prog.cellsOf 5 = 1 := by kernel_rfl
  have hci : Tryz.prog.cellsOf 3 = 1 := by kernel_rfl
  have hcm : Tryz.prog.cellsOf 202 = 6 := by kernel_rfl
  have hw : (Lit.int .i64 v).wf = true := by
    simp only [Lit.wf, Bool.and_eq_true, decide_eq_true_eq]
    exact hv
  have hb : ∀ x : UInt8, (Lit.int .u8 (x.toNat : Int)).wf = true := fun x => by
    have := x.toNat_lt
    simp only [Lit.wf, Bool.and_eq_true, decide_eq_true_eq]
    simp only [IntKind.min, IntKind.max, IntKind.signed, IntKind.bits]
    simp
    omega
  obtain ⟨q, hq⟩ : ∃ q, Tryz.prog.types.size + 1 = q + 1 + 1 + 1 := ⟨Tryz.prog.types.size - 2, by
    have : 2 ≤ Tryz.prog.types.size := of_decide_eq_true (by kernel_rfl)
    omega⟩
  unfold keyOf
  rw [hu]
  simp only
  rw [hk, show (keyV v m).formed Tryz.prog 207 = true by simp [keyV, Value.formed, hu, hc], hq]
  simp only [Bool.and_self, if_true]
  unfold Program.keyLits
  rw [hu]
  simp only [keyV, Value.cells]
  have k1 : Tryz.prog.keyLits (q + 1 + 1) 3 [.int .i64 v] = some [.int .i64 v] := by
    unfold Program.keyLits
    rw [Tryz.underlying3]
    simp only
    simp [hw]
  have k2 : ∀ x : UInt8, Tryz.prog.keyLits (q + 1) 5 [.int .u8 (x.toNat : Int)] = some [.int .u8 (x.toNat : Int)] := fun x => by
    unfold Program.keyLits
    rw [Tryz.underlying5]
    simp only
    simp [hb x]
  have k3 : Tryz.prog.keyLits (q + 1 + 1) 202 [.int .u8 (m.a.toNat : Int), .int .u8 (m.b.toNat : Int), .int .u8 (m.c.toNat : Int), .int .u8 (m.d.toNat : Int), .int .u8 (m.e.toNat : Int), .int .u8 (m.f.toNat : Int)] = some [Lit.int .u8 (m.a.toNat : Int), Lit.int .u8 (m.b.toNat : Int), Lit.int .u8 (m.c.toNat : Int), Lit.int .u8 (m.d.toNat : Int), Lit.int .u8 (m.e.toNat : Int), Lit.int .u8 (m.f.toNat : Int)] := by
    unfold Program.keyLits
    rw [Tryz.underlying202]
    simp only
    simp [hcm, hc8, k2, show List.range 6 = [0, 1, 2, 3, 4, 5] from rfl]
  simp [hc, hci, hcm, k1, k3]

theorem learn_keyed : Keyed Tryz.prog 207 := .of_law (deep_law_gate (by kernel_rfl) (of_decide_eq_true (by kernel_rfl)) (of_decide_eq_true (by kernel_rfl)) (by kernel_rfl) (by kernel_rfl))
end Go.Proofs.YthfckdnennfnoaaGreatDoor
