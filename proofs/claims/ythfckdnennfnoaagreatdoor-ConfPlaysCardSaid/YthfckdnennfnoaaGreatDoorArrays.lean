/- '==' and '!=' between arrays of bytes. Of no function. By an AI agent. -/
import Derived.Test.YthfckdnennfnoaaGreatDoorBytes
import Derived.ChangeKeysEq
namespace Go.Proofs.YthfckdnennfnoaaGreatDoor
open Go.RowKit

/-- are two lists of bytes the same? (a name that the walk does not open) -/
def eqB (l r : List UInt8) : Bool := l == r
theorem eqB_true {l r : List UInt8} : eqB l r = true ↔ l = r := by simp [eqB]
theorem eqB_false {l r : List UInt8} : eqB l r = false ↔ l ≠ r := by simp [eqB]

theorem run_eqItems_bytes (d : Nat) (l r : List UInt8) (w : World) : ∀ (is : List Nat), (∀ i ∈ is, i < l.length ∧ i < r.length) →
    (Op.eqItems (d + 1) 5 1 (byteVals l).toArray (byteVals r).toArray is).run Tryz.prog w = .ok (is.all fun i => l.getD i 0 == r.getD i 0) w
  | [], _ => by simp [Op.eqItems]
  | i :: is, h => by
    have he : Tryz.prog.plainKey 5 = true := by kernel_rfl
    obtain ⟨h1, h2⟩ := h i (by simp)
    have p1 : (part 5 (byteVals l).toArray (i * 1)).run Tryz.prog w = .ok (.int .u8 ((l[i]).toNat : Int)) w := run_part_plain w he (by simp [byteVals, h1])
    have p2 : (part 5 (byteVals r).toArray (i * 1)).run Tryz.prog w = .ok (.int .u8 ((r[i]).toNat : Int)) w := run_part_plain w he (by simp [byteVals, h2])
    have p3 := run_equalIn_int (P := Tryz.prog) w d 5 .u8 .u8 ((l[i]).toNat : Int) ((r[i]).toNat : Int) Tryz.underlying5
    have ih := run_eqItems_bytes d l r w is (fun j hj => h j (by simp [hj]))
    simp only [Op.eqItems, Sem.run_bind, p1, p2, p3, Result.andThen_ok]
    have e : (l.getD i 0 == r.getD i 0) = (((l[i]).toNat : Int) == ((r[i]).toNat : Int)) := by
      rw [List.getD, List.getD, List.getElem?_eq_getElem h1, List.getElem?_eq_getElem h2]
      rw [Bool.eq_iff_iff]
      simp only [Option.getD_some, beq_iff_eq]
      constructor
      · intro h; rw [h]
      · intro h; exact UInt8.toNat_inj.1 (by omega)
    rw [List.all_cons, e]
    cases hq : (((l[i]).toNat : Int) == ((r[i]).toNat : Int))
    · simp [Sem.run_pure]
    · simp [ih]

set_option maxRecDepth 20000 in
theorem run_equalIn_bytes (d n : Nat) {t : TypeId} (ht : Tryz.prog.underlying t = some (.array n 5)) (l r : List UInt8) (hl : l.length = n) (hr : r.length = n) (w : World) :
    (Op.equalIn (d + 1 + 1) t (.agg (byteVals l).toArray) (.agg (byteVals r).toArray)).run Tryz.prog w = .ok (eqB l r) w := by
  obtain ⟨i0, hi, _⟩ := info_parts Tryz.infoU8
  rw [run_equalIn_array (P := Tryz.prog) w (d + 1) _ _ ht hi, show Tryz.prog.cellsOf 5 = 1 from by kernel_rfl, run_eqItems_bytes d l r w _ (fun i hi => by simp at hi; omega)]
  congr 1
  unfold eqB
  rw [Bool.eq_iff_iff]
  simp only [List.all_eq_true, List.mem_range, beq_iff_eq]
  constructor
  · intro h
    apply List.ext_getElem (by omega)
    intro i h1 h2
    have := h i (by omega)
    simpa [List.getD, List.getElem?_eq_getElem h1, List.getElem?_eq_getElem h2] using this
  · rintro rfl i _
    rfl

theorem run_equalIn_mac (d : Nat) (a b c e f g a' b' c' e' f' g' : UInt8) (w : World) :
    (Op.equalIn (d + 1 + 1) 202 (.agg #[.int .u8 (a.toNat : Int), .int .u8 (b.toNat : Int), .int .u8 (c.toNat : Int), .int .u8 (e.toNat : Int), .int .u8 (f.toNat : Int), .int .u8 (g.toNat : Int)])
      (.agg #[.int .u8 (a'.toNat : Int), .int .u8 (b'.toNat : Int), .int .u8 (c'.toNat : Int), .int .u8 (e'.toNat : Int), .int .u8 (f'.toNat : Int), .int .u8 (g'.toNat : Int)])).run Tryz.prog w = .ok (eqB [a, b, c, e, f, g] [a', b', c', e', f', g']) w :=
  run_equalIn_bytes d 6 Tryz.underlying202 [a, b, c, e, f, g] [a', b', c', e', f', g'] rfl rfl w
theorem run_equalIn_id (d : Nat) (a b : Nat → UInt8) (w : World) :
    (Op.equalIn (d + 1 + 1) 28 (.agg #[.int .u8 ((a 0).toNat : Int), .int .u8 ((a 1).toNat : Int), .int .u8 ((a 2).toNat : Int), .int .u8 ((a 3).toNat : Int), .int .u8 ((a 4).toNat : Int), .int .u8 ((a 5).toNat : Int), .int .u8 ((a 6).toNat : Int), .int .u8 ((a 7).toNat : Int)]) (.agg #[.int .u8 ((b 0).toNat : Int), .int .u8 ((b 1).toNat : Int), .int .u8 ((b 2).toNat : Int), .int .u8 ((b 3).toNat : Int), .int .u8 ((b 4).toNat : Int), .int .u8 ((b 5).toNat : Int), .int .u8 ((b 6).toNat : Int), .int .u8 ((b 7).toNat : Int)])).run Tryz.prog w = .ok (eqB [a 0, a 1, a 2, a 3, a 4, a 5, a 6, a 7] [b 0, b 1, b 2, b 3, b 4, b 5, b 6, b 7]) w :=
  run_equalIn_bytes d 8 Tryz.underlying28 [a 0, a 1, a 2, a 3, a 4, a 5, a 6, a 7] [b 0, b 1, b 2, b 3, b 4, b 5, b 6, b 7] rfl rfl w
theorem run_equalIn_id8 (d : Nat) (a b : Nat → UInt8) (w : World) :
    (Op.equalIn (d + 1 + 1) 22 (.agg #[.int .u8 ((a 0).toNat : Int), .int .u8 ((a 1).toNat : Int), .int .u8 ((a 2).toNat : Int), .int .u8 ((a 3).toNat : Int), .int .u8 ((a 4).toNat : Int), .int .u8 ((a 5).toNat : Int), .int .u8 ((a 6).toNat : Int), .int .u8 ((a 7).toNat : Int)]) (.agg #[.int .u8 ((b 0).toNat : Int), .int .u8 ((b 1).toNat : Int), .int .u8 ((b 2).toNat : Int), .int .u8 ((b 3).toNat : Int), .int .u8 ((b 4).toNat : Int), .int .u8 ((b 5).toNat : Int), .int .u8 ((b 6).toNat : Int), .int .u8 ((b 7).toNat : Int)])).run Tryz.prog w = .ok (eqB [a 0, a 1, a 2, a 3, a 4, a 5, a 6, a 7] [b 0, b 1, b 2, b 3, b 4, b 5, b 6, b 7]) w :=
  run_equalIn_bytes d 8 Tryz.underlying22 [a 0, a 1, a 2, a 3, a 4, a 5, a 6, a 7] [b 0, b 1, b 2, b 3, b 4, b 5, b 6, b 7] rfl rfl w
end Go.Proofs.YthfckdnennfnoaaGreatDoor
