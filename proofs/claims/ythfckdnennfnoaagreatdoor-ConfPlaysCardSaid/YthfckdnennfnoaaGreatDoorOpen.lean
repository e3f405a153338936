/- Arguments opened: arrays and structs by value are rows of cells, each of its type. By an AI agent. -/
import Derived.Test.YthfckdnennfnoaaGreatDoorChecked
import Derived.WalkKit
import Derived.ProofKit
import Derived.OpenShut
namespace Go.Proofs.YthfckdnennfnoaaGreatDoor
open Go.ChangeShapes Go.WideShapes Go.ChangeAt Go.RowKit

theorem row_cell {P : Program} {w : World} {r : Reach} {base : Nat} {t : TypeId} {cs : Array Value} {ts : List TypeId} (h : Row.okWide P w r base t cs) (hts : P.cellTypes P.depth t = some ts) (hsz : cs.size = ts.length) (i : Nat) (hi : i < ts.length) (v : Value) (hv : cs[i]? = some v) :
    Cell.okWide P w r base ts[i] v := by
  obtain ⟨ts', h1, _, h3⟩ := h
  obtain rfl : ts = ts' := Option.some.inj (hts.symm.trans h1)
  obtain ⟨u, hu, hc⟩ := h3 i v hv
  rw [Nat.mod_eq_of_lt hi, List.getElem?_eq_getElem hi] at hu
  obtain rfl := Option.some.inj hu
  exact hc

section
variable {P : Program} {w : World} {r : Reach} {base : Nat} {e : TypeId} {v : Value}
theorem cell_int {k : IntKind} (he : P.underlying e = some (.int k)) (h : Cell.okWide P w r base e v) : ∃ n, v = .int k n ∧ k.has n := by
  unfold Cell.okWide at h
  rw [he] at h
  cases v <;> simp [Cell.ok, he] at h
  obtain ⟨rfl, h⟩ := h
  exact ⟨_, rfl, h⟩

theorem cell_u8 (he : P.underlying e = some (.int .u8)) (h : Cell.okWide P w r base e v) : ∃ x : UInt8, v = .int .u8 (x.toNat : Int) := by
  obtain ⟨n, rfl, hn⟩ := cell_int he h
  simp [IntKind.has, IntKind.min, IntKind.max, IntKind.signed, IntKind.bits] at hn
  refine ⟨UInt8.ofNat n.toNat, ?_⟩
  congr 1
  rw [UInt8.toNat_ofNat']
  omega

theorem cell_bool (he : P.underlying e = some .bool) (h : Cell.okWide P w r base e v) : ∃ b, v = .bool b := by
  unfold Cell.okWide at h
  rw [he] at h
  cases v <;> simp [Cell.ok, he] at h
  exact ⟨_, rfl⟩

theorem cell_string (he : P.underlying e = some .string) (h : Cell.okWide P w r base e v) : ∃ s : ByteArray, v = .string s := by
  unfold Cell.okWide at h
  rw [he] at h
  cases v <;> simp [Cell.ok, he] at h
  exact ⟨_, rfl⟩

theorem okWide_array {n : Nat} {t : TypeId} (ht : P.underlying t = some (.array n e)) (h : Value.okWide P w r base t v) : ∃ cs, v = .agg cs ∧ cs.size = P.cellsOf t ∧ Row.okWide P w r base t cs := by
  simp only [Value.okWide, ht] at h
  exact h

theorem okWide_structRow {fs : Array Field} {t : TypeId} (ht : P.underlying t = some (.struct fs)) (h : Value.okWide P w r base t v) : ∃ cs, v = .agg cs ∧ cs.size = P.cellsOf t ∧ Row.okWide P w r base t cs := by
  simp only [Value.okWide, ht] at h
  exact h
end

theorem arr4 {cs : Array Value} (h : cs.size = 4) : ∃ a b c d, cs = #[a, b, c, d] := by
  obtain ⟨l⟩ := cs
  match l, h with
  | [a, b, c, d], _ => exact ⟨a, b, c, d, rfl⟩

theorem arr6 {cs : Array Value} (h : cs.size = 6) : ∃ a b c d e f, cs = #[a, b, c, d, e, f] := by
  obtain ⟨l⟩ := cs
  match l, h with
  | [a, b, c, d, e, f], _ => exact ⟨a, b, c, d, e, f, rfl⟩

theorem arr8 {cs : Array Value} (h : cs.size = 8) : ∃ a b c d e f g i, cs = #[a, b, c, d, e, f, g, i] := by
  obtain ⟨l⟩ := cs
  match l, h with
  | [a, b, c, d, e, f, g, i], _ => exact ⟨a, b, c, d, e, f, g, i, rfl⟩

set_option maxRecDepth 20000 in
theorem open_id {w : World} {r : Reach} {base : Nat} {v : Value} (h : Value.okWide Tryz.prog w r base 28 v) : ∃ a : Nat → UInt8, v = .agg #[.int .u8 ((a 0).toNat : Int), .int .u8 ((a 1).toNat : Int), .int .u8 ((a 2).toNat : Int), .int .u8 ((a 3).toNat : Int), .int .u8 ((a 4).toNat : Int), .int .u8 ((a 5).toNat : Int), .int .u8 ((a 6).toNat : Int), .int .u8 ((a 7).toNat : Int)] := by
  obtain ⟨cs, rfl, hsz, hrow⟩ := okWide_array Tryz.underlying28 h
  have hts : Tryz.prog.cellTypes Tryz.prog.depth 28 = some [5, 5, 5, 5, 5, 5, 5, 5] := by kernel_rfl
  have hs8 : cs.size = 8 := hsz.trans (by kernel_rfl)
  obtain ⟨a, b, c, d, e, f, g, i, rfl⟩ := arr8 hs8
  obtain ⟨a, rfl⟩ := cell_u8 Tryz.underlying5 (row_cell hrow hts rfl 0 (by decide) a rfl)
  obtain ⟨b, rfl⟩ := cell_u8 Tryz.underlying5 (row_cell hrow hts rfl 1 (by decide) b rfl)
  obtain ⟨c, rfl⟩ := cell_u8 Tryz.underlying5 (row_cell hrow hts rfl 2 (by decide) c rfl)
  obtain ⟨d, rfl⟩ := cell_u8 Tryz.underlying5 (row_cell hrow hts rfl 3 (by decide) d rfl)
  obtain ⟨e, rfl⟩ := cell_u8 Tryz.underlying5 (row_cell hrow hts rfl 4 (by decide) e rfl)
  obtain ⟨f, rfl⟩ := cell_u8 Tryz.underlying5 (row_cell hrow hts rfl 5 (by decide) f rfl)
  obtain ⟨g, rfl⟩ := cell_u8 Tryz.underlying5 (row_cell hrow hts rfl 6 (by decide) g rfl)
  obtain ⟨i, rfl⟩ := cell_u8 Tryz.underlying5 (row_cell hrow hts rfl 7 (by decide) i rfl)
  exact ⟨fun j => [a, b, c, d, e, f, g, i].getD j 0, rfl⟩

set_option maxRecDepth 20000 in
theorem open_mac {w : World} {r : Reach} {base : Nat} {v : Value} (h : Value.okWide Tryz.prog w r base 202 v) : ∃ a b c d e f : UInt8, v = .agg #[.int .u8 (a.toNat : Int), .int .u8 (b.toNat : Int), .int .u8 (c.toNat : Int), .int .u8 (d.toNat : Int), .int .u8 (e.toNat : Int), .int .u8 (f.toNat : Int)] := by
  obtain ⟨cs, rfl, hsz, hrow⟩ := okWide_array Tryz.underlying202 h
  have hts : Tryz.prog.cellTypes Tryz.prog.depth 202 = some [5, 5, 5, 5, 5, 5] := by kernel_rfl
  have hs6 : cs.size = 6 := hsz.trans (by kernel_rfl)
  obtain ⟨a, b, c, d, e, f, rfl⟩ := arr6 hs6
  obtain ⟨a, rfl⟩ := cell_u8 Tryz.underlying5 (row_cell hrow hts rfl 0 (by decide) a rfl)
  obtain ⟨b, rfl⟩ := cell_u8 Tryz.underlying5 (row_cell hrow hts rfl 1 (by decide) b rfl)
  obtain ⟨c, rfl⟩ := cell_u8 Tryz.underlying5 (row_cell hrow hts rfl 2 (by decide) c rfl)
  obtain ⟨d, rfl⟩ := cell_u8 Tryz.underlying5 (row_cell hrow hts rfl 3 (by decide) d rfl)
  obtain ⟨e, rfl⟩ := cell_u8 Tryz.underlying5 (row_cell hrow hts rfl 4 (by decide) e rfl)
  obtain ⟨f, rfl⟩ := cell_u8 Tryz.underlying5 (row_cell hrow hts rfl 5 (by decide) f rfl)
  exact ⟨a, b, c, d, e, f, rfl⟩


theorem arr14 {cs : Array Value} (h : cs.size = 14) : ∃ a b c d e f g i j k l m n o, cs = #[a, b, c, d, e, f, g, i, j, k, l, m, n, o] := by
  obtain ⟨x⟩ := cs
  match x, h with
  | [a, b, c, d, e, f, g, i, j, k, l, m, n, o], _ => exact ⟨a, b, c, d, e, f, g, i, j, k, l, m, n, o, rfl⟩
theorem arr16 {cs : Array Value} (h : cs.size = 16) : ∃ a b c d e f g i j k l m n o p q, cs = #[a, b, c, d, e, f, g, i, j, k, l, m, n, o, p, q] := by
  obtain ⟨x⟩ := cs
  match x, h with
  | [a, b, c, d, e, f, g, i, j, k, l, m, n, o, p, q], _ => exact ⟨a, b, c, d, e, f, g, i, j, k, l, m, n, o, p, q, rfl⟩

end Go.Proofs.YthfckdnennfnoaaGreatDoor
