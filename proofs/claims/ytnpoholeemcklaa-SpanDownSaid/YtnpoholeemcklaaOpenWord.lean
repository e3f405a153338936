/- A word as an argument: its cells. By an AI agent. -/
import Derived.Test.YtnpoholeemcklaaOpen
namespace Go.Proofs.Ytnpoholeemcklaa
open Go.ChangeShapes Go.WideShapes Go.ChangeAt Go.RowKit

theorem arr24 {cs : Array Value} (h : cs.size = 24) : ∃ a0 a1 a2 a3 a4 a5 a6 a7 a8 a9 a10 a11 a12 a13 a14 a15 a16 a17 a18 a19 a20 a21 a22 a23, cs = #[a0, a1, a2, a3, a4, a5, a6, a7, a8, a9, a10, a11, a12, a13, a14, a15, a16, a17, a18, a19, a20, a21, a22, a23] := by
  obtain ⟨x⟩ := cs
  match x, h with
  | [a0, a1, a2, a3, a4, a5, a6, a7, a8, a9, a10, a11, a12, a13, a14, a15, a16, a17, a18, a19, a20, a21, a22, a23], _ => exact ⟨a0, a1, a2, a3, a4, a5, a6, a7, a8, a9, a10, a11, a12, a13, a14, a15, a16, a17, a18, a19, a20, a21, a22, a23, rfl⟩

set_option maxRecDepth 20000 in
theorem open_rword {w : World} {r : Reach} {base : Nat} {v : Value} (h : Value.okWide Try.prog w r base 48 v) :
    ∃ (r b : Nat → UInt8) (co po ag ma he de : Int) (ch ak : Bool), v = .agg #[.int .u8 ((r 0).toNat : Int), .int .u8 ((r 1).toNat : Int), .int .u8 ((r 2).toNat : Int), .int .u8 ((r 3).toNat : Int), .int .u8 ((r 4).toNat : Int), .int .u8 ((r 5).toNat : Int), .int .u8 ((r 6).toNat : Int), .int .u8 ((r 7).toNat : Int), .int .u8 ((b 0).toNat : Int), .int .u8 ((b 1).toNat : Int), .int .u8 ((b 2).toNat : Int), .int .u8 ((b 3).toNat : Int), .int .u8 ((b 4).toNat : Int), .int .u8 ((b 5).toNat : Int), .int .u8 ((b 6).toNat : Int), .int .u8 ((b 7).toNat : Int), .int .i64 co, .int .i64 po, .int .i64 ag, .int .i64 ma, .int .i64 he, .int .i64 de, .bool ch, .bool ak] := by
  obtain ⟨cs, rfl, hsz, hrow⟩ := okWide_structRow Try.underlying48 h
  have hts : Try.prog.cellTypes Try.prog.depth 48 = some [5, 5, 5, 5, 5, 5, 5, 5, 5, 5, 5, 5, 5, 5, 5, 5, 3, 3, 3, 3, 3, 3, 4, 4] := by kernel_rfl
  have hs : cs.size = 24 := hsz.trans (by kernel_rfl)
  obtain ⟨a0, a1, a2, a3, a4, a5, a6, a7, a8, a9, a10, a11, a12, a13, a14, a15, a16, a17, a18, a19, a20, a21, a22, a23, rfl⟩ := arr24 hs
  obtain ⟨a0, rfl⟩ := cell_u8 Try.underlying5 (row_cell hrow hts rfl 0 (by decide) a0 rfl)
  obtain ⟨a1, rfl⟩ := cell_u8 Try.underlying5 (row_cell hrow hts rfl 1 (by decide) a1 rfl)
  obtain ⟨a2, rfl⟩ := cell_u8 Try.underlying5 (row_cell hrow hts rfl 2 (by decide) a2 rfl)
  obtain ⟨a3, rfl⟩ := cell_u8 Try.underlying5 (row_cell hrow hts rfl 3 (by decide) a3 rfl)
  obtain ⟨a4, rfl⟩ := cell_u8 Try.underlying5 (row_cell hrow hts rfl 4 (by decide) a4 rfl)
  obtain ⟨a5, rfl⟩ := cell_u8 Try.underlying5 (row_cell hrow hts rfl 5 (by decide) a5 rfl)
  obtain ⟨a6, rfl⟩ := cell_u8 Try.underlying5 (row_cell hrow hts rfl 6 (by decide) a6 rfl)
  obtain ⟨a7, rfl⟩ := cell_u8 Try.underlying5 (row_cell hrow hts rfl 7 (by decide) a7 rfl)
  obtain ⟨a8, rfl⟩ := cell_u8 Try.underlying5 (row_cell hrow hts rfl 8 (by decide) a8 rfl)
  obtain ⟨a9, rfl⟩ := cell_u8 Try.underlying5 (row_cell hrow hts rfl 9 (by decide) a9 rfl)
  obtain ⟨a10, rfl⟩ := cell_u8 Try.underlying5 (row_cell hrow hts rfl 10 (by decide) a10 rfl)
  obtain ⟨a11, rfl⟩ := cell_u8 Try.underlying5 (row_cell hrow hts rfl 11 (by decide) a11 rfl)
  obtain ⟨a12, rfl⟩ := cell_u8 Try.underlying5 (row_cell hrow hts rfl 12 (by decide) a12 rfl)
  obtain ⟨a13, rfl⟩ := cell_u8 Try.underlying5 (row_cell hrow hts rfl 13 (by decide) a13 rfl)
  obtain ⟨a14, rfl⟩ := cell_u8 Try.underlying5 (row_cell hrow hts rfl 14 (by decide) a14 rfl)
  obtain ⟨a15, rfl⟩ := cell_u8 Try.underlying5 (row_cell hrow hts rfl 15 (by decide) a15 rfl)
  obtain ⟨a16, rfl, _⟩ := cell_int Try.underlying3 (row_cell hrow hts rfl 16 (by decide) a16 rfl)
  obtain ⟨a17, rfl, _⟩ := cell_int Try.underlying3 (row_cell hrow hts rfl 17 (by decide) a17 rfl)
  obtain ⟨a18, rfl, _⟩ := cell_int Try.underlying3 (row_cell hrow hts rfl 18 (by decide) a18 rfl)
  obtain ⟨a19, rfl, _⟩ := cell_int Try.underlying3 (row_cell hrow hts rfl 19 (by decide) a19 rfl)
  obtain ⟨a20, rfl, _⟩ := cell_int Try.underlying3 (row_cell hrow hts rfl 20 (by decide) a20 rfl)
  obtain ⟨a21, rfl, _⟩ := cell_int Try.underlying3 (row_cell hrow hts rfl 21 (by decide) a21 rfl)
  obtain ⟨a22, rfl⟩ := cell_bool Try.underlying4 (row_cell hrow hts rfl 22 (by decide) a22 rfl)
  obtain ⟨a23, rfl⟩ := cell_bool Try.underlying4 (row_cell hrow hts rfl 23 (by decide) a23 rfl)
  exact ⟨fun x => [a0, a1, a2, a3, a4, a5, a6, a7].getD x 0, fun x => [a8, a9, a10, a11, a12, a13, a14, a15].getD x 0, a16, a17, a18, a19, a20, a21, a22, a23, rfl⟩
end Go.Proofs.Ytnpoholeemcklaa
