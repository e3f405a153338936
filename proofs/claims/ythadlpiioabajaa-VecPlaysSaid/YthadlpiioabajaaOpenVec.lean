/- A vector as an argument: its cells. By an AI agent. -/
import Derived.Test.YthadlpiioabajaaOpen
namespace Go.Proofs.Ythadlpiioabajaa
open Go.ChangeShapes Go.WideShapes Go.ChangeAt Go.RowKit

theorem arr18 {cs : Array Value} (h : cs.size = 18) : ∃ a0 a1 a2 a3 a4 a5 a6 a7 a8 a9 a10 a11 a12 a13 a14 a15 a16 a17, cs = #[a0, a1, a2, a3, a4, a5, a6, a7, a8, a9, a10, a11, a12, a13, a14, a15, a16, a17] := by
  obtain ⟨x⟩ := cs
  match x, h with
  | [a0, a1, a2, a3, a4, a5, a6, a7, a8, a9, a10, a11, a12, a13, a14, a15, a16, a17], _ => exact ⟨a0, a1, a2, a3, a4, a5, a6, a7, a8, a9, a10, a11, a12, a13, a14, a15, a16, a17, rfl⟩

theorem open_rvec {w : World} {r : Reach} {base : Nat} {v : Value} (h : Value.okWide Try.prog w r base 29 v) :
    ∃ (r b : Nat → UInt8) (c p : Int), v = .agg #[.int .u8 ((r 0).toNat : Int), .int .u8 ((r 1).toNat : Int), .int .u8 ((r 2).toNat : Int), .int .u8 ((r 3).toNat : Int), .int .u8 ((r 4).toNat : Int), .int .u8 ((r 5).toNat : Int), .int .u8 ((r 6).toNat : Int), .int .u8 ((r 7).toNat : Int), .int .i64 c, .int .u8 ((b 0).toNat : Int), .int .u8 ((b 1).toNat : Int), .int .u8 ((b 2).toNat : Int), .int .u8 ((b 3).toNat : Int), .int .u8 ((b 4).toNat : Int), .int .u8 ((b 5).toNat : Int), .int .u8 ((b 6).toNat : Int), .int .u8 ((b 7).toNat : Int), .int .i64 p] ∧ (-9223372036854775808 ≤ c ∧ c ≤ 9223372036854775807) ∧ (-9223372036854775808 ≤ p ∧ p ≤ 9223372036854775807) := by
  obtain ⟨cs, rfl, hsz, hrow⟩ := okWide_structRow Try.underlying29 h
  have hts : Try.prog.cellTypes Try.prog.depth 29 = some [5, 5, 5, 5, 5, 5, 5, 5, 3, 5, 5, 5, 5, 5, 5, 5, 5, 3] := by kernel_rfl
  have hs : cs.size = 18 := hsz.trans (by kernel_rfl)
  obtain ⟨a0, a1, a2, a3, a4, a5, a6, a7, a8, a9, a10, a11, a12, a13, a14, a15, a16, a17, rfl⟩ := arr18 hs
  obtain ⟨a0, rfl⟩ := cell_u8 Try.underlying5 (row_cell hrow hts rfl 0 (by decide) a0 rfl)
  obtain ⟨a1, rfl⟩ := cell_u8 Try.underlying5 (row_cell hrow hts rfl 1 (by decide) a1 rfl)
  obtain ⟨a2, rfl⟩ := cell_u8 Try.underlying5 (row_cell hrow hts rfl 2 (by decide) a2 rfl)
  obtain ⟨a3, rfl⟩ := cell_u8 Try.underlying5 (row_cell hrow hts rfl 3 (by decide) a3 rfl)
  obtain ⟨a4, rfl⟩ := cell_u8 Try.underlying5 (row_cell hrow hts rfl 4 (by decide) a4 rfl)
  obtain ⟨a5, rfl⟩ := cell_u8 Try.underlying5 (row_cell hrow hts rfl 5 (by decide) a5 rfl)
  obtain ⟨a6, rfl⟩ := cell_u8 Try.underlying5 (row_cell hrow hts rfl 6 (by decide) a6 rfl)
  obtain ⟨a7, rfl⟩ := cell_u8 Try.underlying5 (row_cell hrow hts rfl 7 (by decide) a7 rfl)
  obtain ⟨a8, rfl, wa8⟩ := cell_int Try.underlying3 (row_cell hrow hts rfl 8 (by decide) a8 rfl)
  obtain ⟨a9, rfl⟩ := cell_u8 Try.underlying5 (row_cell hrow hts rfl 9 (by decide) a9 rfl)
  obtain ⟨a10, rfl⟩ := cell_u8 Try.underlying5 (row_cell hrow hts rfl 10 (by decide) a10 rfl)
  obtain ⟨a11, rfl⟩ := cell_u8 Try.underlying5 (row_cell hrow hts rfl 11 (by decide) a11 rfl)
  obtain ⟨a12, rfl⟩ := cell_u8 Try.underlying5 (row_cell hrow hts rfl 12 (by decide) a12 rfl)
  obtain ⟨a13, rfl⟩ := cell_u8 Try.underlying5 (row_cell hrow hts rfl 13 (by decide) a13 rfl)
  obtain ⟨a14, rfl⟩ := cell_u8 Try.underlying5 (row_cell hrow hts rfl 14 (by decide) a14 rfl)
  obtain ⟨a15, rfl⟩ := cell_u8 Try.underlying5 (row_cell hrow hts rfl 15 (by decide) a15 rfl)
  obtain ⟨a16, rfl⟩ := cell_u8 Try.underlying5 (row_cell hrow hts rfl 16 (by decide) a16 rfl)
  obtain ⟨a17, rfl, wa17⟩ := cell_int Try.underlying3 (row_cell hrow hts rfl 17 (by decide) a17 rfl)
  refine ⟨fun x => [a0, a1, a2, a3, a4, a5, a6, a7].getD x 0, fun x => [a9, a10, a11, a12, a13, a14, a15, a16].getD x 0, a8, a17, rfl, ⟨wa8.1, wa8.2⟩, ⟨wa17.1, wa17.2⟩⟩
end Go.Proofs.Ythadlpiioabajaa
