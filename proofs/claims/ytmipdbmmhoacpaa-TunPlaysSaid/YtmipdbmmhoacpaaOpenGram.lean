/- A datagram as an argument: its cells. By an AI agent. -/
import Derived.Test.YtmipdbmmhoacpaaOpen
namespace Go.Proofs.Ytmipdbmmhoacpaa
open Go.ChangeShapes Go.WideShapes Go.ChangeAt Go.RowKit

theorem open_rgram {w : World} {r : Reach} {base : Nat} {v : Value} (h : Value.okWide Try.prog w r base 24 v) :
    ∃ (k n : Int) (b : ByteArray), v = .agg #[.int .i64 k, .int .u64 n, .string b] ∧ (-9223372036854775808 ≤ k ∧ k ≤ 9223372036854775807) ∧ (0 ≤ n ∧ n ≤ 18446744073709551615) := by
  obtain ⟨cs, rfl, hsz, hrow⟩ := okWide_structRow Try.underlying24 h
  have hts : Try.prog.cellTypes Try.prog.depth 24 = some [3, 22, 9] := by kernel_rfl
  have hs : cs.size = 3 := hsz.trans (by kernel_rfl)
  obtain ⟨a0, a1, a2, rfl⟩ : ∃ a0 a1 a2, cs = #[a0, a1, a2] := by
    obtain ⟨x⟩ := cs
    match x, hs with
    | [a0, a1, a2], _ => exact ⟨a0, a1, a2, rfl⟩
  obtain ⟨k, rfl, wk⟩ := cell_int Try.underlying3 (row_cell hrow hts rfl 0 (by decide) a0 rfl)
  obtain ⟨n, rfl, wn⟩ := cell_int Try.underlying22 (row_cell hrow hts rfl 1 (by decide) a1 rfl)
  obtain ⟨b, rfl⟩ := cell_string Try.underlying9 (row_cell hrow hts rfl 2 (by decide) a2 rfl)
  exact ⟨k, n, b, rfl, ⟨wk.1, wk.2⟩, ⟨wn.1, wn.2⟩⟩
end Go.Proofs.Ytmipdbmmhoacpaa
