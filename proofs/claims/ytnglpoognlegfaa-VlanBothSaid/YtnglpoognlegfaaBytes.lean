/- Slices of bytes that a call makes: appended to one by one, turned into a string. Of no function. By an AI agent. -/
import Derived.Test.YtnglpoognlegfaaChecked
import Derived.WalkKit
import Derived.WalkLawsBesides
import Derived.Lib.Hide
namespace Go.Proofs.Ytnglpoognlegfaa
open Go.RowKit

theorem ret_int {k : IntKind} {a b : Int} (h : a = b) : Ending.returned (.int k a) = .returned (.int k b) := by rw [h]
theorem ret_bool {a b : Bool} (h : a = b) : Ending.returned (.bool a) = .returned (.bool b) := by rw [h]

theorem bcell {W w1 : World} (hb : Below W.heap.size W w1) : (∀ b o, b < W.heap.size → w1.cell? ⟨b, o, none⟩ = W.cell? ⟨b, o, none⟩) ∧ (∀ b o, b < W.heap.size → w1.frozen? ⟨b, o, none⟩ = W.frozen? ⟨b, o, none⟩) :=
  ⟨fun b o h => hb.cell (p := ⟨b, o, none⟩) h, fun b o h => hb.frozen (p := ⟨b, o, none⟩) h⟩

theorem cell_of_below {W w : World} {a : Addr} {v : Value} (hb : Below W.heap.size W w) (hc : W.cell? a = some v) : w.cell? a = some v := by
  rw [hb.cell (block_lt_of_cell hc)]; exact hc

/-- bytes, as cells hold them -/
def byteVals (l : List UInt8) : List Value := l.map fun b => .int .u8 (b.toNat : Int)

theorem byteVals_length (l : List UInt8) : (byteVals l).length = l.length := by simp [byteVals]
theorem byteVals_append (l r : List UInt8) : byteVals (l ++ r) = byteVals l ++ byteVals r := by simp [byteVals]
theorem byteVals_one (b : UInt8) : byteVals [b] = [.int .u8 (b.toNat : Int)] := rfl

theorem Try.infoU8 : (Try.prog.info? 5).map (fun i => (i.zero, i.size, i.bytes)) = some (some (.int .u8 0), 1, 1) := by kernel_rfl

theorem below_of_grown {w w' : World} {B : Nat} {r : Option Nat} (h : w.grownBy w' r) (hB : B ≤ w.heap.size) (hr : ∀ k, r = some k → B ≤ k) : Below B w w' :=
  ⟨h.os, h.tape, h.output, h.size, fun k hk => h.block k (by omega) (fun e => by have := hr k e.symm; omega)⟩

theorem grown_of_alloc {w w' : World} {o : Obj} {r : Option Nat} (h : (w.alloc o).grownBy w' r) : w.grownBy w' r :=
  ⟨h.os, h.tape, h.output, by have := h.size; simp at this; omega, fun k hk hr => (h.block k (by simp; omega) hr).trans (Below.heap_alloc w o k hk)⟩

end Go.Proofs.Ytnglpoognlegfaa
