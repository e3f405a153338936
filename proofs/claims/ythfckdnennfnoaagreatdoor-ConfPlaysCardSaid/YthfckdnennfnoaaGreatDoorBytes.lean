/- Slices of bytes that a call makes: appended to one by one, turned into a string. Of no function. By an AI agent. -/
import Derived.Test.YthfckdnennfnoaaGreatDoorChecked
import Derived.WalkKit
import Derived.WalkLawsBesides
import Derived.Lib.Hide
namespace Go.Proofs.YthfckdnennfnoaaGreatDoor
open Go.RowKit

theorem ret_int {k : IntKind} {a b : Int} (h : a = b) : Ending.returned (.int k a) = .returned (.int k b) := by rw [h]
theorem ret_bool {a b : Bool} (h : a = b) : Ending.returned (.bool a) = .returned (.bool b) := by rw [h]

theorem bcell {W w1 : World} (hb : Below W.heap.size W w1) : (∀ b o, b < W.heap.size → w1.cell? ⟨b, o, none⟩ = W.cell? ⟨b, o, none⟩) ∧ (∀ b o, b < W.heap.size → w1.frozen? ⟨b, o, none⟩ = W.frozen? ⟨b, o, none⟩) :=
  ⟨fun b o h => hb.cell (p := ⟨b, o, none⟩) h, fun b o h => hb.frozen (p := ⟨b, o, none⟩) h⟩

theorem cell_of_below {W w : World} {a : Addr} {v : Value} (hb : Below W.heap.size W w) (hc : W.cell? a = some v) : w.cell? a = some v := by
  rw [hb.cell (block_lt_of_cell hc)]; exact hc

/-- bytes, as cells hold them -/
def byteVals (l : List UInt8) : List Value := l.map fun b => .int .u8 (b.toNat : Int)

theorem byteVals_length (l : List UInt8) : (byteVals l).length = l.length := by simp [byteVals]
theorem byteVals_append (l r : List UInt8) : byteVals (l ++ r) = byteVals l ++ byteVals r := by simp [byteVals]
theorem byteVals_one (b : UInt8) : byteVals [b] = [.int .u8 (b.toNat : Int)] := rfl

theorem Tryz.infoU8 : (Tryz.prog.info? 5).map (fun i => (i.zero, i.size, i.bytes)) = some (some (.int .u8 0), 1, 1) := by kernel_rfl

theorem below_of_grown {w w' : World} {B : Nat} {r : Option Nat} (h : w.grownBy w' r) (hB : B ≤ w.heap.size) (hr : ∀ k, r = some k → B ≤ k) : Below B w w' :=
  ⟨h.os, h.tape, h.output, h.size, fun k hk => h.block k (by omega) (fun e => by have := hr k e.symm; omega)⟩

theorem grown_of_alloc {w w' : World} {o : Obj} {r : Option Nat} (h : (w.alloc o).grownBy w' r) : w.grownBy w' r :=
  ⟨h.os, h.tape, h.output, by have := h.size; simp at this; omega, fun k hk hr => (h.block k (by simp; omega) hr).trans (Below.heap_alloc w o k hk)⟩

/-- v is a slice of the call's own that holds the bytes l -/
def OwnB (w : World) (B : Nat) (v : Value) (l : List UInt8) : Prop := w.ownsRow B 5 1 v l.length (byteVals l)

theorem OwnB.nil (w : World) (B : Nat) : OwnB w B (.slice none 0 0) [] := World.ownsRow_nil _ _ _ _

/-- string(b) of such a slice -/
theorem run_string_of_own {w : World} {B : Nat} {v : Value} {l : List UInt8} (h : OwnB w B v l) : (convert 64 9 v).run Tryz.prog w = .ok (.string ⟨l.toArray⟩) w := by
  rcases h.2 with ⟨rfl, h0⟩ | ⟨g, cap, cur, rfl, hb, hg, hn, hc, hs, ht⟩
  · have : l = [] := List.eq_nil_of_length_eq_zero h0
    subst this
    exact run_convert_bytes_nil w _ 5 Tryz.underlying64 Tryz.underlying5 0 0 _ Tryz.underlying9
  · refine run_convert_bytes_back w _ _ 5 ⟨g, 0, none⟩ cap l Tryz.underlying64 Tryz.underlying5 Tryz.underlying9 ?_
    intro j hj
    have := World.ownsRow.cellAt (h : w.ownsRow B 5 1 (.slice (some ⟨g, 0, none⟩) l.length cap) l.length (byteVals l)) j (by omega)
    rw [show (⟨g, 0, none⟩ : Addr).add j = ⟨g, j, none⟩ from by unfold Addr.add; split <;> simp_all]
    rw [this]
    simp [byteVals, hj]


/-- string([]byte{x}) -/
theorem run_string_one (w : World) (x : Int) : (convert 64 9 (.slice (some ⟨w.heap.size, 0, none⟩) 1 1)).run Tryz.prog (w.alloc (.cells #[.int .u8 x] 5)) =
    .ok (.string ⟨#[UInt8.ofNat x.toNat]⟩) (w.alloc (.cells #[.int .u8 x] 5)) := by
  have h := run_convert_bytes_arg (w.alloc (.cells #[.int .u8 x] 5)) _ 5 Tryz.underlying64 Tryz.underlying5 w.heap.size 0 1 1 [x] rfl
    (fun i hi => by obtain rfl : i = 0 := by omega
                    simp) _ Tryz.underlying9
  rw [h]
  simp [strOfNums]

/-- string([]byte{x, y}) -/
theorem run_string_two (w : World) (x y : Int) : (convert 64 9 (.slice (some ⟨w.heap.size, 0, none⟩) 2 2)).run Tryz.prog (w.alloc (.cells #[.int .u8 x, .int .u8 y] 5)) =
    .ok (.string ⟨#[UInt8.ofNat x.toNat, UInt8.ofNat y.toNat]⟩) (w.alloc (.cells #[.int .u8 x, .int .u8 y] 5)) := by
  have h := run_convert_bytes_arg (w.alloc (.cells #[.int .u8 x, .int .u8 y] 5)) _ 5 Tryz.underlying64 Tryz.underlying5 w.heap.size 0 2 2 [x, y] rfl
    (fun i hi => by rcases (show i = 0 ∨ i = 1 from by omega) with rfl | rfl <;> simp) _ Tryz.underlying9
  rw [h]
  simp [strOfNums]

theorem OwnB.ownBlock_ge {w : World} {B : Nat} {v : Value} {l : List UInt8} (h : OwnB w B v l) : ∀ k, v.ownBlock = some k → B ≤ k := by
  intro k hk
  rcases h.2 with ⟨rfl, _⟩ | ⟨g, cap, cur, rfl, hb, _⟩
  · simp [Value.ownBlock] at hk
  · simp [Value.ownBlock] at hk; omega

/-- b = append(b, x) of one byte, b the call's own -/
theorem wpList_append_byte {w : World} {ops : Array Oper} {rest : List Oper} {o : Oper} {a : Act} {Q : Exit → Act → World → Prop} {x0 : Int} (hgd : o.guard = none) (s x : Operand)
    (ho : o.op = .call { callee := .builtin .append, args := #[s, x], argTypes := #[64, 64] })
    (B : Nat) (v : Value) (l : List UInt8) (hs : a.eval s = v) (hown : OwnB w B v l) (hx : a.eval x = .slice (some ⟨w.heap.size, 0, none⟩) 1 1)
    (b : UInt8) (hb : x0 = (b.toNat : Int)) (hlen : l.length ≤ 100000000) (hB : B ≤ w.heap.size)
    (h : ∀ v' w', OwnB w' B v' (l ++ [b]) → Below B w w' → w.grownBy w' v.ownBlock → wpList Tryz.prog ops Q rest (a.put o.dst v') w') :
    wpList Tryz.prog ops Q (o :: rest) a (w.alloc (.cells #[.int .u8 x0] 5)) := by
  subst hb
  obtain ⟨i0, hi, hz0, hz1, hz2⟩ := info_parts Tryz.infoU8
  have hown' : (w.alloc (.cells #[.int .u8 (b.toNat : Int)] 5)).ownsRow B 5 1 v l.length (byteVals l) := World.ownsRow.alloc hown _
  refine wpList_append_own _ hgd s x 64 ho B 5 i0 (.int .u8 0) 1 1 Tryz.underlying64 hi hz0 hz1 hz2 rfl (by decide) v l.length (byteVals l) hs hown' ⟨w.heap.size, 0, none⟩ 1 1 [.int .u8 (b.toNat : Int)] hx rfl ?_ ?_ (by unfold maxLen; omega) (by omega) (by simp; omega) ?_
  · intro j u hj
    match j, hj with
    | 0, hj => simp at hj; subst hj; simp [Addr.add]
  · intro u hu; simp at hu; subst hu; rfl
  · intro v' w' h2 h3 _
    have hg := grown_of_alloc h3
    refine h v' w' ?_ (below_of_grown hg hB hown.ownBlock_ge) hg
    show w'.ownsRow B 5 1 v' (l ++ [b]).length (byteVals (l ++ [b]))
    rw [byteVals_append, byteVals_one, List.length_append]
    exact h2
end Go.Proofs.YthfckdnennfnoaaGreatDoor
