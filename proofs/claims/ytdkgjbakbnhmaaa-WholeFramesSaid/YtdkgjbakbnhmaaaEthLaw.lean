/- A frame's text: plain laws. By an AI agent. -/
import Derived.Test.YtdkgjbakbnhmaaaBeNum
namespace Go.Proofs.Ytdkgjbakbnhmaaa
namespace Eth
/-- can a frame be printed? -/
def right (ty v pr : Int) (z : Nat) : Prop := (ty = 0 ∨ 1536 ≤ ty ∧ ty ≤ 65535 ∧ ty ≠ 33024) ∧ (v = -1 ∧ pr = 0 ∨ 0 ≤ v ∧ v ≤ 4094 ∧ 0 ≤ pr ∧ pr ≤ 7) ∧ z ≤ 1500
def ba (l : List UInt8) : ByteArray := ⟨l.toArray⟩
theorem ba_size (l : List UInt8) : (ba l).size = l.length := by simp [ba, ByteArray.size]
theorem ba_list (l : List UInt8) : (ba l).data.toList = l := by simp [ba]
/-- the tag of a frame, if it has one -/
def mark (v pr : Int) : List UInt8 := if v = -1 then [] else [129, 0] ++ Oct.be 2 (8192 * pr + v).toNat
def kind (ty : Int) (z : Nat) : Nat := if ty = 0 then z else ty.toNat
def text (d s : List UInt8) (ty v pr : Int) (b : ByteArray) : ByteArray := ba d ++ (ba s ++ (ba (mark v pr) ++ (ba (Oct.be 2 (kind ty b.size)) ++ b)))
theorem mark_len (v pr : Int) : (mark v pr).length ≤ 4 := by
  unfold mark
  split
  · simp
  · simp [Oct.be_length]
theorem text_size {d s : List UInt8} (hd : d.length = 6) (hs : s.length = 6) (ty v pr : Int) (b : ByteArray) : 14 ≤ (text d s ty v pr b).size ∧ (text d s ty v pr b).size ≤ 18 + b.size ∧ (v = -1 → (text d s ty v pr b).size = 14 + b.size) := by
  have h := mark_len v pr
  unfold text
  simp only [ByteArray.size_append, ba_size, hd, hs, Oct.be_length]
  refine ⟨by omega, by omega, fun e => ?_⟩
  unfold mark
  rw [if_pos e]
  simp
  omega
theorem cut_front (x r : ByteArray) : (x ++ r).extract 0 x.size = x ∧ (x ++ r).extract x.size (x ++ r).size = r := by
  constructor
  · apply ByteArray.ext
    apply Array.toList_inj.1
    rw [Oct.ext_toList, ByteArray.data_append, Array.toList_append, List.drop_zero, Nat.sub_zero]
    have : x.data.toList.length = x.size := by simp
    rw [← this, List.take_left]
  · apply ByteArray.ext
    apply Array.toList_inj.1
    rw [Oct.ext_toList, ByteArray.data_append, Array.toList_append, ByteArray.size_append]
    have h1 : x.data.toList.length = x.size := by simp
    have h2 : r.data.toList.length = r.size := by simp
    rw [← h1, List.drop_left, h1]
    exact List.take_of_length_le (by omega)
end Eth
end Go.Proofs.Ytdkgjbakbnhmaaa
