/- Slices of ints that are only read; slices.Index and Contains over them. By an AI agent. -/
import Derived.Test.YtnglpoognlegfaaRow
namespace Go.Proofs.Ytnglpoognlegfaa
open Go.RowKit

/-- the slice at ao holds the numbers zs -/
def IntsAt (w : World) (ao : Option Addr) (zs : List Int) : Prop :=
  zs = [] ∨ ∃ b off, ao = some ⟨b, off, none⟩ ∧ ∀ i, i < zs.length → w.cell? ⟨b, off + i, none⟩ = some (.int .i64 (zs.getD i 0))

theorem IntsAt.kept {w w' : World} {ao : Option Addr} {zs : List Int} (h : IntsAt w ao zs) {B : Nat} (hB : ∀ b off, ao = some ⟨b, off, none⟩ → 0 < zs.length → b < B) (hb : Below B w w') : IntsAt w' ao zs := by
  rcases h with h | ⟨b, off, rfl, h⟩
  · exact Or.inl h
  · cases zs with
    | nil => exact Or.inl rfl
    | cons z zs =>
      refine Or.inr ⟨b, off, rfl, fun i hi => ?_⟩
      rw [hb.cell (p := ⟨b, off + i, none⟩) (hB b off rfl (by simp))]
      exact h i hi

theorem IntsAt.lt {w : World} {ao : Option Addr} {zs : List Int} (h : IntsAt w ao zs) (b off : Nat) (ha : ao = some ⟨b, off, none⟩) (hz : 0 < zs.length) : b < w.heap.size := by
  rcases h with rfl | ⟨b', off', ha', h⟩
  · simp at hz
  · rw [ha] at ha'
    simp only [Option.some.injEq, Addr.mk.injEq, and_true] at ha'
    obtain ⟨rfl, rfl⟩ := ha'
    exact block_lt_of_cell (h 0 hz)

theorem IntsAt.after {w w' : World} {ao : Option Addr} {zs : List Int} (h : IntsAt w ao zs) (hb : Below w.heap.size w w') : IntsAt w' ao zs := h.kept h.lt hb

/-- the place of a number says whether it is there -/
def IsPlace (zs : List Int) (x : Int) (w : World) (e : Ending) (w' : World) : Prop := ∃ r : Int, e = .returned (.int .i64 r) ∧ -1 ≤ r ∧ r ≤ 1000000 ∧ (0 ≤ r ↔ x ∈ zs) ∧ w = w'

set_option maxHeartbeats 400000 in
theorem index_any (ao : Option Addr) (zs : List Int) (cap : Nat) (x : Int) (w : World) (h : IntsAt w ao zs) (hz : zs.length ≤ 1000000) :
    Calls Try.prog 24 #[.slice ao zs.length cap, .int .i64 x] w (IsPlace zs x w) := by
  rcases h with rfl | ⟨b, off, rfl, hc⟩
  · go_enter Try.func24, Try.ntmps24
    go_wp2
    refine wp_loop_rounds 1 ?_
    rw [rounds_succ]
    go_wp2
    go_ret
    exact ⟨-1, rfl, by omega, by omega, by simp, rfl⟩
  · have HC := Lib.hid hc
    clear hc
    go_enter Try.func24, Try.ntmps24
    go_wp2
    go_loop [8] (fun i => ∃ k : Nat, k ≤ zs.length ∧ i = .int .i64 k ∧ Hid (x ∉ zs.take k)) (fun i => zs.length - (intOf i).toNat)
    case atStart => exact ⟨0, Nat.zero_le _, rfl, by show _ ∉ _; simp⟩
    case round =>
      obtain ⟨k, hk, rfl, hnot⟩ := hrel
      by_cases hlt : k < zs.length
      · have hcell := HC.out k hlt
        have htk : zs.take (k + 1) = zs.take k ++ [zs.getD k 0] := by rw [List.take_succ_eq_append_getElem hlt, List.getD, List.getElem?_eq_getElem hlt]; rfl
        have hmem : zs.getD k 0 ∈ zs := by rw [List.getD, List.getElem?_eq_getElem hlt]; exact List.getElem_mem hlt
        generalize zs.getD k 0 = v at hcell htk hmem
        have HTK := Lib.hid htk
        have HM := Lib.hid hmem
        clear htk hmem
        cases hq : (x == v)
        · go_wp2
          refine ⟨⟨k + 1, by omega, by go_num, ?_⟩, by simp [intOf]; omega⟩
          show _ ∉ _
          rw [HTK.out, List.mem_append, not_or]
          exact ⟨hnot.out, by simpa using hq⟩
        · go_wp2
          go_ret
          have hxv : x = v := by simpa using hq
          exact ⟨k, rfl, by omega, by omega, by rw [hxv]; exact ⟨fun _ => HM.out, fun _ => by omega⟩, rfl⟩
      · go_wp2
        go_ret
        have hall : zs.take k = zs := List.take_of_length_le (by omega)
        have hno := hnot.out
        rw [hall] at hno
        exact ⟨-1, rfl, by omega, by omega, ⟨fun h => by omega, fun h => absurd h hno⟩, rfl⟩

theorem contains_any (ao : Option Addr) (zs : List Int) (cap : Nat) (x : Int) (w : World) (h : IntsAt w ao zs) (hz : zs.length ≤ 1000000) :
    Calls Try.prog 20 #[.slice ao zs.length cap, .int .i64 x] w fun e w' => e = .returned (.bool (decide (x ∈ zs))) ∧ w = w' := by
  have HI := Lib.hid (index_any ao zs cap x w h hz)
  clear h
  go_enter Try.func20, Try.ntmps20
  go_wp2_with fail
  refine HI.out.mono ?_
  rintro e w' ⟨r, rfl, h1, h2, h3, rfl⟩
  have H3 := Lib.hid h3
  clear h3
  go_wp2_with fail
  go_ret
  refine ⟨ret_bool (a := decide (0 ≤ r)) ?_, rfl⟩
  rw [Bool.eq_iff_iff, decide_eq_true_eq, decide_eq_true_eq]
  exact H3.out
end Go.Proofs.Ytnglpoognlegfaa
