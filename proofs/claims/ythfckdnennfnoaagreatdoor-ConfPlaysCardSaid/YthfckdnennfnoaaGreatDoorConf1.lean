/- conf: next, bytes. By an AI agent. -/
import Derived.Test.YthfckdnennfnoaaGreatDoorConf0
import Derived.Test.YthfckdnennfnoaaGreatDoorSpan3
import Derived.Test.YthfckdnennfnoaaGreatDoorStrs
import Derived.Test.YthfckdnennfnoaaGreatDoorCell
import Derived.Deep.DeepCutAuto
import Derived.BigQuiet
namespace Go.Proofs.YthfckdnennfnoaaGreatDoor
open Go.RowKit Go.Sort Grow

theorem RowIs.only {bs : List Nat} {w w' : World} {n : Nat} {t : TypeId} {cs : Array Value} (h : RowIs w n t cs) (ho : Only bs w w') (hn : n ∉ bs) : RowIs w' n t cs := (ho.2 n h.lt hn).trans h


namespace Cf
/-- p holds what is left of some parts, behind the first k -/
def PAt (w : World) (R sb : Nat) (ps : List ByteArray) (k : Nat) : Prop :=
  R ≠ sb ∧ k ≤ ps.length ∧ ps.length < 10000 ∧ RowIs w sb 9 (Strs.all ps).toArray ∧ ∃ off, (k < ps.length → off = k) ∧ RowIs w R 104 #[.slice (some ⟨sb, off, none⟩) (ps.length - k) (ps.length - k)]
theorem PAt.kept {w w' : World} {R sb : Nat} {ps : List ByteArray} {k : Nat} (h : PAt w R sb ps k) (hb : Below w.heap.size w w') : PAt w' R sb ps k :=
  let ⟨h1, h2, h3, h4, off, h5, h6⟩ := h; ⟨h1, h2, h3, h4.kept hb, off, h5, h6.kept hb⟩
theorem PAt.only {w w' : World} {R sb : Nat} {ps : List ByteArray} {k : Nat} {bs : List Nat} (h : PAt w R sb ps k) (ho : Only bs w w') (h1 : R ∉ bs) (h2 : sb ∉ bs) : PAt w' R sb ps k :=
  let ⟨g1, g2, g3, g4, off, g5, g6⟩ := h; ⟨g1, g2, g3, g4.only ho h2, off, g5, g6.only ho h1⟩
theorem PAt.below {w w' : World} {R sb B : Nat} {ps : List ByteArray} {k : Nat} (h : PAt w R sb ps k) (hb : Below B w w') (h1 : R < B) (h2 : sb < B) : PAt w' R sb ps k :=
  let ⟨g1, g2, g3, g4, off, g5, g6⟩ := h; ⟨g1, g2, g3, g4.below hb h2, off, g5, g6.below hb h1⟩
end Cf

set_option maxHeartbeats 1000000 in
theorem next_ok (B R sb : Nat) (ps : List ByteArray) (k : Nat) (w : World) (h : Cf.PAt w R sb ps k) (hk : k < ps.length) (hB : B ≤ R) :
    Calls Tryz.prog 58 #[.pointer (some ⟨R, 0, none⟩)] w fun e w' => e = .returned (.string (ps.getD k ⟨#[]⟩)) ∧ Cf.PAt w' R sb ps (k + 1) ∧ Only [R] w w' ∧ Below B w w' := by
  obtain ⟨hne, hle, hbd, hS, off, hoff, hR⟩ := h
  obtain rfl := hoff hk
  have c0 : w.cell? ⟨R, 0, none⟩ = some (.slice (some ⟨sb, off, none⟩) (ps.length - off) (ps.length - off)) := hR.cell 0
  have c1 : w.cell? ⟨sb, off, none⟩ = some (.string (ps.getD off ⟨#[]⟩)) := by
    rw [hS.cell off]
    simp only [Strs.all, List.getElem?_toArray, List.getElem?_map, List.getElem?_eq_getElem hk, Option.map_some, List.getD_eq_getElem?_getD, Option.getD_some]
  generalize ps.getD off ⟨#[]⟩ = x at *
  have HS := Lib.hid hS
  have HR := Lib.hid hR
  clear hS hR
  obtain ⟨m, hm⟩ : ∃ m, m = ps.length - off := ⟨_, rfl⟩
  have hm1 : 1 ≤ m := by omega
  rw [← hm] at c0 HR
  have HM := Lib.hid hm
  clear hm
  have dm : decide (0 < m) = true := decide_eq_true (by omega)
  by_cases hm0 : m = 1
  · subst hm0
    clear dm
    go_enter Tryz.func58, Tryz.ntmps58
    go_wp2_with fail
    refine (must_ok _).mono ?_
    rintro e w' ⟨rfl, rfl⟩
    go_wp2_with ((with_reducible refine at_store 104 (.tmp 20) (.tmp 19) ?_); refine wpList_store_cell rfl 104 (.tmp 20) (.tmp 19) rfl R 0 _ rfl rfl 104 _ HR.out (by simp) (by kernel_rfl) rfl B hB ?_)
    intro w1 hR1 hO hsz hb
    have HR1 := Lib.hid hR1
    have HO := Lib.hid ((Only.refl [R] w).store (List.mem_singleton.2 rfl) hO hsz)
    have HB := Lib.hid hb
    have HS1 := Lib.hid (HS.out.only HO.out (by simpa using fun e => hne e.symm))
    clear hR1 hO hb c0 c1
    go_wp2_with fail
    go_ret
    refine ⟨rfl, ⟨hne, by omega, hbd, HS1.out, ?_⟩, HO.out, HB.out⟩
    have hq := HR1.out
    have e : ps.length - (off + 1) = 0 := by have := HM.out; omega
    rw [e]
    exact ⟨off, fun h => by have := HM.out; omega, hq⟩
  · have d2 : (m = 1) = False := eq_false hm0
    go_enter Tryz.func58, Tryz.ntmps58
    go_wp2_with fail
    refine (must_ok _).mono ?_
    rintro e w' ⟨rfl, rfl⟩
    go_wp2_with ((with_reducible refine at_store 104 (.tmp 20) (.tmp 19) ?_); refine wpList_store_cell rfl 104 (.tmp 20) (.tmp 19) rfl R 0 _ rfl rfl 104 _ HR.out (by simp) (by kernel_rfl) rfl B hB ?_)
    intro w1 hR1 hO hsz hb
    have HR1 := Lib.hid hR1
    have HO := Lib.hid ((Only.refl [R] w).store (List.mem_singleton.2 rfl) hO hsz)
    have HB := Lib.hid hb
    have HS1 := Lib.hid (HS.out.only HO.out (by simpa using fun e => hne e.symm))
    clear hR1 hO hb c0 c1
    go_wp2_with fail
    go_ret
    refine ⟨rfl, ⟨hne, by omega, hbd, HS1.out, ?_⟩, HO.out, HB.out⟩
    have hq := HR1.out
    have e : ps.length - (off + 1) = m - 1 := by have := HM.out; omega
    rw [e]
    exact ⟨off + 1, fun _ => rfl, hq⟩

set_option maxHeartbeats 1000000 in
theorem next_no (R sb : Nat) (ps : List ByteArray) (w : World) (h : Cf.PAt w R sb ps ps.length) :
    Calls Tryz.prog 58 #[.pointer (some ⟨R, 0, none⟩)] w fun e w' => e = .panicked Cf.ch ∧ w = w' := by
  obtain ⟨hne, hle, hbd, hS, off, hoff, hR⟩ := h
  have c0 : w.cell? ⟨R, 0, none⟩ = some (.slice (some ⟨sb, off, none⟩) 0 0) := by
    rw [Nat.sub_self] at hR
    exact hR.cell 0
  clear hS hR hoff
  go_enter Tryz.func58, Tryz.ntmps58
  go_wp2_with fail
  refine (must_not _).mono ?_
  rintro e w' ⟨rfl, rfl⟩
  exact ⟨rfl, rfl, rfl⟩
end Go.Proofs.YthfckdnennfnoaaGreatDoor
