/- span: found. By an AI agent. -/
import Derived.Test.YthfckdnennfnoaaGreatDoorSpanEq
import Derived.Deep.RegionHeld
namespace Go.Proofs.YthfckdnennfnoaaGreatDoor
open Go.RowKit Go.Sort Grow

/-- a port's role, and its state, found anew -/
def SS.ontoS (s : SS) (i : Nat) (on st0 : Bool) : SS := if (on && st0) = true then s.moved i 1 else if (!on && !st0) = true then s.moved i 0 else s
def SS.setRole (s : SS) (i : Nat) (r : Int) : SS := s.put i { s.port i with role := r }
def SS.onto (s : SS) (i : Nat) (r : Int) : SS := (s.ontoS i (r == 1 || r == 2) ((s.port i).state == 0)).setRole i r
def foundF (s : SS) (c : Bool) : Nat → SS × Bool
  | 0 => (s, c)
  | k + 1 => ((foundF s c k).1.onto k ((foundF s c k).1.role k), (foundF s c k).2 || ((foundF s c k).1.role k != ((foundF s c k).1.port k).role))
def SS.changed (s : SS) : Bool := !(decide (s.best = s.rooted.best)) || (s.root != s.rooted.root)
def SS.found (s : SS) : SS × Bool := foundF s.rooted s.changed s.ports.length

theorem SS.moved_chg (s : SS) (i : Nat) (st : Int) : s.chg ≤ (s.moved i st).chg ∧ (s.moved i st).chg ≤ s.chg + 1 := by
  unfold SS.moved SS.put
  simp only
  split <;> omega
theorem SS.ontoS_chg (s : SS) (i : Nat) (a b : Bool) : s.chg ≤ (s.ontoS i a b).chg ∧ (s.ontoS i a b).chg ≤ s.chg + 1 := by
  have h1 := s.moved_chg i 1
  have h2 := s.moved_chg i 0
  unfold SS.ontoS
  split
  · exact h1
  · split
    · exact h2
    · omega
theorem SS.onto_chg (s : SS) (i : Nat) (r : Int) : s.chg ≤ (s.onto i r).chg ∧ (s.onto i r).chg ≤ s.chg + 1 := s.ontoS_chg i _ _

set_option maxRecDepth 20000 in
set_option maxHeartbeats 8000000 in
theorem found_any (B S g cap : Nat) (pbs : List Nat) (w : World) (s : SS) (h : SpAt B S g cap pbs w s) (hp : pbs.length ≤ 1000) (hc : 0 ≤ s.chg ∧ s.chg ≤ 999990000) :
    Calls Tryz.prog 54 #[.pointer (some ⟨S, 0, none⟩)] w fun e w' => e = .returned (.bool s.found.2) ∧ SpAt B S g cap pbs w' s.found.1 ∧ Below B w w' ∧ Only (S :: pbs) w w' := by
  have HA := Lib.hid h
  have hlen : s.ports.length = pbs.length := h.len.symm
  have HBS := h.hB
  have hSw := h.row.lt
  have hBw : B ≤ w.heap.size := by omega
  have hrow := h.row
  obtain ⟨bv, hbv⟩ : ∃ bv : Value, bv = .agg s.best.cells := ⟨_, rfl⟩
  have RD : RowIs w.drew S 138 #[.int .u8 ((s.id.f 0).toNat : Int), .int .u8 ((s.id.f 1).toNat : Int), .int .u8 ((s.id.f 2).toNat : Int), .int .u8 ((s.id.f 3).toNat : Int), .int .u8 ((s.id.f 4).toNat : Int), .int .u8 ((s.id.f 5).toNat : Int), .int .u8 ((s.id.f 6).toNat : Int), .int .u8 ((s.id.f 7).toNat : Int), .int .i64 s.ma, .int .i64 s.he, .int .i64 s.de, .slice (some ⟨g, 0, none⟩) s.ports.length cap, .int .u8 ((s.best.r.f 0).toNat : Int), .int .u8 ((s.best.r.f 1).toNat : Int), .int .u8 ((s.best.r.f 2).toNat : Int), .int .u8 ((s.best.r.f 3).toNat : Int), .int .u8 ((s.best.r.f 4).toNat : Int), .int .u8 ((s.best.r.f 5).toNat : Int), .int .u8 ((s.best.r.f 6).toNat : Int), .int .u8 ((s.best.r.f 7).toNat : Int), .int .i64 s.best.c, .int .u8 ((s.best.b.f 0).toNat : Int), .int .u8 ((s.best.b.f 1).toNat : Int), .int .u8 ((s.best.b.f 2).toNat : Int), .int .u8 ((s.best.b.f 3).toNat : Int), .int .u8 ((s.best.b.f 4).toNat : Int), .int .u8 ((s.best.b.f 5).toNat : Int), .int .u8 ((s.best.b.f 6).toNat : Int), .int .u8 ((s.best.b.f 7).toNat : Int), .int .i64 s.best.p, .int .i64 s.root, .int .i64 s.now, .int .i64 s.chg] := hrow.kept (Below.refl _ _).drew
  have RDA : RowIs ((w.alloc (.cells #[.int .u8 0, .int .u8 0, .int .u8 0, .int .u8 0, .int .u8 0, .int .u8 0, .int .u8 0, .int .u8 0, .int .i64 0, .int .u8 0, .int .u8 0, .int .u8 0, .int .u8 0, .int .u8 0, .int .u8 0, .int .u8 0, .int .u8 0, .int .i64 0] 136)).drew) S 138 #[.int .u8 ((s.id.f 0).toNat : Int), .int .u8 ((s.id.f 1).toNat : Int), .int .u8 ((s.id.f 2).toNat : Int), .int .u8 ((s.id.f 3).toNat : Int), .int .u8 ((s.id.f 4).toNat : Int), .int .u8 ((s.id.f 5).toNat : Int), .int .u8 ((s.id.f 6).toNat : Int), .int .u8 ((s.id.f 7).toNat : Int), .int .i64 s.ma, .int .i64 s.he, .int .i64 s.de, .slice (some ⟨g, 0, none⟩) s.ports.length cap, .int .u8 ((s.best.r.f 0).toNat : Int), .int .u8 ((s.best.r.f 1).toNat : Int), .int .u8 ((s.best.r.f 2).toNat : Int), .int .u8 ((s.best.r.f 3).toNat : Int), .int .u8 ((s.best.r.f 4).toNat : Int), .int .u8 ((s.best.r.f 5).toNat : Int), .int .u8 ((s.best.r.f 6).toNat : Int), .int .u8 ((s.best.r.f 7).toNat : Int), .int .i64 s.best.c, .int .u8 ((s.best.b.f 0).toNat : Int), .int .u8 ((s.best.b.f 1).toNat : Int), .int .u8 ((s.best.b.f 2).toNat : Int), .int .u8 ((s.best.b.f 3).toNat : Int), .int .u8 ((s.best.b.f 4).toNat : Int), .int .u8 ((s.best.b.f 5).toNat : Int), .int .u8 ((s.best.b.f 6).toNat : Int), .int .u8 ((s.best.b.f 7).toNat : Int), .int .i64 s.best.p, .int .i64 s.root, .int .i64 s.now, .int .i64 s.chg] := (hrow.alloc _).drew
  have HBV := Lib.hid hbv
  have RD' := RD
  have hN : RowIs ((w.alloc (.cells #[.int .u8 0, .int .u8 0, .int .u8 0, .int .u8 0, .int .u8 0, .int .u8 0, .int .u8 0, .int .u8 0, .int .i64 0, .int .u8 0, .int .u8 0, .int .u8 0, .int .u8 0, .int .u8 0, .int .u8 0, .int .u8 0, .int .u8 0, .int .i64 0] 136)).drew) w.heap.size 136 #[.int .u8 0, .int .u8 0, .int .u8 0, .int .u8 0, .int .u8 0, .int .u8 0, .int .u8 0, .int .u8 0, .int .i64 0, .int .u8 0, .int .u8 0, .int .u8 0, .int .u8 0, .int .u8 0, .int .u8 0, .int .u8 0, .int .u8 0, .int .i64 0] := (rowIs_new w 136 #[.int .u8 0, .int .u8 0, .int .u8 0, .int .u8 0, .int .u8 0, .int .u8 0, .int .u8 0, .int .u8 0, .int .i64 0, .int .u8 0, .int .u8 0, .int .u8 0, .int .u8 0, .int .u8 0, .int .u8 0, .int .u8 0, .int .u8 0, .int .i64 0]).drew
  have hbN : Below w.heap.size w ((w.alloc (.cells #[.int .u8 0, .int .u8 0, .int .u8 0, .int .u8 0, .int .u8 0, .int .u8 0, .int .u8 0, .int .u8 0, .int .i64 0, .int .u8 0, .int .u8 0, .int .u8 0, .int .u8 0, .int .u8 0, .int .u8 0, .int .u8 0, .int .u8 0, .int .i64 0] 136)).drew) := ((Below.refl _ _).alloc (Nat.le_refl _) _).drew
  clear h hrow RDA hbv HBV
  go_enter Tryz.func54, Tryz.ntmps54
  go_upto_region 1 with fail
  refine wp_region_held (S := fun w' => RowIs w' S 138 #[.int .u8 ((s.id.f 0).toNat : Int), .int .u8 ((s.id.f 1).toNat : Int), .int .u8 ((s.id.f 2).toNat : Int), .int .u8 ((s.id.f 3).toNat : Int), .int .u8 ((s.id.f 4).toNat : Int), .int .u8 ((s.id.f 5).toNat : Int), .int .u8 ((s.id.f 6).toNat : Int), .int .u8 ((s.id.f 7).toNat : Int), .int .i64 s.ma, .int .i64 s.he, .int .i64 s.de, .slice (some ⟨g, 0, none⟩) s.ports.length cap, .int .u8 ((s.best.r.f 0).toNat : Int), .int .u8 ((s.best.r.f 1).toNat : Int), .int .u8 ((s.best.r.f 2).toNat : Int), .int .u8 ((s.best.r.f 3).toNat : Int), .int .u8 ((s.best.r.f 4).toNat : Int), .int .u8 ((s.best.r.f 5).toNat : Int), .int .u8 ((s.best.r.f 6).toNat : Int), .int .u8 ((s.best.r.f 7).toNat : Int), .int .i64 s.best.c, .int .u8 ((s.best.b.f 0).toNat : Int), .int .u8 ((s.best.b.f 1).toNat : Int), .int .u8 ((s.best.b.f 2).toNat : Int), .int .u8 ((s.best.b.f 3).toNat : Int), .int .u8 ((s.best.b.f 4).toNat : Int), .int .u8 ((s.best.b.f 5).toNat : Int), .int .u8 ((s.best.b.f 6).toNat : Int), .int .u8 ((s.best.b.f 7).toNat : Int), .int .i64 s.best.p, .int .i64 s.root, .int .i64 s.now, .int .i64 s.chg]) (by kernel_rfl) ?_
  change wpAnyH _ _ _ _ _ _ _ _ w.drew
  refine wpAnyH_take (i := 0) (v := .pointer (some ⟨S, 0, none⟩)) rfl (by kernel_rfl) (by kernel_rfl) (by kernel_rfl) (fun _ _ _ h => h) (Or.inl ⟨by rfl, fun w' hS' => by go_simp⟩) RD ?_
  (try simp only [Act.put, List.setIfInBounds_toArray, List.set_cons_zero, List.set_cons_succ])
  refine wpAnyH_take (i := 1) (v := .pointer (some ⟨S, 0, none⟩)) rfl (by kernel_rfl) (by kernel_rfl) (by kernel_rfl) (fun _ _ _ h => h) (Or.inl ⟨by rfl, fun w' hS' => by go_simp⟩) RD ?_
  (try simp only [Act.put, List.setIfInBounds_toArray, List.set_cons_zero, List.set_cons_succ])
  refine wpAnyH_take (i := 2) (v := .pointer (some ⟨S, 12, none⟩)) rfl (by kernel_rfl) (by kernel_rfl) (by kernel_rfl) (fun _ _ _ h => h) (Or.inl ⟨by rfl, fun w' hS' => by go_simp⟩) RD ?_
  (try simp only [Act.put, List.setIfInBounds_toArray, List.set_cons_zero, List.set_cons_succ])
  refine wpAnyH_take (i := 3) (v := .agg #[.int .u8 ((s.best.r.f 0).toNat : Int), .int .u8 ((s.best.r.f 1).toNat : Int), .int .u8 ((s.best.r.f 2).toNat : Int), .int .u8 ((s.best.r.f 3).toNat : Int), .int .u8 ((s.best.r.f 4).toNat : Int), .int .u8 ((s.best.r.f 5).toNat : Int), .int .u8 ((s.best.r.f 6).toNat : Int), .int .u8 ((s.best.r.f 7).toNat : Int), .int .i64 s.best.c, .int .u8 ((s.best.b.f 0).toNat : Int), .int .u8 ((s.best.b.f 1).toNat : Int), .int .u8 ((s.best.b.f 2).toNat : Int), .int .u8 ((s.best.b.f 3).toNat : Int), .int .u8 ((s.best.b.f 4).toNat : Int), .int .u8 ((s.best.b.f 5).toNat : Int), .int .u8 ((s.best.b.f 6).toNat : Int), .int .u8 ((s.best.b.f 7).toNat : Int), .int .i64 s.best.p]) rfl (by kernel_rfl) (by kernel_rfl) (by kernel_rfl) (fun _ _ _ h => h) (yieldsIf_load_mid rfl _ _ rfl S 12 rfl [.int .u8 ((s.best.r.f 0).toNat : Int), .int .u8 ((s.best.r.f 1).toNat : Int), .int .u8 ((s.best.r.f 2).toNat : Int), .int .u8 ((s.best.r.f 3).toNat : Int), .int .u8 ((s.best.r.f 4).toNat : Int), .int .u8 ((s.best.r.f 5).toNat : Int), .int .u8 ((s.best.r.f 6).toNat : Int), .int .u8 ((s.best.r.f 7).toNat : Int), .int .i64 s.best.c, .int .u8 ((s.best.b.f 0).toNat : Int), .int .u8 ((s.best.b.f 1).toNat : Int), .int .u8 ((s.best.b.f 2).toNat : Int), .int .u8 ((s.best.b.f 3).toNat : Int), .int .u8 ((s.best.b.f 4).toNat : Int), .int .u8 ((s.best.b.f 5).toNat : Int), .int .u8 ((s.best.b.f 6).toNat : Int), .int .u8 ((s.best.b.f 7).toNat : Int), .int .i64 s.best.p] _ (fun w' (hS' : RowIs w' S 138 #[.int .u8 ((s.id.f 0).toNat : Int), .int .u8 ((s.id.f 1).toNat : Int), .int .u8 ((s.id.f 2).toNat : Int), .int .u8 ((s.id.f 3).toNat : Int), .int .u8 ((s.id.f 4).toNat : Int), .int .u8 ((s.id.f 5).toNat : Int), .int .u8 ((s.id.f 6).toNat : Int), .int .u8 ((s.id.f 7).toNat : Int), .int .i64 s.ma, .int .i64 s.he, .int .i64 s.de, .slice (some ⟨g, 0, none⟩) s.ports.length cap, .int .u8 ((s.best.r.f 0).toNat : Int), .int .u8 ((s.best.r.f 1).toNat : Int), .int .u8 ((s.best.r.f 2).toNat : Int), .int .u8 ((s.best.r.f 3).toNat : Int), .int .u8 ((s.best.r.f 4).toNat : Int), .int .u8 ((s.best.r.f 5).toNat : Int), .int .u8 ((s.best.r.f 6).toNat : Int), .int .u8 ((s.best.r.f 7).toNat : Int), .int .i64 s.best.c, .int .u8 ((s.best.b.f 0).toNat : Int), .int .u8 ((s.best.b.f 1).toNat : Int), .int .u8 ((s.best.b.f 2).toNat : Int), .int .u8 ((s.best.b.f 3).toNat : Int), .int .u8 ((s.best.b.f 4).toNat : Int), .int .u8 ((s.best.b.f 5).toNat : Int), .int .u8 ((s.best.b.f 6).toNat : Int), .int .u8 ((s.best.b.f 7).toNat : Int), .int .i64 s.best.p, .int .i64 s.root, .int .i64 s.now, .int .i64 s.chg]) => range_of_row hS' rfl) Tryz.underlying136 rfl (by kernel_rfl)) RD ?_
  (try simp only [Act.put, List.setIfInBounds_toArray, List.set_cons_zero, List.set_cons_succ])
  refine wpAnyH_take (i := 4) (v := .pointer (some ⟨S, 0, none⟩)) rfl (by kernel_rfl) (by kernel_rfl) (by kernel_rfl) (fun _ _ _ h => h) (Or.inl ⟨by rfl, fun w' hS' => by go_simp⟩) RD ?_
  (try simp only [Act.put, List.setIfInBounds_toArray, List.set_cons_zero, List.set_cons_succ])
  refine wpAnyH_take (i := 5) (v := .pointer (some ⟨S, 0, none⟩)) rfl (by kernel_rfl) (by kernel_rfl) (by kernel_rfl) (fun _ _ _ h => h) (Or.inl ⟨by rfl, fun w' hS' => by go_simp⟩) RD ?_
  (try simp only [Act.put, List.setIfInBounds_toArray, List.set_cons_zero, List.set_cons_succ])
  refine wpAnyH_take (i := 6) (v := .pointer (some ⟨S, 30, none⟩)) rfl (by kernel_rfl) (by kernel_rfl) (by kernel_rfl) (fun _ _ _ h => h) (Or.inl ⟨by rfl, fun w' hS' => by go_simp⟩) RD ?_
  (try simp only [Act.put, List.setIfInBounds_toArray, List.set_cons_zero, List.set_cons_succ])
  refine wpAnyH_take (i := 7) (v := .int .i64 s.root) rfl (by kernel_rfl) (by kernel_rfl) (by kernel_rfl) (fun _ _ _ h => h) (Or.inl ⟨by rfl, fun w' (hS' : RowIs w' S 138 #[.int .u8 ((s.id.f 0).toNat : Int), .int .u8 ((s.id.f 1).toNat : Int), .int .u8 ((s.id.f 2).toNat : Int), .int .u8 ((s.id.f 3).toNat : Int), .int .u8 ((s.id.f 4).toNat : Int), .int .u8 ((s.id.f 5).toNat : Int), .int .u8 ((s.id.f 6).toNat : Int), .int .u8 ((s.id.f 7).toNat : Int), .int .i64 s.ma, .int .i64 s.he, .int .i64 s.de, .slice (some ⟨g, 0, none⟩) s.ports.length cap, .int .u8 ((s.best.r.f 0).toNat : Int), .int .u8 ((s.best.r.f 1).toNat : Int), .int .u8 ((s.best.r.f 2).toNat : Int), .int .u8 ((s.best.r.f 3).toNat : Int), .int .u8 ((s.best.r.f 4).toNat : Int), .int .u8 ((s.best.r.f 5).toNat : Int), .int .u8 ((s.best.r.f 6).toNat : Int), .int .u8 ((s.best.r.f 7).toNat : Int), .int .i64 s.best.c, .int .u8 ((s.best.b.f 0).toNat : Int), .int .u8 ((s.best.b.f 1).toNat : Int), .int .u8 ((s.best.b.f 2).toNat : Int), .int .u8 ((s.best.b.f 3).toNat : Int), .int .u8 ((s.best.b.f 4).toNat : Int), .int .u8 ((s.best.b.f 5).toNat : Int), .int .u8 ((s.best.b.f 6).toNat : Int), .int .u8 ((s.best.b.f 7).toNat : Int), .int .i64 s.best.p, .int .i64 s.root, .int .i64 s.now, .int .i64 s.chg]) => by have k : w'.cell? ⟨S, 30, none⟩ = some (.int .i64 s.root) := hS'.cell 30; clear hS'; go_simp⟩) RD ?_
  (try simp only [Act.put, List.setIfInBounds_toArray, List.set_cons_zero, List.set_cons_succ])
  refine wpAnyH_ready (rs := [8]) (by kernel_rfl) (by simp) ?_
  refine AllReadyH.cons rfl (fun K hK => ?_) AllReadyH.nil
  go_simp
  refine hK.out _ _ ?_ (fun RD2 => ?_)
  · exact (RD'.alloc _)
  clear hK K RD
  refine wpAnyH_ready (rs := [9]) (by kernel_rfl) (by simp) ?_
  refine AllReadyH.cons rfl (fun K hK => ?_) AllReadyH.nil
  rw [if_pos (by rfl)]
  refine wp_store_row 136 _ _ rfl w.heap.size #[.int .u8 ((s.best.r.f 0).toNat : Int), .int .u8 ((s.best.r.f 1).toNat : Int), .int .u8 ((s.best.r.f 2).toNat : Int), .int .u8 ((s.best.r.f 3).toNat : Int), .int .u8 ((s.best.r.f 4).toNat : Int), .int .u8 ((s.best.r.f 5).toNat : Int), .int .u8 ((s.best.r.f 6).toNat : Int), .int .u8 ((s.best.r.f 7).toNat : Int), .int .i64 s.best.c, .int .u8 ((s.best.b.f 0).toNat : Int), .int .u8 ((s.best.b.f 1).toNat : Int), .int .u8 ((s.best.b.f 2).toNat : Int), .int .u8 ((s.best.b.f 3).toNat : Int), .int .u8 ((s.best.b.f 4).toNat : Int), .int .u8 ((s.best.b.f 5).toNat : Int), .int .u8 ((s.best.b.f 6).toNat : Int), .int .u8 ((s.best.b.f 7).toNat : Int), .int .i64 s.best.p] rfl rfl 136 _ hN (by kernel_rfl) rfl (by simp [Value.oneCell']) ?_
  refine hK.out _ _ (rowIs_same RD2 (setRow_other _ w.heap.size S _ (by omega))) (fun RD3 => ?_)
  have hN3 : RowIs ((w.alloc (.cells #[.int .u8 0, .int .u8 0, .int .u8 0, .int .u8 0, .int .u8 0, .int .u8 0, .int .u8 0, .int .u8 0, .int .i64 0, .int .u8 0, .int .u8 0, .int .u8 0, .int .u8 0, .int .u8 0, .int .u8 0, .int .u8 0, .int .u8 0, .int .i64 0] 136)).drew.setRow w.heap.size #[.int .u8 ((s.best.r.f 0).toNat : Int), .int .u8 ((s.best.r.f 1).toNat : Int), .int .u8 ((s.best.r.f 2).toNat : Int), .int .u8 ((s.best.r.f 3).toNat : Int), .int .u8 ((s.best.r.f 4).toNat : Int), .int .u8 ((s.best.r.f 5).toNat : Int), .int .u8 ((s.best.r.f 6).toNat : Int), .int .u8 ((s.best.r.f 7).toNat : Int), .int .i64 s.best.c, .int .u8 ((s.best.b.f 0).toNat : Int), .int .u8 ((s.best.b.f 1).toNat : Int), .int .u8 ((s.best.b.f 2).toNat : Int), .int .u8 ((s.best.b.f 3).toNat : Int), .int .u8 ((s.best.b.f 4).toNat : Int), .int .u8 ((s.best.b.f 5).toNat : Int), .int .u8 ((s.best.b.f 6).toNat : Int), .int .u8 ((s.best.b.f 7).toNat : Int), .int .i64 s.best.p]) w.heap.size 136 #[.int .u8 ((s.best.r.f 0).toNat : Int), .int .u8 ((s.best.r.f 1).toNat : Int), .int .u8 ((s.best.r.f 2).toNat : Int), .int .u8 ((s.best.r.f 3).toNat : Int), .int .u8 ((s.best.r.f 4).toNat : Int), .int .u8 ((s.best.r.f 5).toNat : Int), .int .u8 ((s.best.r.f 6).toNat : Int), .int .u8 ((s.best.r.f 7).toNat : Int), .int .i64 s.best.c, .int .u8 ((s.best.b.f 0).toNat : Int), .int .u8 ((s.best.b.f 1).toNat : Int), .int .u8 ((s.best.b.f 2).toNat : Int), .int .u8 ((s.best.b.f 3).toNat : Int), .int .u8 ((s.best.b.f 4).toNat : Int), .int .u8 ((s.best.b.f 5).toNat : Int), .int .u8 ((s.best.b.f 6).toNat : Int), .int .u8 ((s.best.b.f 7).toNat : Int), .int .i64 s.best.p] := setRow_heap _ w.heap.size _ _ _ (0, 0) hN
  have hbN3 := below_setRow (B := w.heap.size) hbN (Nat.le_refl _) #[.int .u8 ((s.best.r.f 0).toNat : Int), .int .u8 ((s.best.r.f 1).toNat : Int), .int .u8 ((s.best.r.f 2).toNat : Int), .int .u8 ((s.best.r.f 3).toNat : Int), .int .u8 ((s.best.r.f 4).toNat : Int), .int .u8 ((s.best.r.f 5).toNat : Int), .int .u8 ((s.best.r.f 6).toNat : Int), .int .u8 ((s.best.r.f 7).toNat : Int), .int .i64 s.best.c, .int .u8 ((s.best.b.f 0).toNat : Int), .int .u8 ((s.best.b.f 1).toNat : Int), .int .u8 ((s.best.b.f 2).toNat : Int), .int .u8 ((s.best.b.f 3).toNat : Int), .int .u8 ((s.best.b.f 4).toNat : Int), .int .u8 ((s.best.b.f 5).toNat : Int), .int .u8 ((s.best.b.f 6).toNat : Int), .int .u8 ((s.best.b.f 7).toNat : Int), .int .i64 s.best.p]
  have HN3 := Lib.hid hN3
  clear hN3 hN hbN RD2 RD' hK K
  generalize (w.alloc (.cells #[.int .u8 0, .int .u8 0, .int .u8 0, .int .u8 0, .int .u8 0, .int .u8 0, .int .u8 0, .int .u8 0, .int .i64 0, .int .u8 0, .int .u8 0, .int .u8 0, .int .u8 0, .int .u8 0, .int .u8 0, .int .u8 0, .int .u8 0, .int .i64 0] 136)).drew.setRow w.heap.size #[.int .u8 ((s.best.r.f 0).toNat : Int), .int .u8 ((s.best.r.f 1).toNat : Int), .int .u8 ((s.best.r.f 2).toNat : Int), .int .u8 ((s.best.r.f 3).toNat : Int), .int .u8 ((s.best.r.f 4).toNat : Int), .int .u8 ((s.best.r.f 5).toNat : Int), .int .u8 ((s.best.r.f 6).toNat : Int), .int .u8 ((s.best.r.f 7).toNat : Int), .int .i64 s.best.c, .int .u8 ((s.best.b.f 0).toNat : Int), .int .u8 ((s.best.b.f 1).toNat : Int), .int .u8 ((s.best.b.f 2).toNat : Int), .int .u8 ((s.best.b.f 3).toNat : Int), .int .u8 ((s.best.b.f 4).toNat : Int), .int .u8 ((s.best.b.f 5).toNat : Int), .int .u8 ((s.best.b.f 6).toNat : Int), .int .u8 ((s.best.b.f 7).toNat : Int), .int .i64 s.best.p] = w1 at *
  (try simp only [Act.put, List.setIfInBounds_toArray, List.set_cons_zero, List.set_cons_succ])
  refine wpAnyH_take (i := 10) (v := .int .i64 s.root) rfl (by kernel_rfl) (by kernel_rfl) (by kernel_rfl) (fun _ _ _ h => h) (Or.inl ⟨by rfl, fun w' hS' => by go_simp⟩) RD3 ?_
  refine wpAnyH_done (by kernel_rfl) ?_ _
  (try simp only [Act.put, List.setIfInBounds_toArray, List.set_cons_zero, List.set_cons_succ])
  clear RD3
  have HA1 := Lib.hid (HA.out.later hbN3)
  have hbB : Below B w w1 := hbN3.mono hBw
  have hsz1 : B ≤ w1.heap.size := Nat.le_trans hBw hbN3.size
  have hnb : w.heap.size < w1.heap.size := HN3.out.lt
  have HO1 : Hid (Only (S :: pbs) w w1) := (Only.refl _ w).below hbN3
  clear hbN3 HA
  have HRT := Lib.hid (rooted_any B S g cap pbs w1 s HA1.out hp)
  go_wp2_with fail
  refine HRT.out.mono ?_
  rintro e w2 ⟨rfl, hA2, hb2, ho2⟩
  have HA2 := Lib.hid hA2
  have HN2 : Hid (RowIs w2 w.heap.size 136 s.best.cells) := rowIs_same HN3.out (ho2.2 _ hnb (by simp; omega))
  have hbB := hbB.trans hb2
  have hsz2 : B ≤ w2.heap.size := Nat.le_trans hsz1 ho2.1
  have HCH : Hid (s.changed = (!(decide (s.best = s.rooted.best)) || (s.root != s.rooted.root))) := rfl
  have hlen2 : s.rooted.ports.length = pbs.length := HA2.out.len.symm
  have R2 : Hid (RowIs w2 S 138 (s.rooted.cells g cap)) := HA2.out.row
  have k30 := cell_regrown (show w2.cell? ⟨S, 30, none⟩ = some (.int .i64 s.rooted.root) from R2.out.cell 30)
  have m1 := run_equalIn_sv 9997 s.best s.rooted.best
  have HOw : Hid (Only (S :: pbs) w w2) := HO1.out.trans (ho2.mono (by simp))
  clear hA2 hb2 ho2 HRT HN3 hnb HA1 HO1
  go_upto_region 3 with fail
  go_cut [5] (fun v wx => v = .bool s.changed ∧ Below w2.heap.size w2 wx)
  case first =>
    have m1 : ∀ w, (Op.equalIn 10000 136 (.agg #[.int .u8 ((s.best.r.f 0).toNat : Int), .int .u8 ((s.best.r.f 1).toNat : Int), .int .u8 ((s.best.r.f 2).toNat : Int), .int .u8 ((s.best.r.f 3).toNat : Int), .int .u8 ((s.best.r.f 4).toNat : Int), .int .u8 ((s.best.r.f 5).toNat : Int), .int .u8 ((s.best.r.f 6).toNat : Int), .int .u8 ((s.best.r.f 7).toNat : Int), .int .i64 s.best.c, .int .u8 ((s.best.b.f 0).toNat : Int), .int .u8 ((s.best.b.f 1).toNat : Int), .int .u8 ((s.best.b.f 2).toNat : Int), .int .u8 ((s.best.b.f 3).toNat : Int), .int .u8 ((s.best.b.f 4).toNat : Int), .int .u8 ((s.best.b.f 5).toNat : Int), .int .u8 ((s.best.b.f 6).toNat : Int), .int .u8 ((s.best.b.f 7).toNat : Int), .int .i64 s.best.p]) (.agg #[.int .u8 ((s.rooted.best.r.f 0).toNat : Int), .int .u8 ((s.rooted.best.r.f 1).toNat : Int), .int .u8 ((s.rooted.best.r.f 2).toNat : Int), .int .u8 ((s.rooted.best.r.f 3).toNat : Int), .int .u8 ((s.rooted.best.r.f 4).toNat : Int), .int .u8 ((s.rooted.best.r.f 5).toNat : Int), .int .u8 ((s.rooted.best.r.f 6).toNat : Int), .int .u8 ((s.rooted.best.r.f 7).toNat : Int), .int .i64 s.rooted.best.c, .int .u8 ((s.rooted.best.b.f 0).toNat : Int), .int .u8 ((s.rooted.best.b.f 1).toNat : Int), .int .u8 ((s.rooted.best.b.f 2).toNat : Int), .int .u8 ((s.rooted.best.b.f 3).toNat : Int), .int .u8 ((s.rooted.best.b.f 4).toNat : Int), .int .u8 ((s.rooted.best.b.f 5).toNat : Int), .int .u8 ((s.rooted.best.b.f 6).toNat : Int), .int .u8 ((s.rooted.best.b.f 7).toNat : Int), .int .i64 s.rooted.best.p])).run Tryz.prog w = .ok (decide (s.best = s.rooted.best)) w := run_equalIn_sv 9997 s.best s.rooted.best
    generalize decide (s.best = s.rooted.best) = dq at *
    cases dq
    · have HCH : Hid (s.changed = true) := by show _ = _; rw [HCH.out]; rfl
      refine wp_region_mix 14 (by kernel_rfl) (by kernel_rfl) (by kernel_rfl) ?_
      refine mix_exact (.agg #[.int .u8 ((s.best.r.f 0).toNat : Int), .int .u8 ((s.best.r.f 1).toNat : Int), .int .u8 ((s.best.r.f 2).toNat : Int), .int .u8 ((s.best.r.f 3).toNat : Int), .int .u8 ((s.best.r.f 4).toNat : Int), .int .u8 ((s.best.r.f 5).toNat : Int), .int .u8 ((s.best.r.f 6).toNat : Int), .int .u8 ((s.best.r.f 7).toNat : Int), .int .i64 s.best.c, .int .u8 ((s.best.b.f 0).toNat : Int), .int .u8 ((s.best.b.f 1).toNat : Int), .int .u8 ((s.best.b.f 2).toNat : Int), .int .u8 ((s.best.b.f 3).toNat : Int), .int .u8 ((s.best.b.f 4).toNat : Int), .int .u8 ((s.best.b.f 5).toNat : Int), .int .u8 ((s.best.b.f 6).toNat : Int), .int .u8 ((s.best.b.f 7).toNat : Int), .int .i64 s.best.p]) rfl (exact_load_row rfl rfl (by simp) HN2.out Tryz.underlying136 rfl (by kernel_rfl)) ?_
      (refine mix_step (by kernel_rfl) (by kernel_rfl) (fun K hK => ?_); go_simp; (try (simp only [↓IntWalk.iteOmega]; go_simp)); (first | (refine hK _ ?_; clear hK K) | (apply Exists.intro; refine ⟨fun _ => ?_, hK _ ?_⟩; (first | fail); clear hK K)))
      (refine mix_step (by kernel_rfl) (by kernel_rfl) (fun K hK => ?_); go_simp; (try (simp only [↓IntWalk.iteOmega]; go_simp)); (first | (refine hK _ ?_; clear hK K) | (apply Exists.intro; refine ⟨fun _ => ?_, hK _ ?_⟩; (first | fail); clear hK K)))
      (refine mix_step (by kernel_rfl) (by kernel_rfl) (fun K hK => ?_); go_simp; (try (simp only [↓IntWalk.iteOmega]; go_simp)); (first | (refine hK _ ?_; clear hK K) | (apply Exists.intro; refine ⟨fun _ => ?_, hK _ ?_⟩; (first | fail); clear hK K)))
      refine mix_exact (.agg #[.int .u8 ((s.rooted.best.r.f 0).toNat : Int), .int .u8 ((s.rooted.best.r.f 1).toNat : Int), .int .u8 ((s.rooted.best.r.f 2).toNat : Int), .int .u8 ((s.rooted.best.r.f 3).toNat : Int), .int .u8 ((s.rooted.best.r.f 4).toNat : Int), .int .u8 ((s.rooted.best.r.f 5).toNat : Int), .int .u8 ((s.rooted.best.r.f 6).toNat : Int), .int .u8 ((s.rooted.best.r.f 7).toNat : Int), .int .i64 s.rooted.best.c, .int .u8 ((s.rooted.best.b.f 0).toNat : Int), .int .u8 ((s.rooted.best.b.f 1).toNat : Int), .int .u8 ((s.rooted.best.b.f 2).toNat : Int), .int .u8 ((s.rooted.best.b.f 3).toNat : Int), .int .u8 ((s.rooted.best.b.f 4).toNat : Int), .int .u8 ((s.rooted.best.b.f 5).toNat : Int), .int .u8 ((s.rooted.best.b.f 6).toNat : Int), .int .u8 ((s.rooted.best.b.f 7).toNat : Int), .int .i64 s.rooted.best.p]) rfl (exact_load_mid (sub := [.int .u8 ((s.rooted.best.r.f 0).toNat : Int), .int .u8 ((s.rooted.best.r.f 1).toNat : Int), .int .u8 ((s.rooted.best.r.f 2).toNat : Int), .int .u8 ((s.rooted.best.r.f 3).toNat : Int), .int .u8 ((s.rooted.best.r.f 4).toNat : Int), .int .u8 ((s.rooted.best.r.f 5).toNat : Int), .int .u8 ((s.rooted.best.r.f 6).toNat : Int), .int .u8 ((s.rooted.best.r.f 7).toNat : Int), .int .i64 s.rooted.best.c, .int .u8 ((s.rooted.best.b.f 0).toNat : Int), .int .u8 ((s.rooted.best.b.f 1).toNat : Int), .int .u8 ((s.rooted.best.b.f 2).toNat : Int), .int .u8 ((s.rooted.best.b.f 3).toNat : Int), .int .u8 ((s.rooted.best.b.f 4).toNat : Int), .int .u8 ((s.rooted.best.b.f 5).toNat : Int), .int .u8 ((s.rooted.best.b.f 6).toNat : Int), .int .u8 ((s.rooted.best.b.f 7).toNat : Int), .int .i64 s.rooted.best.p]) rfl rfl (by simp) R2.out rfl Tryz.underlying136 rfl (by kernel_rfl)) ?_
      (refine mix_step (by kernel_rfl) (by kernel_rfl) (fun K hK => ?_); go_simp; (try (simp only [↓IntWalk.iteOmega]; go_simp)); (first | (refine hK _ ?_; clear hK K) | (apply Exists.intro; refine ⟨fun _ => ?_, hK _ ?_⟩; (first | fail); clear hK K)))
      (refine mix_step (by kernel_rfl) (by kernel_rfl) (fun K hK => ?_); go_simp; (try (simp only [↓IntWalk.iteOmega]; go_simp)); (first | (refine hK _ ?_; clear hK K) | (apply Exists.intro; refine ⟨fun _ => ?_, hK _ ?_⟩; (first | fail); clear hK K)))
      (refine mix_step (by kernel_rfl) (by kernel_rfl) (fun K hK => ?_); go_simp; (try (simp only [↓IntWalk.iteOmega]; go_simp)); (first | (refine hK _ ?_; clear hK K) | (apply Exists.intro; refine ⟨fun _ => ?_, hK _ ?_⟩; (first | fail); clear hK K)))
      (refine mix_step (by kernel_rfl) (by kernel_rfl) (fun K hK => ?_); go_simp; (try (simp only [↓IntWalk.iteOmega]; go_simp)); (first | (refine hK _ ?_; clear hK K) | (apply Exists.intro; refine ⟨fun _ => ?_, hK _ ?_⟩; (first | fail); clear hK K)))
      (refine mix_step (by kernel_rfl) (by kernel_rfl) (fun K hK => ?_); go_simp; (try (simp only [↓IntWalk.iteOmega]; go_simp)); (first | (refine hK _ ?_; clear hK K) | (apply Exists.intro; refine ⟨fun _ => ?_, hK _ ?_⟩; (first | fail); clear hK K)))
      (refine mix_step (by kernel_rfl) (by kernel_rfl) (fun K hK => ?_); go_simp; (try (simp only [↓IntWalk.iteOmega]; go_simp)); (first | (refine hK _ ?_; clear hK K) | (apply Exists.intro; refine ⟨fun _ => ?_, hK _ ?_⟩; (first | fail); clear hK K)))
      (refine mix_step (by kernel_rfl) (by kernel_rfl) (fun K hK => ?_); go_simp; (try (simp only [↓IntWalk.iteOmega]; go_simp)); (first | (refine hK _ ?_; clear hK K) | (apply Exists.intro; refine ⟨fun _ => ?_, hK _ ?_⟩; (first | fail); clear hK K)))
      (refine mix_step (by kernel_rfl) (by kernel_rfl) (fun K hK => ?_); go_simp; (try (simp only [↓IntWalk.iteOmega]; go_simp)); (first | (refine hK _ ?_; clear hK K) | (apply Exists.intro; refine ⟨fun _ => ?_, hK _ ?_⟩; (first | fail); clear hK K)))
      (refine mix_step (by kernel_rfl) (by kernel_rfl) (fun K hK => ?_); go_simp; (try (simp only [↓IntWalk.iteOmega]; go_simp)); (first | (refine hK _ ?_; clear hK K) | (apply Exists.intro; refine ⟨fun _ => ?_, hK _ ?_⟩; (first | fail); clear hK K)))
      refine mix_nil ?_
      rintro ⟨dr, osr⟩
      have hb8 := below_regrown w2 dr osr
      refine (show wpList _ _ _ _ _ _ from ?_)
      simp only [List.drop, Act.put, List.setIfInBounds_toArray, List.set]
      go_wp2_with fail
      go_meet
      exact ⟨by rw [HCH.out], hb8⟩
    · have HCH : Hid (s.changed = (s.root != s.rooted.root)) := by show _ = _; rw [HCH.out]; rfl
      refine wp_region_mix 14 (by kernel_rfl) (by kernel_rfl) (by kernel_rfl) ?_
      refine mix_exact (.agg #[.int .u8 ((s.best.r.f 0).toNat : Int), .int .u8 ((s.best.r.f 1).toNat : Int), .int .u8 ((s.best.r.f 2).toNat : Int), .int .u8 ((s.best.r.f 3).toNat : Int), .int .u8 ((s.best.r.f 4).toNat : Int), .int .u8 ((s.best.r.f 5).toNat : Int), .int .u8 ((s.best.r.f 6).toNat : Int), .int .u8 ((s.best.r.f 7).toNat : Int), .int .i64 s.best.c, .int .u8 ((s.best.b.f 0).toNat : Int), .int .u8 ((s.best.b.f 1).toNat : Int), .int .u8 ((s.best.b.f 2).toNat : Int), .int .u8 ((s.best.b.f 3).toNat : Int), .int .u8 ((s.best.b.f 4).toNat : Int), .int .u8 ((s.best.b.f 5).toNat : Int), .int .u8 ((s.best.b.f 6).toNat : Int), .int .u8 ((s.best.b.f 7).toNat : Int), .int .i64 s.best.p]) rfl (exact_load_row rfl rfl (by simp) HN2.out Tryz.underlying136 rfl (by kernel_rfl)) ?_
      (refine mix_step (by kernel_rfl) (by kernel_rfl) (fun K hK => ?_); go_simp; (try (simp only [↓IntWalk.iteOmega]; go_simp)); (first | (refine hK _ ?_; clear hK K) | (apply Exists.intro; refine ⟨fun _ => ?_, hK _ ?_⟩; (first | fail); clear hK K)))
      (refine mix_step (by kernel_rfl) (by kernel_rfl) (fun K hK => ?_); go_simp; (try (simp only [↓IntWalk.iteOmega]; go_simp)); (first | (refine hK _ ?_; clear hK K) | (apply Exists.intro; refine ⟨fun _ => ?_, hK _ ?_⟩; (first | fail); clear hK K)))
      (refine mix_step (by kernel_rfl) (by kernel_rfl) (fun K hK => ?_); go_simp; (try (simp only [↓IntWalk.iteOmega]; go_simp)); (first | (refine hK _ ?_; clear hK K) | (apply Exists.intro; refine ⟨fun _ => ?_, hK _ ?_⟩; (first | fail); clear hK K)))
      refine mix_exact (.agg #[.int .u8 ((s.rooted.best.r.f 0).toNat : Int), .int .u8 ((s.rooted.best.r.f 1).toNat : Int), .int .u8 ((s.rooted.best.r.f 2).toNat : Int), .int .u8 ((s.rooted.best.r.f 3).toNat : Int), .int .u8 ((s.rooted.best.r.f 4).toNat : Int), .int .u8 ((s.rooted.best.r.f 5).toNat : Int), .int .u8 ((s.rooted.best.r.f 6).toNat : Int), .int .u8 ((s.rooted.best.r.f 7).toNat : Int), .int .i64 s.rooted.best.c, .int .u8 ((s.rooted.best.b.f 0).toNat : Int), .int .u8 ((s.rooted.best.b.f 1).toNat : Int), .int .u8 ((s.rooted.best.b.f 2).toNat : Int), .int .u8 ((s.rooted.best.b.f 3).toNat : Int), .int .u8 ((s.rooted.best.b.f 4).toNat : Int), .int .u8 ((s.rooted.best.b.f 5).toNat : Int), .int .u8 ((s.rooted.best.b.f 6).toNat : Int), .int .u8 ((s.rooted.best.b.f 7).toNat : Int), .int .i64 s.rooted.best.p]) rfl (exact_load_mid (sub := [.int .u8 ((s.rooted.best.r.f 0).toNat : Int), .int .u8 ((s.rooted.best.r.f 1).toNat : Int), .int .u8 ((s.rooted.best.r.f 2).toNat : Int), .int .u8 ((s.rooted.best.r.f 3).toNat : Int), .int .u8 ((s.rooted.best.r.f 4).toNat : Int), .int .u8 ((s.rooted.best.r.f 5).toNat : Int), .int .u8 ((s.rooted.best.r.f 6).toNat : Int), .int .u8 ((s.rooted.best.r.f 7).toNat : Int), .int .i64 s.rooted.best.c, .int .u8 ((s.rooted.best.b.f 0).toNat : Int), .int .u8 ((s.rooted.best.b.f 1).toNat : Int), .int .u8 ((s.rooted.best.b.f 2).toNat : Int), .int .u8 ((s.rooted.best.b.f 3).toNat : Int), .int .u8 ((s.rooted.best.b.f 4).toNat : Int), .int .u8 ((s.rooted.best.b.f 5).toNat : Int), .int .u8 ((s.rooted.best.b.f 6).toNat : Int), .int .u8 ((s.rooted.best.b.f 7).toNat : Int), .int .i64 s.rooted.best.p]) rfl rfl (by simp) R2.out rfl Tryz.underlying136 rfl (by kernel_rfl)) ?_
      (refine mix_step (by kernel_rfl) (by kernel_rfl) (fun K hK => ?_); go_simp; (try (simp only [↓IntWalk.iteOmega]; go_simp)); (first | (refine hK _ ?_; clear hK K) | (apply Exists.intro; refine ⟨fun _ => ?_, hK _ ?_⟩; (first | fail); clear hK K)))
      (refine mix_step (by kernel_rfl) (by kernel_rfl) (fun K hK => ?_); go_simp; (try (simp only [↓IntWalk.iteOmega]; go_simp)); (first | (refine hK _ ?_; clear hK K) | (apply Exists.intro; refine ⟨fun _ => ?_, hK _ ?_⟩; (first | fail); clear hK K)))
      (refine mix_step (by kernel_rfl) (by kernel_rfl) (fun K hK => ?_); go_simp; (try (simp only [↓IntWalk.iteOmega]; go_simp)); (first | (refine hK _ ?_; clear hK K) | (apply Exists.intro; refine ⟨fun _ => ?_, hK _ ?_⟩; (first | fail); clear hK K)))
      (refine mix_step (by kernel_rfl) (by kernel_rfl) (fun K hK => ?_); go_simp; (try (simp only [↓IntWalk.iteOmega]; go_simp)); (first | (refine hK _ ?_; clear hK K) | (apply Exists.intro; refine ⟨fun _ => ?_, hK _ ?_⟩; (first | fail); clear hK K)))
      (refine mix_step (by kernel_rfl) (by kernel_rfl) (fun K hK => ?_); go_simp; (try (simp only [↓IntWalk.iteOmega]; go_simp)); (first | (refine hK _ ?_; clear hK K) | (apply Exists.intro; refine ⟨fun _ => ?_, hK _ ?_⟩; (first | fail); clear hK K)))
      (refine mix_step (by kernel_rfl) (by kernel_rfl) (fun K hK => ?_); go_simp; (try (simp only [↓IntWalk.iteOmega]; go_simp)); (first | (refine hK _ ?_; clear hK K) | (apply Exists.intro; refine ⟨fun _ => ?_, hK _ ?_⟩; (first | fail); clear hK K)))
      (refine mix_step (by kernel_rfl) (by kernel_rfl) (fun K hK => ?_); go_simp; (try (simp only [↓IntWalk.iteOmega]; go_simp)); (first | (refine hK _ ?_; clear hK K) | (apply Exists.intro; refine ⟨fun _ => ?_, hK _ ?_⟩; (first | fail); clear hK K)))
      (refine mix_step (by kernel_rfl) (by kernel_rfl) (fun K hK => ?_); go_simp; (try (simp only [↓IntWalk.iteOmega]; go_simp)); (first | (refine hK _ ?_; clear hK K) | (apply Exists.intro; refine ⟨fun _ => ?_, hK _ ?_⟩; (first | fail); clear hK K)))
      (refine mix_step (by kernel_rfl) (by kernel_rfl) (fun K hK => ?_); go_simp; (try (simp only [↓IntWalk.iteOmega]; go_simp)); (first | (refine hK _ ?_; clear hK K) | (apply Exists.intro; refine ⟨fun _ => ?_, hK _ ?_⟩; (first | fail); clear hK K)))
      refine mix_nil ?_
      rintro ⟨dr, osr⟩
      have hb8 := below_regrown w2 dr osr
      refine (show wpList _ _ _ _ _ _ from ?_)
      simp only [List.drop, Act.put, List.setIfInBounds_toArray, List.set]
      go_wp2_with fail
      go_meet
      exact ⟨by rw [HCH.out], hb8⟩
  case rest =>
    obtain ⟨rfl, hb8⟩ := hcut
    generalize wc = w3 at *
    have HA3 : Hid (SpAt B S g cap pbs w3 (foundF s.rooted s.changed 0).1) := HA2.out.later hb8
    have hbB3 := hbB.trans (hb8.mono hsz2)
    have hsz3 := Nat.le_trans hsz2 hb8.size
    have HC3 : Hid (0 ≤ (foundF s.rooted s.changed 0).1.chg ∧ (foundF s.rooted s.changed 0).1.chg ≤ 999990000 + (0 : Nat)) := by
      show _ ∧ _
      exact ⟨hc.1, (show s.chg ≤ 999990000 + ((0 : Nat) : Int) from by have := hc.2; omega)⟩
    have HF : Hid (s.found = foundF s.rooted s.changed s.ports.length) := rfl
    have HO3 := Lib.hid (HOw.out.below hb8)
    clear hb8 HA2 HN2 R2 k30 m1 HCH hbB hsz2
    have q1 : w3.cell? ⟨S, 11, none⟩ = some (.slice (some ⟨g, 0, none⟩) s.rooted.ports.length cap) := HA3.out.row.cell 11
    have hrl : s.rooted.ports.length = s.ports.length := rfl
    rw [hrl] at q1
    generalize s.rooted = s0 at *
    generalize s.changed = c0 at *
    go_upto_region 5 with fail
    clear q1
    go_loopw [5, 39] (fun v5 v39 wr => ∃ i : Nat, i ≤ s.ports.length ∧ v39 = .int .i64 i ∧ v5 = .bool (foundF s0 c0 i).2 ∧ Hid (SpAt B S g cap pbs wr (foundF s0 c0 i).1) ∧ Below B w wr ∧ B ≤ wr.heap.size ∧ Hid (Only (S :: pbs) w wr) ∧ Hid (0 ≤ (foundF s0 c0 i).1.chg ∧ (foundF s0 c0 i).1.chg ≤ 999990000 + (i : Nat))) (fun _ v39 _ => s.ports.length - (intOf v39).toNat)
    case atStart => exact ⟨0, Nat.zero_le _, rfl, rfl, HA3, hbB3, hsz3, HO3, HC3⟩
    case round =>
      clear HA3 hbB3 hsz3 HO3 HC3
      rename World => wr
      obtain ⟨i, hi, rfl, rfl, HW, hbR, hszR, HOR, HCR⟩ := hrel
      by_cases hlt : i < s.ports.length
      · have hip : i < pbs.length := by omega
        have q0 := HW.out.ptr hip
        have HN : Hid (foundF s0 c0 (i + 1) = ((foundF s0 c0 i).1.onto i ((foundF s0 c0 i).1.role i), (foundF s0 c0 i).2 || ((foundF s0 c0 i).1.role i != ((foundF s0 c0 i).1.port i).role))) := rfl
        generalize foundF s0 c0 i = fi at *
        obtain ⟨si, ci⟩ := fi
        have HRL := Lib.hid (role_any B S g cap pbs wr si HW.out i hip hp)
        go_wp2_with fail
        refine HRL.out.mono ?_
        rintro e w4 ⟨rfl, hb4⟩
        have HW4 := Lib.hid (HW.out.later hb4)
        have hb4B := hbR.trans (hb4.mono hszR)
        have hsz4 := Nat.le_trans hszR hb4.size
        have HO4 := Lib.hid (HOR.out.below hb4)
        have HP4 := Lib.hid (HW4.out.ports i hip).2
        clear HRL hb4 HW hbR hszR HOR q0
        generalize si.role i = r at *
        have c27 : w4.cell? ⟨pbs[i], 27, none⟩ = some (.int .i64 (si.port i).role) := HP4.out.cell 27
        go_upto_region 8 with fail
        go_cut [5] (fun v wx => v = .bool (ci || (r != (si.port i).role)) ∧ w4 = wx)
        case first =>
          cases ci
          · go_wp2_with fail
            go_meet
            exact ⟨rfl, rfl⟩
          · go_wp2_with fail
            go_meet
            exact ⟨rfl, rfl⟩
        case rest =>
          obtain ⟨rfl, rfl⟩ := hcut
          go_upto_region 9 with fail
          go_cut [9] (fun v wx => v = .bool (r == 1 || r == 2) ∧ w4 = wx)
          case first =>
            cases h1 : (r == 1)
            · cases h2 : (r == 2)
              · go_wp2_with fail
                go_meet
                exact ⟨by rw [h1, h2]; rfl, rfl⟩
              · go_wp2_with fail
                go_meet
                exact ⟨by rw [h1, h2]; rfl, rfl⟩
            · go_wp2_with fail
              go_meet
              exact ⟨by rw [h1]; rfl, rfl⟩
          case rest =>
            obtain ⟨rfl, rfl⟩ := hcut
            have c28 : w4.cell? ⟨pbs[i], 28, none⟩ = some (.int .i64 (si.port i).state) := HP4.out.cell 28
            have HX : Hid (si.onto i r = (si.ontoS i (r == 1 || r == 2) ((si.port i).state == 0)).setRole i r) := rfl
            generalize (r == 1 || r == 2) = on at *
            cases hst : ((si.port i).state == 0) <;> cases on
            · have HX : Hid (si.onto i r = (si.moved i 0).setRole i r) := by show _ = _; rw [HX.out, hst]; rfl
              have HMV := Lib.hid (moved_any B S g cap pbs w4 si HW4.out i hip 0 (by have := HCR.out; have := hp; omega))
              go_wp2_with fail
              refine HMV.out.mono ?_
              rintro e w5 ⟨rfl, hA5, hb5, ho5⟩
              have HA5 := Lib.hid hA5
              have hb5B := hb4B.trans hb5
              have HO5 := Lib.hid (HO4.out.trans (ho5.mono (by simp)))
              have hsz5 : B ≤ w5.heap.size := Nat.le_trans hsz4 ho5.1
              have c28' : w5.cell? ⟨pbs[i], 28, none⟩ = some (.int .i64 0) := by
                have := (HA5.out.ports i hip).2.cell 28
                rw [this]
                unfold SS.moved
                rw [SS.port_put _ _ _ _ (by have := hA5.len; simp only [SS.moved, SS.put_len] at this; show i < si.ports.length; omega), if_pos rfl]
                rfl
              clear hA5 hb5 ho5 HMV HW4 hb4B HO4 hsz4 HP4 c27 c28
              have HS5 := Lib.hid (HA5.out.ports i hip).2
              go_upto_region 14 with fail
              go_wp2_with ((with_reducible refine at_store 3 (.tmp 88) (.tmp 86) ?_); refine wpList_store_cell rfl 3 (.tmp 88) (.tmp 86) rfl (pbs[i]) 27 _ rfl rfl 143 _ HS5.out (show 27 < 30 by decide) (by kernel_rfl) rfl B (HA5.out.ports i hip).1 ?_)
              intro w6 hR6 ho6 hs6 hb6
              have HA6 : Hid (SpAt B S g cap pbs w6 ((si.moved i 0).setRole i r)) := by
                show SpAt _ _ _ _ _ _ _
                exact HA5.out.portSet hip hR6 ho6
              have hbf := hb5B.trans hb6
              have hszf : B ≤ w6.heap.size := by omega
              have HOf := Lib.hid (HO5.out.store (S := pbs[i]) (by simp) ho6 hs6)
              clear hR6 ho6 hb6 HA5 HS5
              go_wp2_with fail
              refine ⟨⟨i + 1, by omega, by go_num, by rw [HN.out], ?_, hbf, hszf, HOf, ?_⟩, by simp [intOf]; omega⟩
              · rw [HN.out]
                show SpAt _ _ _ _ _ _ _
                rw [HX.out]
                exact HA6.out
              · show _ ∧ _
                rw [HN.out]
                have := HCR.out
                have := si.onto_chg i r
                simp only at *
                omega
            · have HX : Hid (si.onto i r = si.setRole i r) := by show _ = _; rw [HX.out, hst]; rfl
              have HA5 := HW4
              have hb5B := hb4B
              have HO5 := HO4
              have hsz5 := hsz4
              clear HW4 hb4B HO4 hsz4 HP4 c27
              have HS5 := Lib.hid (HA5.out.ports i hip).2
              go_upto_region 14 with fail
              go_wp2_with ((with_reducible refine at_store 3 (.tmp 88) (.tmp 86) ?_); refine wpList_store_cell rfl 3 (.tmp 88) (.tmp 86) rfl (pbs[i]) 27 _ rfl rfl 143 _ HS5.out (show 27 < 30 by decide) (by kernel_rfl) rfl B (HA5.out.ports i hip).1 ?_)
              intro w6 hR6 ho6 hs6 hb6
              have HA6 : Hid (SpAt B S g cap pbs w6 ((si).setRole i r)) := by
                show SpAt _ _ _ _ _ _ _
                exact HA5.out.portSet hip hR6 ho6
              have hbf := hb5B.trans hb6
              have hszf : B ≤ w6.heap.size := by omega
              have HOf := Lib.hid (HO5.out.store (S := pbs[i]) (by simp) ho6 hs6)
              clear hR6 ho6 hb6 HA5 HS5
              go_wp2_with fail
              refine ⟨⟨i + 1, by omega, by go_num, by rw [HN.out], ?_, hbf, hszf, HOf, ?_⟩, by simp [intOf]; omega⟩
              · rw [HN.out]
                show SpAt _ _ _ _ _ _ _
                rw [HX.out]
                exact HA6.out
              · show _ ∧ _
                rw [HN.out]
                have := HCR.out
                have := si.onto_chg i r
                simp only at *
                omega
            · have HX : Hid (si.onto i r = si.setRole i r) := by show _ = _; rw [HX.out, hst]; rfl
              have HA5 := HW4
              have hb5B := hb4B
              have HO5 := HO4
              have hsz5 := hsz4
              clear HW4 hb4B HO4 hsz4 HP4 c27
              have HS5 := Lib.hid (HA5.out.ports i hip).2
              go_upto_region 14 with fail
              go_wp2_with ((with_reducible refine at_store 3 (.tmp 88) (.tmp 86) ?_); refine wpList_store_cell rfl 3 (.tmp 88) (.tmp 86) rfl (pbs[i]) 27 _ rfl rfl 143 _ HS5.out (show 27 < 30 by decide) (by kernel_rfl) rfl B (HA5.out.ports i hip).1 ?_)
              intro w6 hR6 ho6 hs6 hb6
              have HA6 : Hid (SpAt B S g cap pbs w6 ((si).setRole i r)) := by
                show SpAt _ _ _ _ _ _ _
                exact HA5.out.portSet hip hR6 ho6
              have hbf := hb5B.trans hb6
              have hszf : B ≤ w6.heap.size := by omega
              have HOf := Lib.hid (HO5.out.store (S := pbs[i]) (by simp) ho6 hs6)
              clear hR6 ho6 hb6 HA5 HS5
              go_wp2_with fail
              refine ⟨⟨i + 1, by omega, by go_num, by rw [HN.out], ?_, hbf, hszf, HOf, ?_⟩, by simp [intOf]; omega⟩
              · rw [HN.out]
                show SpAt _ _ _ _ _ _ _
                rw [HX.out]
                exact HA6.out
              · show _ ∧ _
                rw [HN.out]
                have := HCR.out
                have := si.onto_chg i r
                simp only at *
                omega
            · have HX : Hid (si.onto i r = (si.moved i 1).setRole i r) := by show _ = _; rw [HX.out, hst]; rfl
              have HMV := Lib.hid (moved_any B S g cap pbs w4 si HW4.out i hip 1 (by have := HCR.out; have := hp; omega))
              go_wp2_with fail
              refine HMV.out.mono ?_
              rintro e w5 ⟨rfl, hA5, hb5, ho5⟩
              have HA5 := Lib.hid hA5
              have hb5B := hb4B.trans hb5
              have HO5 := Lib.hid (HO4.out.trans (ho5.mono (by simp)))
              have hsz5 : B ≤ w5.heap.size := Nat.le_trans hsz4 ho5.1
              have c28' : w5.cell? ⟨pbs[i], 28, none⟩ = some (.int .i64 1) := by
                have := (HA5.out.ports i hip).2.cell 28
                rw [this]
                unfold SS.moved
                rw [SS.port_put _ _ _ _ (by have := hA5.len; simp only [SS.moved, SS.put_len] at this; show i < si.ports.length; omega), if_pos rfl]
                rfl
              clear hA5 hb5 ho5 HMV HW4 hb4B HO4 hsz4 HP4 c27 c28
              have HS5 := Lib.hid (HA5.out.ports i hip).2
              go_upto_region 14 with fail
              go_wp2_with ((with_reducible refine at_store 3 (.tmp 88) (.tmp 86) ?_); refine wpList_store_cell rfl 3 (.tmp 88) (.tmp 86) rfl (pbs[i]) 27 _ rfl rfl 143 _ HS5.out (show 27 < 30 by decide) (by kernel_rfl) rfl B (HA5.out.ports i hip).1 ?_)
              intro w6 hR6 ho6 hs6 hb6
              have HA6 : Hid (SpAt B S g cap pbs w6 ((si.moved i 1).setRole i r)) := by
                show SpAt _ _ _ _ _ _ _
                exact HA5.out.portSet hip hR6 ho6
              have hbf := hb5B.trans hb6
              have hszf : B ≤ w6.heap.size := by omega
              have HOf := Lib.hid (HO5.out.store (S := pbs[i]) (by simp) ho6 hs6)
              clear hR6 ho6 hb6 HA5 HS5
              go_wp2_with fail
              refine ⟨⟨i + 1, by omega, by go_num, by rw [HN.out], ?_, hbf, hszf, HOf, ?_⟩, by simp [intOf]; omega⟩
              · rw [HN.out]
                show SpAt _ _ _ _ _ _ _
                rw [HX.out]
                exact HA6.out
              · show _ ∧ _
                rw [HN.out]
                have := HCR.out
                have := si.onto_chg i r
                simp only at *
                omega
      · obtain rfl : i = s.ports.length := by omega
        go_wp2_with fail
        go_ret
        exact ⟨by rw [HF.out]; rfl, by rw [HF.out]; exact HW.out, hbR, HOR.out⟩
end Go.Proofs.YthfckdnennfnoaaGreatDoor
