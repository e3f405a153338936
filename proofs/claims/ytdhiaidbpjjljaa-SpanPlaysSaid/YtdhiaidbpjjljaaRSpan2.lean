/- causeyref17: found. By an AI agent. -/
import Derived.Test.YtdhiaidbpjjljaaRSpanP
import Derived.Test.YtdhiaidbpjjljaaRSpan1
import Derived.Deep.RegionHeld
namespace Go.Proofs.Ytdhiaidbpjjljaa
open Go.RowKit Go.WideShapes Go.Sort Grow

/-- what found holds: its two boxes, the best that was, and the ports -/
structure FAt (B g cap n b b4 : Nat) (old : SV) (w0 w : World) (s : SS) : Prop where
  box : RowIs w b 59 (s.rv (.slice (some ⟨g, 0, none⟩) n cap))
  ret : RowIs w (b + 1) 59 #[.int .u8 0, .int .u8 0, .int .u8 0, .int .u8 0, .int .u8 0, .int .u8 0, .int .u8 0, .int .u8 0, .int .i64 0, .int .i64 0, .int .i64 0, .int .i64 0, .int .i64 0, .slice none 0 0, .int .u8 0, .int .u8 0, .int .u8 0, .int .u8 0, .int .u8 0, .int .u8 0, .int .u8 0, .int .u8 0, .int .i64 0, .int .u8 0, .int .u8 0, .int .u8 0, .int .u8 0, .int .u8 0, .int .u8 0, .int .u8 0, .int .u8 0, .int .i64 0, .int .i64 0]
  best : RowIs w b4 57 old.cells
  ports : RAt B g cap w s.ports
  len : s.ports.length = n
  hg : g < b
  h4 : b + 1 < b4
  hw0 : w0.heap.size = b
  below : Below B w0 w
  only : Only [g] w0 w
section
variable {B g cap n b b4 : Nat} {old : SV} {w0 w w' : World} {s s' : SS}
theorem FAt.hB (h : FAt B g cap n b b4 old w0 w s) : B ≤ g := h.ports.hB
theorem FAt.later (h : FAt B g cap n b b4 old w0 w s) (hb : Below w.heap.size w w') : FAt B g cap n b b4 old w0 w' s :=
  ⟨h.box.kept hb, h.ret.kept hb, h.best.kept hb, h.ports.later hb, h.len, h.hg, h.h4, h.hw0, h.below.trans (hb.mono (by have := h.ports.hB; have := h.ports.lt; omega)), h.only.below hb⟩
theorem FAt.boxSet (h : FAt B g cap n b b4 old w0 w s) (hp : s'.ports = s.ports) (hr : RowIs w' b 59 (s'.rv (.slice (some ⟨g, 0, none⟩) n cap))) (ho : ∀ m, m ≠ b → w'.heap[m]? = w.heap[m]?) (hb : Below B w w') : FAt B g cap n b b4 old w0 w' s' :=
  ⟨hr, rowIs_same h.ret (ho _ (by omega)), rowIs_same h.best (ho _ (by have := h.h4; omega)), by rw [hp]; exact h.ports.same (ho _ (by have := h.hg; omega)), by rw [hp]; exact h.len, h.hg, h.h4, h.hw0, h.below.trans hb, ⟨Nat.le_trans h.only.1 hb.size, fun j hj hn => (ho j (by have := h.hw0; omega)).trans (h.only.2 j hj hn)⟩⟩
theorem FAt.free (h : FAt B g cap n b b4 old w0 w s) {k : Nat} (hk : b4 < k) (ho : ∀ m, m ≠ k → w'.heap[m]? = w.heap[m]?) (hb : Below B w w') : FAt B g cap n b b4 old w0 w' s :=
  ⟨rowIs_same h.box (ho _ (by have := h.h4; omega)), rowIs_same h.ret (ho _ (by have := h.h4; omega)), rowIs_same h.best (ho _ (by omega)), h.ports.same (ho _ (by have := h.hg; have := h.h4; omega)), h.len, h.hg, h.h4, h.hw0, h.below.trans hb, ⟨Nat.le_trans h.only.1 hb.size, fun j hj hn => (ho j (by have := h.hw0; have := h.h4; omega)).trans (h.only.2 j hj hn)⟩⟩
theorem putAt_all30 (old vs : List Value) (h1 : old.length = 30) (h2 : vs.length = 30) : putAt old 0 vs = vs := by
  unfold putAt
  simp [h2, h1, List.drop_eq_nil_iff]
theorem FAt.putSet (h : FAt B g cap n b b4 old w0 w s) {i : Nat} {p : SP} (hr : RAt B g cap w' (s.ports.set i p)) (ho : ∀ m, m ≠ g → w'.heap[m]? = w.heap[m]?) (hb : Below B w w') : FAt B g cap n b b4 old w0 w' (s.put i p) :=
  ⟨rowIs_same h.box (ho _ (by have := h.hg; omega)), rowIs_same h.ret (ho _ (by have := h.hg; omega)), rowIs_same h.best (ho _ (by have := h.hg; have := h.h4; omega)), hr, by rw [SS.put_len]; exact h.len, h.hg, h.h4, h.hw0, h.below.trans hb, ⟨Nat.le_trans h.only.1 hb.size, fun j hj hn => (ho j (by simpa using hn)).trans (h.only.2 j hj hn)⟩⟩
end

set_option maxRecDepth 20000 in
set_option maxHeartbeats 16000000 in
theorem refFound_any (B g cap : Nat) (s : SS) (w : World) (hR : RAt B g cap w s.ports) (hl : s.ports.length ≤ 1000) (hF : s.Fit) (hc : 0 ≤ s.chg ∧ s.chg ≤ 999990000) :
    Calls Try.prog 37 #[.agg #[.int .u8 ((s.id.f 0).toNat : Int), .int .u8 ((s.id.f 1).toNat : Int), .int .u8 ((s.id.f 2).toNat : Int), .int .u8 ((s.id.f 3).toNat : Int), .int .u8 ((s.id.f 4).toNat : Int), .int .u8 ((s.id.f 5).toNat : Int), .int .u8 ((s.id.f 6).toNat : Int), .int .u8 ((s.id.f 7).toNat : Int), .int .i64 s.ma, .int .i64 s.he, .int .i64 s.de, .int .i64 s.now, .int .i64 s.chg, (.slice (some ⟨g, 0, none⟩) s.ports.length cap), .int .u8 ((s.best.r.f 0).toNat : Int), .int .u8 ((s.best.r.f 1).toNat : Int), .int .u8 ((s.best.r.f 2).toNat : Int), .int .u8 ((s.best.r.f 3).toNat : Int), .int .u8 ((s.best.r.f 4).toNat : Int), .int .u8 ((s.best.r.f 5).toNat : Int), .int .u8 ((s.best.r.f 6).toNat : Int), .int .u8 ((s.best.r.f 7).toNat : Int), .int .i64 s.best.c, .int .u8 ((s.best.b.f 0).toNat : Int), .int .u8 ((s.best.b.f 1).toNat : Int), .int .u8 ((s.best.b.f 2).toNat : Int), .int .u8 ((s.best.b.f 3).toNat : Int), .int .u8 ((s.best.b.f 4).toNat : Int), .int .u8 ((s.best.b.f 5).toNat : Int), .int .u8 ((s.best.b.f 6).toNat : Int), .int .u8 ((s.best.b.f 7).toNat : Int), .int .i64 s.best.p, .int .i64 s.root]] w fun e w' => e = .returned (.tuple #[.agg #[.int .u8 ((s.found.1.id.f 0).toNat : Int), .int .u8 ((s.found.1.id.f 1).toNat : Int), .int .u8 ((s.found.1.id.f 2).toNat : Int), .int .u8 ((s.found.1.id.f 3).toNat : Int), .int .u8 ((s.found.1.id.f 4).toNat : Int), .int .u8 ((s.found.1.id.f 5).toNat : Int), .int .u8 ((s.found.1.id.f 6).toNat : Int), .int .u8 ((s.found.1.id.f 7).toNat : Int), .int .i64 s.found.1.ma, .int .i64 s.found.1.he, .int .i64 s.found.1.de, .int .i64 s.found.1.now, .int .i64 s.found.1.chg, (.slice (some ⟨g, 0, none⟩) s.ports.length cap), .int .u8 ((s.found.1.best.r.f 0).toNat : Int), .int .u8 ((s.found.1.best.r.f 1).toNat : Int), .int .u8 ((s.found.1.best.r.f 2).toNat : Int), .int .u8 ((s.found.1.best.r.f 3).toNat : Int), .int .u8 ((s.found.1.best.r.f 4).toNat : Int), .int .u8 ((s.found.1.best.r.f 5).toNat : Int), .int .u8 ((s.found.1.best.r.f 6).toNat : Int), .int .u8 ((s.found.1.best.r.f 7).toNat : Int), .int .i64 s.found.1.best.c, .int .u8 ((s.found.1.best.b.f 0).toNat : Int), .int .u8 ((s.found.1.best.b.f 1).toNat : Int), .int .u8 ((s.found.1.best.b.f 2).toNat : Int), .int .u8 ((s.found.1.best.b.f 3).toNat : Int), .int .u8 ((s.found.1.best.b.f 4).toNat : Int), .int .u8 ((s.found.1.best.b.f 5).toNat : Int), .int .u8 ((s.found.1.best.b.f 6).toNat : Int), .int .u8 ((s.found.1.best.b.f 7).toNat : Int), .int .i64 s.found.1.best.p, .int .i64 s.found.1.root], .bool s.found.2]) ∧ RAt B g cap w' s.found.1.ports ∧ Below B w w' ∧ Only [g] w w' := by
  have HR := Lib.hid hR
  have hg := hR.lt
  have hBw : B ≤ w.heap.size := by have := hR.hB; omega
  clear hR
  go_enter Try.func37, Try.ntmps37
  go_upto_region 1 with fail
  generalize hW : (w.alloc _).alloc _ = W
  have hbW : Below w.heap.size w W := by rw [← hW]; exact ((Below.refl _ _).alloc (Nat.le_refl _) _).alloc (by simp) _
  have R1 : RowIs W w.heap.size 59 #[.int .u8 ((s.id.f 0).toNat : Int), .int .u8 ((s.id.f 1).toNat : Int), .int .u8 ((s.id.f 2).toNat : Int), .int .u8 ((s.id.f 3).toNat : Int), .int .u8 ((s.id.f 4).toNat : Int), .int .u8 ((s.id.f 5).toNat : Int), .int .u8 ((s.id.f 6).toNat : Int), .int .u8 ((s.id.f 7).toNat : Int), .int .i64 s.ma, .int .i64 s.he, .int .i64 s.de, .int .i64 s.now, .int .i64 s.chg, (.slice (some ⟨g, 0, none⟩) s.ports.length cap), .int .u8 ((s.best.r.f 0).toNat : Int), .int .u8 ((s.best.r.f 1).toNat : Int), .int .u8 ((s.best.r.f 2).toNat : Int), .int .u8 ((s.best.r.f 3).toNat : Int), .int .u8 ((s.best.r.f 4).toNat : Int), .int .u8 ((s.best.r.f 5).toNat : Int), .int .u8 ((s.best.r.f 6).toNat : Int), .int .u8 ((s.best.r.f 7).toNat : Int), .int .i64 s.best.c, .int .u8 ((s.best.b.f 0).toNat : Int), .int .u8 ((s.best.b.f 1).toNat : Int), .int .u8 ((s.best.b.f 2).toNat : Int), .int .u8 ((s.best.b.f 3).toNat : Int), .int .u8 ((s.best.b.f 4).toNat : Int), .int .u8 ((s.best.b.f 5).toNat : Int), .int .u8 ((s.best.b.f 6).toNat : Int), .int .u8 ((s.best.b.f 7).toNat : Int), .int .i64 s.best.p, .int .i64 s.root] := by subst hW; exact (rowIs_new w _ _).alloc _
  have R2 : RowIs W (w.heap.size + 1) 59 #[.int .u8 0, .int .u8 0, .int .u8 0, .int .u8 0, .int .u8 0, .int .u8 0, .int .u8 0, .int .u8 0, .int .i64 0, .int .i64 0, .int .i64 0, .int .i64 0, .int .i64 0, .slice none 0 0, .int .u8 0, .int .u8 0, .int .u8 0, .int .u8 0, .int .u8 0, .int .u8 0, .int .u8 0, .int .u8 0, .int .i64 0, .int .u8 0, .int .u8 0, .int .u8 0, .int .u8 0, .int .u8 0, .int .u8 0, .int .u8 0, .int .u8 0, .int .i64 0, .int .i64 0] := by subst hW; exact rowIs_new1 w _ _ _
  have hWs : w.heap.size + 1 < W.heap.size := R2.lt
  clear hW
  have RD : RowIs W.drew w.heap.size 59 #[.int .u8 ((s.id.f 0).toNat : Int), .int .u8 ((s.id.f 1).toNat : Int), .int .u8 ((s.id.f 2).toNat : Int), .int .u8 ((s.id.f 3).toNat : Int), .int .u8 ((s.id.f 4).toNat : Int), .int .u8 ((s.id.f 5).toNat : Int), .int .u8 ((s.id.f 6).toNat : Int), .int .u8 ((s.id.f 7).toNat : Int), .int .i64 s.ma, .int .i64 s.he, .int .i64 s.de, .int .i64 s.now, .int .i64 s.chg, (.slice (some ⟨g, 0, none⟩) s.ports.length cap), .int .u8 ((s.best.r.f 0).toNat : Int), .int .u8 ((s.best.r.f 1).toNat : Int), .int .u8 ((s.best.r.f 2).toNat : Int), .int .u8 ((s.best.r.f 3).toNat : Int), .int .u8 ((s.best.r.f 4).toNat : Int), .int .u8 ((s.best.r.f 5).toNat : Int), .int .u8 ((s.best.r.f 6).toNat : Int), .int .u8 ((s.best.r.f 7).toNat : Int), .int .i64 s.best.c, .int .u8 ((s.best.b.f 0).toNat : Int), .int .u8 ((s.best.b.f 1).toNat : Int), .int .u8 ((s.best.b.f 2).toNat : Int), .int .u8 ((s.best.b.f 3).toNat : Int), .int .u8 ((s.best.b.f 4).toNat : Int), .int .u8 ((s.best.b.f 5).toNat : Int), .int .u8 ((s.best.b.f 6).toNat : Int), .int .u8 ((s.best.b.f 7).toNat : Int), .int .i64 s.best.p, .int .i64 s.root] := R1.kept (Below.refl _ _).drew
  have RD' := RD
  have hN : RowIs ((W.alloc (.cells #[.int .u8 0, .int .u8 0, .int .u8 0, .int .u8 0, .int .u8 0, .int .u8 0, .int .u8 0, .int .u8 0, .int .i64 0, .int .u8 0, .int .u8 0, .int .u8 0, .int .u8 0, .int .u8 0, .int .u8 0, .int .u8 0, .int .u8 0, .int .i64 0] 57)).drew) W.heap.size 57 #[.int .u8 0, .int .u8 0, .int .u8 0, .int .u8 0, .int .u8 0, .int .u8 0, .int .u8 0, .int .u8 0, .int .i64 0, .int .u8 0, .int .u8 0, .int .u8 0, .int .u8 0, .int .u8 0, .int .u8 0, .int .u8 0, .int .u8 0, .int .i64 0] := (rowIs_new W 57 #[.int .u8 0, .int .u8 0, .int .u8 0, .int .u8 0, .int .u8 0, .int .u8 0, .int .u8 0, .int .u8 0, .int .i64 0, .int .u8 0, .int .u8 0, .int .u8 0, .int .u8 0, .int .u8 0, .int .u8 0, .int .u8 0, .int .u8 0, .int .i64 0]).drew
  have hbN : Below W.heap.size W ((W.alloc (.cells #[.int .u8 0, .int .u8 0, .int .u8 0, .int .u8 0, .int .u8 0, .int .u8 0, .int .u8 0, .int .u8 0, .int .i64 0, .int .u8 0, .int .u8 0, .int .u8 0, .int .u8 0, .int .u8 0, .int .u8 0, .int .u8 0, .int .u8 0, .int .i64 0] 57)).drew) := ((Below.refl _ _).alloc (Nat.le_refl _) _).drew
  refine wp_region_held (S := fun w' => RowIs w' w.heap.size 59 #[.int .u8 ((s.id.f 0).toNat : Int), .int .u8 ((s.id.f 1).toNat : Int), .int .u8 ((s.id.f 2).toNat : Int), .int .u8 ((s.id.f 3).toNat : Int), .int .u8 ((s.id.f 4).toNat : Int), .int .u8 ((s.id.f 5).toNat : Int), .int .u8 ((s.id.f 6).toNat : Int), .int .u8 ((s.id.f 7).toNat : Int), .int .i64 s.ma, .int .i64 s.he, .int .i64 s.de, .int .i64 s.now, .int .i64 s.chg, (.slice (some ⟨g, 0, none⟩) s.ports.length cap), .int .u8 ((s.best.r.f 0).toNat : Int), .int .u8 ((s.best.r.f 1).toNat : Int), .int .u8 ((s.best.r.f 2).toNat : Int), .int .u8 ((s.best.r.f 3).toNat : Int), .int .u8 ((s.best.r.f 4).toNat : Int), .int .u8 ((s.best.r.f 5).toNat : Int), .int .u8 ((s.best.r.f 6).toNat : Int), .int .u8 ((s.best.r.f 7).toNat : Int), .int .i64 s.best.c, .int .u8 ((s.best.b.f 0).toNat : Int), .int .u8 ((s.best.b.f 1).toNat : Int), .int .u8 ((s.best.b.f 2).toNat : Int), .int .u8 ((s.best.b.f 3).toNat : Int), .int .u8 ((s.best.b.f 4).toNat : Int), .int .u8 ((s.best.b.f 5).toNat : Int), .int .u8 ((s.best.b.f 6).toNat : Int), .int .u8 ((s.best.b.f 7).toNat : Int), .int .i64 s.best.p, .int .i64 s.root]) (by kernel_rfl) ?_
  change wpAnyH _ _ _ _ _ _ _ _ W.drew
  refine wpAnyH_take (i := 0) (v := .pointer (some ⟨w.heap.size, 14, none⟩)) rfl (by kernel_rfl) (by kernel_rfl) (by kernel_rfl) (fun _ _ _ h => h) (Or.inl ⟨by rfl, fun w' hS' => by go_simp⟩) RD ?_
  (try simp only [Act.put, List.setIfInBounds_toArray, List.set_cons_zero, List.set_cons_succ])
  refine wpAnyH_take (i := 1) (v := .agg #[.int .u8 ((s.best.r.f 0).toNat : Int), .int .u8 ((s.best.r.f 1).toNat : Int), .int .u8 ((s.best.r.f 2).toNat : Int), .int .u8 ((s.best.r.f 3).toNat : Int), .int .u8 ((s.best.r.f 4).toNat : Int), .int .u8 ((s.best.r.f 5).toNat : Int), .int .u8 ((s.best.r.f 6).toNat : Int), .int .u8 ((s.best.r.f 7).toNat : Int), .int .i64 s.best.c, .int .u8 ((s.best.b.f 0).toNat : Int), .int .u8 ((s.best.b.f 1).toNat : Int), .int .u8 ((s.best.b.f 2).toNat : Int), .int .u8 ((s.best.b.f 3).toNat : Int), .int .u8 ((s.best.b.f 4).toNat : Int), .int .u8 ((s.best.b.f 5).toNat : Int), .int .u8 ((s.best.b.f 6).toNat : Int), .int .u8 ((s.best.b.f 7).toNat : Int), .int .i64 s.best.p]) rfl (by kernel_rfl) (by kernel_rfl) (by kernel_rfl) (fun _ _ _ h => h) (yieldsIf_load_mid rfl _ _ rfl w.heap.size 14 rfl [.int .u8 ((s.best.r.f 0).toNat : Int), .int .u8 ((s.best.r.f 1).toNat : Int), .int .u8 ((s.best.r.f 2).toNat : Int), .int .u8 ((s.best.r.f 3).toNat : Int), .int .u8 ((s.best.r.f 4).toNat : Int), .int .u8 ((s.best.r.f 5).toNat : Int), .int .u8 ((s.best.r.f 6).toNat : Int), .int .u8 ((s.best.r.f 7).toNat : Int), .int .i64 s.best.c, .int .u8 ((s.best.b.f 0).toNat : Int), .int .u8 ((s.best.b.f 1).toNat : Int), .int .u8 ((s.best.b.f 2).toNat : Int), .int .u8 ((s.best.b.f 3).toNat : Int), .int .u8 ((s.best.b.f 4).toNat : Int), .int .u8 ((s.best.b.f 5).toNat : Int), .int .u8 ((s.best.b.f 6).toNat : Int), .int .u8 ((s.best.b.f 7).toNat : Int), .int .i64 s.best.p] _ (fun w' (hS' : RowIs w' w.heap.size 59 #[.int .u8 ((s.id.f 0).toNat : Int), .int .u8 ((s.id.f 1).toNat : Int), .int .u8 ((s.id.f 2).toNat : Int), .int .u8 ((s.id.f 3).toNat : Int), .int .u8 ((s.id.f 4).toNat : Int), .int .u8 ((s.id.f 5).toNat : Int), .int .u8 ((s.id.f 6).toNat : Int), .int .u8 ((s.id.f 7).toNat : Int), .int .i64 s.ma, .int .i64 s.he, .int .i64 s.de, .int .i64 s.now, .int .i64 s.chg, (.slice (some ⟨g, 0, none⟩) s.ports.length cap), .int .u8 ((s.best.r.f 0).toNat : Int), .int .u8 ((s.best.r.f 1).toNat : Int), .int .u8 ((s.best.r.f 2).toNat : Int), .int .u8 ((s.best.r.f 3).toNat : Int), .int .u8 ((s.best.r.f 4).toNat : Int), .int .u8 ((s.best.r.f 5).toNat : Int), .int .u8 ((s.best.r.f 6).toNat : Int), .int .u8 ((s.best.r.f 7).toNat : Int), .int .i64 s.best.c, .int .u8 ((s.best.b.f 0).toNat : Int), .int .u8 ((s.best.b.f 1).toNat : Int), .int .u8 ((s.best.b.f 2).toNat : Int), .int .u8 ((s.best.b.f 3).toNat : Int), .int .u8 ((s.best.b.f 4).toNat : Int), .int .u8 ((s.best.b.f 5).toNat : Int), .int .u8 ((s.best.b.f 6).toNat : Int), .int .u8 ((s.best.b.f 7).toNat : Int), .int .i64 s.best.p, .int .i64 s.root]) => range_of_row hS' rfl) Try.underlying57 rfl (by kernel_rfl)) RD ?_
  (try simp only [Act.put, List.setIfInBounds_toArray, List.set_cons_zero, List.set_cons_succ])
  refine wpAnyH_take (i := 2) (v := .pointer (some ⟨w.heap.size, 32, none⟩)) rfl (by kernel_rfl) (by kernel_rfl) (by kernel_rfl) (fun _ _ _ h => h) (Or.inl ⟨by rfl, fun w' hS' => by go_simp⟩) RD ?_
  (try simp only [Act.put, List.setIfInBounds_toArray, List.set_cons_zero, List.set_cons_succ])
  refine wpAnyH_take (i := 3) (v := .int .i64 s.root) rfl (by kernel_rfl) (by kernel_rfl) (by kernel_rfl) (fun _ _ _ h => h) (Or.inl ⟨by rfl, fun w' (hS' : RowIs w' w.heap.size 59 #[.int .u8 ((s.id.f 0).toNat : Int), .int .u8 ((s.id.f 1).toNat : Int), .int .u8 ((s.id.f 2).toNat : Int), .int .u8 ((s.id.f 3).toNat : Int), .int .u8 ((s.id.f 4).toNat : Int), .int .u8 ((s.id.f 5).toNat : Int), .int .u8 ((s.id.f 6).toNat : Int), .int .u8 ((s.id.f 7).toNat : Int), .int .i64 s.ma, .int .i64 s.he, .int .i64 s.de, .int .i64 s.now, .int .i64 s.chg, (.slice (some ⟨g, 0, none⟩) s.ports.length cap), .int .u8 ((s.best.r.f 0).toNat : Int), .int .u8 ((s.best.r.f 1).toNat : Int), .int .u8 ((s.best.r.f 2).toNat : Int), .int .u8 ((s.best.r.f 3).toNat : Int), .int .u8 ((s.best.r.f 4).toNat : Int), .int .u8 ((s.best.r.f 5).toNat : Int), .int .u8 ((s.best.r.f 6).toNat : Int), .int .u8 ((s.best.r.f 7).toNat : Int), .int .i64 s.best.c, .int .u8 ((s.best.b.f 0).toNat : Int), .int .u8 ((s.best.b.f 1).toNat : Int), .int .u8 ((s.best.b.f 2).toNat : Int), .int .u8 ((s.best.b.f 3).toNat : Int), .int .u8 ((s.best.b.f 4).toNat : Int), .int .u8 ((s.best.b.f 5).toNat : Int), .int .u8 ((s.best.b.f 6).toNat : Int), .int .u8 ((s.best.b.f 7).toNat : Int), .int .i64 s.best.p, .int .i64 s.root]) => by have k : w'.cell? ⟨w.heap.size, 32, none⟩ = some (.int .i64 s.root) := hS'.cell 32; clear hS'; go_simp⟩) RD ?_
  (try simp only [Act.put, List.setIfInBounds_toArray, List.set_cons_zero, List.set_cons_succ])
  refine wpAnyH_ready (rs := [4]) (by kernel_rfl) (by simp) ?_
  refine AllReadyH.cons rfl (fun K hK => ?_) AllReadyH.nil
  go_simp
  refine hK.out _ _ ?_ (fun RD2 => ?_)
  · exact (RD'.alloc _)
  clear hK K RD
  refine wpAnyH_ready (rs := [5]) (by kernel_rfl) (by simp) ?_
  refine AllReadyH.cons rfl (fun K hK => ?_) AllReadyH.nil
  rw [if_pos (by rfl)]
  refine wp_store_row 57 _ _ rfl W.heap.size #[.int .u8 ((s.best.r.f 0).toNat : Int), .int .u8 ((s.best.r.f 1).toNat : Int), .int .u8 ((s.best.r.f 2).toNat : Int), .int .u8 ((s.best.r.f 3).toNat : Int), .int .u8 ((s.best.r.f 4).toNat : Int), .int .u8 ((s.best.r.f 5).toNat : Int), .int .u8 ((s.best.r.f 6).toNat : Int), .int .u8 ((s.best.r.f 7).toNat : Int), .int .i64 s.best.c, .int .u8 ((s.best.b.f 0).toNat : Int), .int .u8 ((s.best.b.f 1).toNat : Int), .int .u8 ((s.best.b.f 2).toNat : Int), .int .u8 ((s.best.b.f 3).toNat : Int), .int .u8 ((s.best.b.f 4).toNat : Int), .int .u8 ((s.best.b.f 5).toNat : Int), .int .u8 ((s.best.b.f 6).toNat : Int), .int .u8 ((s.best.b.f 7).toNat : Int), .int .i64 s.best.p] rfl rfl 57 _ hN (by kernel_rfl) rfl (by simp [Value.oneCell']) ?_
  refine hK.out _ _ (rowIs_same RD2 (setRow_other _ W.heap.size w.heap.size _ (by omega))) (fun RD3 => ?_)
  have hN3 : RowIs ((W.alloc (.cells #[.int .u8 0, .int .u8 0, .int .u8 0, .int .u8 0, .int .u8 0, .int .u8 0, .int .u8 0, .int .u8 0, .int .i64 0, .int .u8 0, .int .u8 0, .int .u8 0, .int .u8 0, .int .u8 0, .int .u8 0, .int .u8 0, .int .u8 0, .int .i64 0] 57)).drew.setRow W.heap.size #[.int .u8 ((s.best.r.f 0).toNat : Int), .int .u8 ((s.best.r.f 1).toNat : Int), .int .u8 ((s.best.r.f 2).toNat : Int), .int .u8 ((s.best.r.f 3).toNat : Int), .int .u8 ((s.best.r.f 4).toNat : Int), .int .u8 ((s.best.r.f 5).toNat : Int), .int .u8 ((s.best.r.f 6).toNat : Int), .int .u8 ((s.best.r.f 7).toNat : Int), .int .i64 s.best.c, .int .u8 ((s.best.b.f 0).toNat : Int), .int .u8 ((s.best.b.f 1).toNat : Int), .int .u8 ((s.best.b.f 2).toNat : Int), .int .u8 ((s.best.b.f 3).toNat : Int), .int .u8 ((s.best.b.f 4).toNat : Int), .int .u8 ((s.best.b.f 5).toNat : Int), .int .u8 ((s.best.b.f 6).toNat : Int), .int .u8 ((s.best.b.f 7).toNat : Int), .int .i64 s.best.p]) W.heap.size 57 #[.int .u8 ((s.best.r.f 0).toNat : Int), .int .u8 ((s.best.r.f 1).toNat : Int), .int .u8 ((s.best.r.f 2).toNat : Int), .int .u8 ((s.best.r.f 3).toNat : Int), .int .u8 ((s.best.r.f 4).toNat : Int), .int .u8 ((s.best.r.f 5).toNat : Int), .int .u8 ((s.best.r.f 6).toNat : Int), .int .u8 ((s.best.r.f 7).toNat : Int), .int .i64 s.best.c, .int .u8 ((s.best.b.f 0).toNat : Int), .int .u8 ((s.best.b.f 1).toNat : Int), .int .u8 ((s.best.b.f 2).toNat : Int), .int .u8 ((s.best.b.f 3).toNat : Int), .int .u8 ((s.best.b.f 4).toNat : Int), .int .u8 ((s.best.b.f 5).toNat : Int), .int .u8 ((s.best.b.f 6).toNat : Int), .int .u8 ((s.best.b.f 7).toNat : Int), .int .i64 s.best.p] := setRow_heap _ W.heap.size _ _ _ (0, 0) hN
  have hbN3 := below_setRow (B := W.heap.size) hbN (Nat.le_refl _) #[.int .u8 ((s.best.r.f 0).toNat : Int), .int .u8 ((s.best.r.f 1).toNat : Int), .int .u8 ((s.best.r.f 2).toNat : Int), .int .u8 ((s.best.r.f 3).toNat : Int), .int .u8 ((s.best.r.f 4).toNat : Int), .int .u8 ((s.best.r.f 5).toNat : Int), .int .u8 ((s.best.r.f 6).toNat : Int), .int .u8 ((s.best.r.f 7).toNat : Int), .int .i64 s.best.c, .int .u8 ((s.best.b.f 0).toNat : Int), .int .u8 ((s.best.b.f 1).toNat : Int), .int .u8 ((s.best.b.f 2).toNat : Int), .int .u8 ((s.best.b.f 3).toNat : Int), .int .u8 ((s.best.b.f 4).toNat : Int), .int .u8 ((s.best.b.f 5).toNat : Int), .int .u8 ((s.best.b.f 6).toNat : Int), .int .u8 ((s.best.b.f 7).toNat : Int), .int .i64 s.best.p]
  have HN3 := Lib.hid hN3
  clear hN3 hN hbN RD2 RD' hK K
  generalize (W.alloc (.cells #[.int .u8 0, .int .u8 0, .int .u8 0, .int .u8 0, .int .u8 0, .int .u8 0, .int .u8 0, .int .u8 0, .int .i64 0, .int .u8 0, .int .u8 0, .int .u8 0, .int .u8 0, .int .u8 0, .int .u8 0, .int .u8 0, .int .u8 0, .int .i64 0] 57)).drew.setRow W.heap.size #[.int .u8 ((s.best.r.f 0).toNat : Int), .int .u8 ((s.best.r.f 1).toNat : Int), .int .u8 ((s.best.r.f 2).toNat : Int), .int .u8 ((s.best.r.f 3).toNat : Int), .int .u8 ((s.best.r.f 4).toNat : Int), .int .u8 ((s.best.r.f 5).toNat : Int), .int .u8 ((s.best.r.f 6).toNat : Int), .int .u8 ((s.best.r.f 7).toNat : Int), .int .i64 s.best.c, .int .u8 ((s.best.b.f 0).toNat : Int), .int .u8 ((s.best.b.f 1).toNat : Int), .int .u8 ((s.best.b.f 2).toNat : Int), .int .u8 ((s.best.b.f 3).toNat : Int), .int .u8 ((s.best.b.f 4).toNat : Int), .int .u8 ((s.best.b.f 5).toNat : Int), .int .u8 ((s.best.b.f 6).toNat : Int), .int .u8 ((s.best.b.f 7).toNat : Int), .int .i64 s.best.p] = w1 at *
  (try simp only [Act.put, List.setIfInBounds_toArray, List.set_cons_zero, List.set_cons_succ])
  refine wpAnyH_take (i := 6) (v := .int .i64 s.root) rfl (by kernel_rfl) (by kernel_rfl) (by kernel_rfl) (fun _ _ _ h => h) (Or.inl ⟨by rfl, fun w' hS' => by go_simp⟩) RD3 ?_
  refine wpAnyH_done (by kernel_rfl) ?_ _
  (try simp only [Act.put, List.setIfInBounds_toArray, List.set_cons_zero, List.set_cons_succ])
  clear RD3
  have hb1 := hbW.trans (hbN3.mono hbW.size)
  have HF : Hid (FAt B g cap s.ports.length w.heap.size W.heap.size s.best w w1 s) := ⟨R1.kept hbN3, R2.kept hbN3, HN3.out, HR.out.later hb1, rfl, hg, hWs, rfl, hb1.mono hBw, (Only.refl _ w).below hb1⟩
  clear HN3 hbN3 hb1 R1 R2 hbW HR hWs hg
  generalize W.heap.size = b4 at *
  clear W
  go_wp2_with (first
    | ((with_reducible refine at_load 22 (.tmp 19) ?_); refine wpList_load_mid rfl 22 (.tmp 19) rfl (w.heap.size) (0) rfl [.int .u8 ((s.id.f 0).toNat : Int), .int .u8 ((s.id.f 1).toNat : Int), .int .u8 ((s.id.f 2).toNat : Int), .int .u8 ((s.id.f 3).toNat : Int), .int .u8 ((s.id.f 4).toNat : Int), .int .u8 ((s.id.f 5).toNat : Int), .int .u8 ((s.id.f 6).toNat : Int), .int .u8 ((s.id.f 7).toNat : Int)] _ (range_of_row HF.out.box rfl) Try.underlying22 rfl (by kernel_rfl) ?_)
    | ((with_reducible refine at_load 22 (.tmp 21) ?_); refine wpList_load_mid rfl 22 (.tmp 21) rfl (w.heap.size) (0) rfl [.int .u8 ((s.id.f 0).toNat : Int), .int .u8 ((s.id.f 1).toNat : Int), .int .u8 ((s.id.f 2).toNat : Int), .int .u8 ((s.id.f 3).toNat : Int), .int .u8 ((s.id.f 4).toNat : Int), .int .u8 ((s.id.f 5).toNat : Int), .int .u8 ((s.id.f 6).toNat : Int), .int .u8 ((s.id.f 7).toNat : Int)] _ (range_of_row HF.out.box rfl) Try.underlying22 rfl (by kernel_rfl) ?_)
    | ((with_reducible refine at_store 57 (.tmp 24) (.tmp 23) ?_); refine wpList_store_part rfl 57 (.tmp 24) (.tmp 23) rfl (w.heap.size) 14 _ rfl rfl 59 _ HF.out.box (show 14 + 18 ≤ 33 by decide) (by kernel_rfl) (by simp [Value.oneCell']) (((s.at (s.own, s.root)).rv (.slice (some ⟨g, 0, none⟩) s.ports.length cap))) (by kernel_rfl) (B) hBw ?_))
  intro w2 hR2 ho2 hs2 hb2
  have HF2 := Lib.hid (HF.out.boxSet (s' := s.at (s.own, s.root)) rfl hR2 ho2 hb2)
  clear hR2 ho2 hs2 hb2 HF
  go_wp2_with ((with_reducible refine at_store 3 (.tmp 25) (.const (.int .i64 (-1))) ?_); refine wpList_store_cell rfl 3 (.tmp 25) (.const (.int .i64 (-1))) rfl (w.heap.size) 32 (.int .i64 (-1)) rfl rfl 59 _ HF2.out.box (show 32 < 33 from by decide) (by kernel_rfl) rfl (B) hBw ?_)
  intro w3 hR3 ho3 hs3 hb3
  have HF3 : Hid (FAt B g cap s.ports.length w.heap.size b4 s.best w w3 (s.at (rootF s 0))) := HF2.out.boxSet (s' := s.at (s.own, -1)) rfl hR3 ho3 hb3
  clear hR3 ho3 hs3 hb3 HF2
  have c13 : w3.cell? ⟨w.heap.size, 13, none⟩ = some (.slice (some ⟨g, 0, none⟩) s.ports.length cap) := HF3.out.box.cell 13
  go_upto_region 5 with fail
  clear c13
  go_loopw [6] (fun v6 wr => ∃ i : Nat, i ≤ s.ports.length ∧ v6 = .int .i64 i ∧ Hid (FAt B g cap s.ports.length w.heap.size b4 s.best w wr (s.at (rootF s i)))) (fun v6 _ => s.ports.length - (intOf v6).toNat)
  case atStart => exact ⟨0, Nat.zero_le _, rfl, HF3⟩
  case round =>
    clear HF3
    rename World => wr
    obtain ⟨i, hi, rfl, HF⟩ := hrel
    have c13 : wr.cell? ⟨w.heap.size, 13, none⟩ = some (.slice (some ⟨g, 0, none⟩) s.ports.length cap) := HF.out.box.cell 13
    by_cases hlt : i < s.ports.length
    · have HRG : Hid (wr.rangeAt g (i * 30) (s.port i).rc) := by
        show World.rangeAt _ _ _ _
        rw [← SS.port_get s hlt]
        exact HF.out.ports.range hlt
      have hfit := hF i
      have HN : Hid (rootF s (i + 1) = rootStep s i (rootF s i)) := rfl
      have hov := hfit.over
      have HST0 : rootStep s i (rootF s i) = if ((s.port i).up && (s.port i).heard && (s.port i).over.better (rootF s i).1) = true then ((s.port i).over, (i : Int)) else rootF s i := rfl
      rw [hov] at HST0
      have HST := Lib.hid HST0
      clear HST0 hov
      generalize rootF s i = st at *
      generalize s.port i = p at *
      obtain ⟨pc, up, heard, pw, prole, pstate, psince⟩ := p
      obtain ⟨⟨hf1, hf2⟩, hf3, hf4⟩ := hfit
      simp only at HST hf1 hf2 hf3 hf4
      go_wp2_with (first
        | ((with_reducible refine at_load 75 (.tmp 36) ?_); refine wpList_load_midW rfl 75 (.tmp 36) rfl (g) ((i * 30)) rfl [.int .i64 pc, .int .i64 prole, .int .i64 pstate, .int .i64 psince, .bool up, .bool heard, .int .u8 ((pw.r.f 0).toNat : Int), .int .u8 ((pw.r.f 1).toNat : Int), .int .u8 ((pw.r.f 2).toNat : Int), .int .u8 ((pw.r.f 3).toNat : Int), .int .u8 ((pw.r.f 4).toNat : Int), .int .u8 ((pw.r.f 5).toNat : Int), .int .u8 ((pw.r.f 6).toNat : Int), .int .u8 ((pw.r.f 7).toNat : Int), .int .u8 ((pw.b.f 0).toNat : Int), .int .u8 ((pw.b.f 1).toNat : Int), .int .u8 ((pw.b.f 2).toNat : Int), .int .u8 ((pw.b.f 3).toNat : Int), .int .u8 ((pw.b.f 4).toNat : Int), .int .u8 ((pw.b.f 5).toNat : Int), .int .u8 ((pw.b.f 6).toNat : Int), .int .u8 ((pw.b.f 7).toNat : Int), .int .i64 pw.c, .int .i64 pw.p, .int .i64 pw.age, .int .i64 pw.ma, .int .i64 pw.he, .int .i64 pw.de, .bool pw.ch, .bool pw.ak] _ HRG.out Try.underlying75 rfl (by kernel_rfl) ?_)
        | ((with_reducible refine at_store 75 (.tmp 7) (.tmp 37) ?_); refine wpList_store_own rfl 75 (.tmp 7) (.tmp 37) rfl (wr.heap.size) _ rfl rfl _ _ (rowIs_new wr _ _) (by kernel_rfl) rfl (by simp [Value.oneCell']) (wr.heap.size) (Nat.le_refl _) ?_))
      intro w3 hR3 ho3 hs3 hb3
      have hbw : Below wr.heap.size wr w3 := ((Below.refl _ _).alloc (Nat.le_refl _) _).trans hb3
      have HP : Hid (RowIs w3 wr.heap.size 75 #[.int .i64 pc, .int .i64 prole, .int .i64 pstate, .int .i64 psince, .bool up, .bool heard, .int .u8 ((pw.r.f 0).toNat : Int), .int .u8 ((pw.r.f 1).toNat : Int), .int .u8 ((pw.r.f 2).toNat : Int), .int .u8 ((pw.r.f 3).toNat : Int), .int .u8 ((pw.r.f 4).toNat : Int), .int .u8 ((pw.r.f 5).toNat : Int), .int .u8 ((pw.r.f 6).toNat : Int), .int .u8 ((pw.r.f 7).toNat : Int), .int .u8 ((pw.b.f 0).toNat : Int), .int .u8 ((pw.b.f 1).toNat : Int), .int .u8 ((pw.b.f 2).toNat : Int), .int .u8 ((pw.b.f 3).toNat : Int), .int .u8 ((pw.b.f 4).toNat : Int), .int .u8 ((pw.b.f 5).toNat : Int), .int .u8 ((pw.b.f 6).toNat : Int), .int .u8 ((pw.b.f 7).toNat : Int), .int .i64 pw.c, .int .i64 pw.p, .int .i64 pw.age, .int .i64 pw.ma, .int .i64 pw.he, .int .i64 pw.de, .bool pw.ch, .bool pw.ak]) := hR3
      clear hR3 ho3 hs3 hb3 c13 HRG
      go_wp2_with ((with_reducible refine at_load 63 (.tmp 38) ?_); refine wpList_load_mid rfl 63 (.tmp 38) rfl (wr.heap.size) (6) rfl [.int .u8 ((pw.r.f 0).toNat : Int), .int .u8 ((pw.r.f 1).toNat : Int), .int .u8 ((pw.r.f 2).toNat : Int), .int .u8 ((pw.r.f 3).toNat : Int), .int .u8 ((pw.r.f 4).toNat : Int), .int .u8 ((pw.r.f 5).toNat : Int), .int .u8 ((pw.r.f 6).toNat : Int), .int .u8 ((pw.r.f 7).toNat : Int), .int .u8 ((pw.b.f 0).toNat : Int), .int .u8 ((pw.b.f 1).toNat : Int), .int .u8 ((pw.b.f 2).toNat : Int), .int .u8 ((pw.b.f 3).toNat : Int), .int .u8 ((pw.b.f 4).toNat : Int), .int .u8 ((pw.b.f 5).toNat : Int), .int .u8 ((pw.b.f 6).toNat : Int), .int .u8 ((pw.b.f 7).toNat : Int), .int .i64 pw.c, .int .i64 pw.p, .int .i64 pw.age, .int .i64 pw.ma, .int .i64 pw.he, .int .i64 pw.de, .bool pw.ch, .bool pw.ak] _ (range_of_row HP.out rfl) Try.underlying63 rfl (by kernel_rfl) ?_)
      refine (refVector_any pw _).mono ?_
      rintro e w4 ⟨rfl, hb4⟩
      have HP : Hid (RowIs w4 wr.heap.size 75 #[.int .i64 pc, .int .i64 prole, .int .i64 pstate, .int .i64 psince, .bool up, .bool heard, .int .u8 ((pw.r.f 0).toNat : Int), .int .u8 ((pw.r.f 1).toNat : Int), .int .u8 ((pw.r.f 2).toNat : Int), .int .u8 ((pw.r.f 3).toNat : Int), .int .u8 ((pw.r.f 4).toNat : Int), .int .u8 ((pw.r.f 5).toNat : Int), .int .u8 ((pw.r.f 6).toNat : Int), .int .u8 ((pw.r.f 7).toNat : Int), .int .u8 ((pw.b.f 0).toNat : Int), .int .u8 ((pw.b.f 1).toNat : Int), .int .u8 ((pw.b.f 2).toNat : Int), .int .u8 ((pw.b.f 3).toNat : Int), .int .u8 ((pw.b.f 4).toNat : Int), .int .u8 ((pw.b.f 5).toNat : Int), .int .u8 ((pw.b.f 6).toNat : Int), .int .u8 ((pw.b.f 7).toNat : Int), .int .i64 pw.c, .int .i64 pw.p, .int .i64 pw.age, .int .i64 pw.ma, .int .i64 pw.he, .int .i64 pw.de, .bool pw.ch, .bool pw.ak]) := HP.out.kept hb4
      have hlt4 : wr.heap.size < w4.heap.size := HP.out.lt
      have hbw := hbw.trans (hb4.mono hbw.size)
      clear hb4
      go_wp2_with ((with_reducible refine at_store 57 (.tmp 8) (.tmp 40) ?_); refine wpList_store_own rfl 57 (.tmp 8) (.tmp 40) rfl (w4.heap.size) _ rfl rfl _ _ (rowIs_new w4 _ _) (by kernel_rfl) rfl (by simp [Value.oneCell']) (w4.heap.size) (Nat.le_refl _) ?_)
      intro w5 hR5 ho5 hs5 hb5
      have hb5 : Below w4.heap.size w4 w5 := ((Below.refl _ _).alloc (Nat.le_refl _) _).trans hb5
      have HV : Hid (RowIs w5 w4.heap.size 57 #[.int .u8 ((pw.r.f 0).toNat : Int), .int .u8 ((pw.r.f 1).toNat : Int), .int .u8 ((pw.r.f 2).toNat : Int), .int .u8 ((pw.r.f 3).toNat : Int), .int .u8 ((pw.r.f 4).toNat : Int), .int .u8 ((pw.r.f 5).toNat : Int), .int .u8 ((pw.r.f 6).toNat : Int), .int .u8 ((pw.r.f 7).toNat : Int), .int .i64 pw.c, .int .u8 ((pw.b.f 0).toNat : Int), .int .u8 ((pw.b.f 1).toNat : Int), .int .u8 ((pw.b.f 2).toNat : Int), .int .u8 ((pw.b.f 3).toNat : Int), .int .u8 ((pw.b.f 4).toNat : Int), .int .u8 ((pw.b.f 5).toNat : Int), .int .u8 ((pw.b.f 6).toNat : Int), .int .u8 ((pw.b.f 7).toNat : Int), .int .i64 pw.p]) := hR5
      have HP : Hid (RowIs w5 wr.heap.size 75 #[.int .i64 pc, .int .i64 prole, .int .i64 pstate, .int .i64 psince, .bool up, .bool heard, .int .u8 ((pw.r.f 0).toNat : Int), .int .u8 ((pw.r.f 1).toNat : Int), .int .u8 ((pw.r.f 2).toNat : Int), .int .u8 ((pw.r.f 3).toNat : Int), .int .u8 ((pw.r.f 4).toNat : Int), .int .u8 ((pw.r.f 5).toNat : Int), .int .u8 ((pw.r.f 6).toNat : Int), .int .u8 ((pw.r.f 7).toNat : Int), .int .u8 ((pw.b.f 0).toNat : Int), .int .u8 ((pw.b.f 1).toNat : Int), .int .u8 ((pw.b.f 2).toNat : Int), .int .u8 ((pw.b.f 3).toNat : Int), .int .u8 ((pw.b.f 4).toNat : Int), .int .u8 ((pw.b.f 5).toNat : Int), .int .u8 ((pw.b.f 6).toNat : Int), .int .u8 ((pw.b.f 7).toNat : Int), .int .i64 pw.c, .int .i64 pw.p, .int .i64 pw.age, .int .i64 pw.ma, .int .i64 pw.he, .int .i64 pw.de, .bool pw.ch, .bool pw.ak]) := HP.out.kept hb5
      have hbw := hbw.trans (hb5.mono hbw.size)
      clear hR5 ho5 hs5 hb5
      have v8 : w5.cell? ⟨w4.heap.size, 8, none⟩ = some (.int .i64 pw.c) := HV.out.cell 8
      have p0 : w5.cell? ⟨wr.heap.size, 0, none⟩ = some (.int .i64 pc) := HP.out.cell 0
      have hwr : IntKind.i64.wrap (pw.c + pc) = pw.c + pc := IntWalk.i64_in _ (by omega)
      go_wp2_with ((with_reducible refine at_store 3 (.tmp 46) (.tmp 45) ?_); refine wpList_store_cell rfl 3 (.tmp 46) (.tmp 45) rfl (w4.heap.size) 8 (.int .i64 (pw.c + pc)) rfl rfl 57 _ HV.out (show 8 < 18 from by decide) (by kernel_rfl) rfl (wr.heap.size) (Nat.le_of_lt hlt4) ?_)
      intro w6 hR6 ho6 hs6 hb6
      have HV : Hid (RowIs w6 w4.heap.size 57 #[.int .u8 ((pw.r.f 0).toNat : Int), .int .u8 ((pw.r.f 1).toNat : Int), .int .u8 ((pw.r.f 2).toNat : Int), .int .u8 ((pw.r.f 3).toNat : Int), .int .u8 ((pw.r.f 4).toNat : Int), .int .u8 ((pw.r.f 5).toNat : Int), .int .u8 ((pw.r.f 6).toNat : Int), .int .u8 ((pw.r.f 7).toNat : Int), .int .i64 (pw.c + pc), .int .u8 ((pw.b.f 0).toNat : Int), .int .u8 ((pw.b.f 1).toNat : Int), .int .u8 ((pw.b.f 2).toNat : Int), .int .u8 ((pw.b.f 3).toNat : Int), .int .u8 ((pw.b.f 4).toNat : Int), .int .u8 ((pw.b.f 5).toNat : Int), .int .u8 ((pw.b.f 6).toNat : Int), .int .u8 ((pw.b.f 7).toNat : Int), .int .i64 pw.p]) := hR6
      have HP : Hid (RowIs w6 wr.heap.size 75 #[.int .i64 pc, .int .i64 prole, .int .i64 pstate, .int .i64 psince, .bool up, .bool heard, .int .u8 ((pw.r.f 0).toNat : Int), .int .u8 ((pw.r.f 1).toNat : Int), .int .u8 ((pw.r.f 2).toNat : Int), .int .u8 ((pw.r.f 3).toNat : Int), .int .u8 ((pw.r.f 4).toNat : Int), .int .u8 ((pw.r.f 5).toNat : Int), .int .u8 ((pw.r.f 6).toNat : Int), .int .u8 ((pw.r.f 7).toNat : Int), .int .u8 ((pw.b.f 0).toNat : Int), .int .u8 ((pw.b.f 1).toNat : Int), .int .u8 ((pw.b.f 2).toNat : Int), .int .u8 ((pw.b.f 3).toNat : Int), .int .u8 ((pw.b.f 4).toNat : Int), .int .u8 ((pw.b.f 5).toNat : Int), .int .u8 ((pw.b.f 6).toNat : Int), .int .u8 ((pw.b.f 7).toNat : Int), .int .i64 pw.c, .int .i64 pw.p, .int .i64 pw.age, .int .i64 pw.ma, .int .i64 pw.he, .int .i64 pw.de, .bool pw.ch, .bool pw.ak]) := rowIs_same HP.out (ho6 _ (by omega))
      have hbw := hbw.trans hb6
      clear hR6 ho6 hs6 hb6 v8 p0 hwr
      have p4 : w6.cell? ⟨wr.heap.size, 4, none⟩ = some (.bool up) := HP.out.cell 4
      have p5 : w6.cell? ⟨wr.heap.size, 5, none⟩ = some (.bool heard) := HP.out.cell 5
      cases up
      · have hx : rootF s (i + 1) = st := HN.out.trans HST.out
        have HFI := Lib.hid (HF.out.later hbw)
        clear HN HST HP HV HF
        go_wp2_with fail
        refine ⟨⟨i + 1, by omega, by go_num, by rw [hx]; exact HFI⟩, by simp [intOf]; omega⟩
      · cases heard
        · have hx : rootF s (i + 1) = st := HN.out.trans HST.out
          have HFI := Lib.hid (HF.out.later hbw)
          clear HN HST HP HV HF
          go_wp2_with fail
          refine ⟨⟨i + 1, by omega, by go_num, by rw [hx]; exact HFI⟩, by simp [intOf]; omega⟩
        · have HF := Lib.hid (HF.out.later hbw)
          have HST : Hid (rootStep s i st = if SV.better (⟨pw.r, pw.c + pc, pw.b, pw.p⟩ : SV) st.1 = true then ((⟨pw.r, pw.c + pc, pw.b, pw.p⟩ : SV), (i : Int)) else st) := HST.out
          clear HP hbw
          go_wp2_with (first
            | ((with_reducible refine at_load 57 (.tmp 8) ?_); refine wpList_load_midW rfl 57 (.tmp 8) rfl (w4.heap.size) (0) rfl [.int .u8 ((pw.r.f 0).toNat : Int), .int .u8 ((pw.r.f 1).toNat : Int), .int .u8 ((pw.r.f 2).toNat : Int), .int .u8 ((pw.r.f 3).toNat : Int), .int .u8 ((pw.r.f 4).toNat : Int), .int .u8 ((pw.r.f 5).toNat : Int), .int .u8 ((pw.r.f 6).toNat : Int), .int .u8 ((pw.r.f 7).toNat : Int), .int .i64 (pw.c + pc), .int .u8 ((pw.b.f 0).toNat : Int), .int .u8 ((pw.b.f 1).toNat : Int), .int .u8 ((pw.b.f 2).toNat : Int), .int .u8 ((pw.b.f 3).toNat : Int), .int .u8 ((pw.b.f 4).toNat : Int), .int .u8 ((pw.b.f 5).toNat : Int), .int .u8 ((pw.b.f 6).toNat : Int), .int .u8 ((pw.b.f 7).toNat : Int), .int .i64 pw.p] _ (range_of_row HV.out rfl) Try.underlying57 rfl (by kernel_rfl) ?_)
            | ((with_reducible refine at_load 57 (.tmp 55) ?_); refine wpList_load_midW rfl 57 (.tmp 55) rfl (w.heap.size) (14) rfl [.int .u8 ((st.1.r.f 0).toNat : Int), .int .u8 ((st.1.r.f 1).toNat : Int), .int .u8 ((st.1.r.f 2).toNat : Int), .int .u8 ((st.1.r.f 3).toNat : Int), .int .u8 ((st.1.r.f 4).toNat : Int), .int .u8 ((st.1.r.f 5).toNat : Int), .int .u8 ((st.1.r.f 6).toNat : Int), .int .u8 ((st.1.r.f 7).toNat : Int), .int .i64 st.1.c, .int .u8 ((st.1.b.f 0).toNat : Int), .int .u8 ((st.1.b.f 1).toNat : Int), .int .u8 ((st.1.b.f 2).toNat : Int), .int .u8 ((st.1.b.f 3).toNat : Int), .int .u8 ((st.1.b.f 4).toNat : Int), .int .u8 ((st.1.b.f 5).toNat : Int), .int .u8 ((st.1.b.f 6).toNat : Int), .int .u8 ((st.1.b.f 7).toNat : Int), .int .i64 st.1.p] _ (range_of_row HF.out.box rfl) Try.underlying57 rfl (by kernel_rfl) ?_))
          refine (refBetter_any (⟨pw.r, pw.c + pc, pw.b, pw.p⟩ : SV) st.1 _).mono ?_
          rintro e w7 ⟨rfl, hb7⟩
          have HF := Lib.hid (HF.out.later hb7)
          have HV := Lib.hid (HV.out.kept hb7)
          clear hb7
          generalize SV.better (⟨pw.r, pw.c + pc, pw.b, pw.p⟩ : SV) st.1 = bt at *
          cases bt
          · have hx : rootF s (i + 1) = st := HN.out.trans HST.out
            clear HN HST HV
            go_wp2_with fail
            refine ⟨⟨i + 1, by omega, by go_num, by rw [hx]; exact HF⟩, by simp [intOf]; omega⟩
          · have hx : rootF s (i + 1) = ((⟨pw.r, pw.c + pc, pw.b, pw.p⟩ : SV), (i : Int)) := HN.out.trans HST.out
            have HX := Lib.hid hx
            clear HN HST hx
            go_wp2_with (first
              | ((with_reducible refine at_load 57 (.tmp 8) ?_); refine wpList_load_midW rfl 57 (.tmp 8) rfl (w4.heap.size) (0) rfl [.int .u8 ((pw.r.f 0).toNat : Int), .int .u8 ((pw.r.f 1).toNat : Int), .int .u8 ((pw.r.f 2).toNat : Int), .int .u8 ((pw.r.f 3).toNat : Int), .int .u8 ((pw.r.f 4).toNat : Int), .int .u8 ((pw.r.f 5).toNat : Int), .int .u8 ((pw.r.f 6).toNat : Int), .int .u8 ((pw.r.f 7).toNat : Int), .int .i64 (pw.c + pc), .int .u8 ((pw.b.f 0).toNat : Int), .int .u8 ((pw.b.f 1).toNat : Int), .int .u8 ((pw.b.f 2).toNat : Int), .int .u8 ((pw.b.f 3).toNat : Int), .int .u8 ((pw.b.f 4).toNat : Int), .int .u8 ((pw.b.f 5).toNat : Int), .int .u8 ((pw.b.f 6).toNat : Int), .int .u8 ((pw.b.f 7).toNat : Int), .int .i64 pw.p] _ (range_of_row HV.out rfl) Try.underlying57 rfl (by kernel_rfl) ?_)
              | ((with_reducible refine at_store 57 (.tmp 60) (.tmp 59) ?_); refine wpList_store_part rfl 57 (.tmp 60) (.tmp 59) rfl (w.heap.size) 14 _ rfl rfl 59 _ HF.out.box (show 14 + 18 ≤ 33 by decide) (by kernel_rfl) (by simp [Value.oneCell']) (((s.at ((⟨pw.r, pw.c + pc, pw.b, pw.p⟩ : SV), st.2)).rv (.slice (some ⟨g, 0, none⟩) s.ports.length cap))) (by kernel_rfl) (B) hBw ?_))
            intro w8 hR8 ho8 hs8 hb8
            have HF := Lib.hid (HF.out.boxSet (s' := s.at ((⟨pw.r, pw.c + pc, pw.b, pw.p⟩ : SV), st.2)) rfl hR8 ho8 hb8)
            clear hR8 ho8 hs8 hb8 HV
            go_wp2_with ((with_reducible refine at_store 3 (.tmp 62) (.tmp 61) ?_); refine wpList_store_cell rfl 3 (.tmp 62) (.tmp 61) rfl (w.heap.size) 32 (.int .i64 (i : Int)) rfl rfl 59 _ HF.out.box (show 32 < 33 from by decide) (by kernel_rfl) rfl (B) hBw ?_)
            intro w9 hR9 ho9 hs9 hb9
            have HF := Lib.hid (HF.out.boxSet (s' := s.at ((⟨pw.r, pw.c + pc, pw.b, pw.p⟩ : SV), (i : Int))) rfl hR9 ho9 hb9)
            clear hR9 ho9 hs9 hb9
            go_wp2_with fail
            refine ⟨⟨i + 1, by omega, by go_num, by rw [HX.out]; exact HF⟩, by simp [intOf]; omega⟩
    · obtain rfl : i = s.ports.length := by omega
      have c32 : wr.cell? ⟨w.heap.size, 32, none⟩ = some (.int .i64 s.rooted.root) := HF.out.box.cell 32
      have HCH : Hid (s.changed = (!(decide (s.best = s.rooted.best)) || (s.root != s.rooted.root))) := rfl
      have HF : Hid (FAt B g cap s.ports.length w.heap.size b4 s.best w wr s.rooted) := HF
      go_upto_region 13 with fail
      go_cut [9] (fun v wx => v = .bool s.changed ∧ wr = wx)
      case first =>
        have m1 : ∀ w, (Op.equalIn 10000 57 (.agg #[.int .u8 ((s.best.r.f 0).toNat : Int), .int .u8 ((s.best.r.f 1).toNat : Int), .int .u8 ((s.best.r.f 2).toNat : Int), .int .u8 ((s.best.r.f 3).toNat : Int), .int .u8 ((s.best.r.f 4).toNat : Int), .int .u8 ((s.best.r.f 5).toNat : Int), .int .u8 ((s.best.r.f 6).toNat : Int), .int .u8 ((s.best.r.f 7).toNat : Int), .int .i64 s.best.c, .int .u8 ((s.best.b.f 0).toNat : Int), .int .u8 ((s.best.b.f 1).toNat : Int), .int .u8 ((s.best.b.f 2).toNat : Int), .int .u8 ((s.best.b.f 3).toNat : Int), .int .u8 ((s.best.b.f 4).toNat : Int), .int .u8 ((s.best.b.f 5).toNat : Int), .int .u8 ((s.best.b.f 6).toNat : Int), .int .u8 ((s.best.b.f 7).toNat : Int), .int .i64 s.best.p]) (.agg #[.int .u8 ((s.rooted.best.r.f 0).toNat : Int), .int .u8 ((s.rooted.best.r.f 1).toNat : Int), .int .u8 ((s.rooted.best.r.f 2).toNat : Int), .int .u8 ((s.rooted.best.r.f 3).toNat : Int), .int .u8 ((s.rooted.best.r.f 4).toNat : Int), .int .u8 ((s.rooted.best.r.f 5).toNat : Int), .int .u8 ((s.rooted.best.r.f 6).toNat : Int), .int .u8 ((s.rooted.best.r.f 7).toNat : Int), .int .i64 s.rooted.best.c, .int .u8 ((s.rooted.best.b.f 0).toNat : Int), .int .u8 ((s.rooted.best.b.f 1).toNat : Int), .int .u8 ((s.rooted.best.b.f 2).toNat : Int), .int .u8 ((s.rooted.best.b.f 3).toNat : Int), .int .u8 ((s.rooted.best.b.f 4).toNat : Int), .int .u8 ((s.rooted.best.b.f 5).toNat : Int), .int .u8 ((s.rooted.best.b.f 6).toNat : Int), .int .u8 ((s.rooted.best.b.f 7).toNat : Int), .int .i64 s.rooted.best.p])).run Try.prog w = .ok (decide (s.best = s.rooted.best)) w := run_equalIn_rv 9997 s.best s.rooted.best
        generalize decide (s.best = s.rooted.best) = dq at *
        cases dq
        · have HCH : Hid (s.changed = true) := by show _ = _; rw [HCH.out]; rfl
          go_wp2_with (first
            | ((with_reducible refine at_load 57 (.tmp 4) ?_); refine wpList_load_midW rfl 57 (.tmp 4) rfl (b4) (0) rfl [.int .u8 ((s.best.r.f 0).toNat : Int), .int .u8 ((s.best.r.f 1).toNat : Int), .int .u8 ((s.best.r.f 2).toNat : Int), .int .u8 ((s.best.r.f 3).toNat : Int), .int .u8 ((s.best.r.f 4).toNat : Int), .int .u8 ((s.best.r.f 5).toNat : Int), .int .u8 ((s.best.r.f 6).toNat : Int), .int .u8 ((s.best.r.f 7).toNat : Int), .int .i64 s.best.c, .int .u8 ((s.best.b.f 0).toNat : Int), .int .u8 ((s.best.b.f 1).toNat : Int), .int .u8 ((s.best.b.f 2).toNat : Int), .int .u8 ((s.best.b.f 3).toNat : Int), .int .u8 ((s.best.b.f 4).toNat : Int), .int .u8 ((s.best.b.f 5).toNat : Int), .int .u8 ((s.best.b.f 6).toNat : Int), .int .u8 ((s.best.b.f 7).toNat : Int), .int .i64 s.best.p] _ (range_of_row HF.out.best rfl) Try.underlying57 rfl (by kernel_rfl) ?_)
            | ((with_reducible refine at_load 57 (.tmp 64) ?_); refine wpList_load_midW rfl 57 (.tmp 64) rfl (w.heap.size) (14) rfl [.int .u8 ((s.rooted.best.r.f 0).toNat : Int), .int .u8 ((s.rooted.best.r.f 1).toNat : Int), .int .u8 ((s.rooted.best.r.f 2).toNat : Int), .int .u8 ((s.rooted.best.r.f 3).toNat : Int), .int .u8 ((s.rooted.best.r.f 4).toNat : Int), .int .u8 ((s.rooted.best.r.f 5).toNat : Int), .int .u8 ((s.rooted.best.r.f 6).toNat : Int), .int .u8 ((s.rooted.best.r.f 7).toNat : Int), .int .i64 s.rooted.best.c, .int .u8 ((s.rooted.best.b.f 0).toNat : Int), .int .u8 ((s.rooted.best.b.f 1).toNat : Int), .int .u8 ((s.rooted.best.b.f 2).toNat : Int), .int .u8 ((s.rooted.best.b.f 3).toNat : Int), .int .u8 ((s.rooted.best.b.f 4).toNat : Int), .int .u8 ((s.rooted.best.b.f 5).toNat : Int), .int .u8 ((s.rooted.best.b.f 6).toNat : Int), .int .u8 ((s.rooted.best.b.f 7).toNat : Int), .int .i64 s.rooted.best.p] _ (range_of_row HF.out.box rfl) Try.underlying57 rfl (by kernel_rfl) ?_))
          go_meet
          exact ⟨by rw [HCH.out], rfl⟩
        · have HCH : Hid (s.changed = (s.root != s.rooted.root)) := by show _ = _; rw [HCH.out]; rfl
          go_wp2_with (first
            | ((with_reducible refine at_load 57 (.tmp 4) ?_); refine wpList_load_midW rfl 57 (.tmp 4) rfl (b4) (0) rfl [.int .u8 ((s.best.r.f 0).toNat : Int), .int .u8 ((s.best.r.f 1).toNat : Int), .int .u8 ((s.best.r.f 2).toNat : Int), .int .u8 ((s.best.r.f 3).toNat : Int), .int .u8 ((s.best.r.f 4).toNat : Int), .int .u8 ((s.best.r.f 5).toNat : Int), .int .u8 ((s.best.r.f 6).toNat : Int), .int .u8 ((s.best.r.f 7).toNat : Int), .int .i64 s.best.c, .int .u8 ((s.best.b.f 0).toNat : Int), .int .u8 ((s.best.b.f 1).toNat : Int), .int .u8 ((s.best.b.f 2).toNat : Int), .int .u8 ((s.best.b.f 3).toNat : Int), .int .u8 ((s.best.b.f 4).toNat : Int), .int .u8 ((s.best.b.f 5).toNat : Int), .int .u8 ((s.best.b.f 6).toNat : Int), .int .u8 ((s.best.b.f 7).toNat : Int), .int .i64 s.best.p] _ (range_of_row HF.out.best rfl) Try.underlying57 rfl (by kernel_rfl) ?_)
            | ((with_reducible refine at_load 57 (.tmp 64) ?_); refine wpList_load_midW rfl 57 (.tmp 64) rfl (w.heap.size) (14) rfl [.int .u8 ((s.rooted.best.r.f 0).toNat : Int), .int .u8 ((s.rooted.best.r.f 1).toNat : Int), .int .u8 ((s.rooted.best.r.f 2).toNat : Int), .int .u8 ((s.rooted.best.r.f 3).toNat : Int), .int .u8 ((s.rooted.best.r.f 4).toNat : Int), .int .u8 ((s.rooted.best.r.f 5).toNat : Int), .int .u8 ((s.rooted.best.r.f 6).toNat : Int), .int .u8 ((s.rooted.best.r.f 7).toNat : Int), .int .i64 s.rooted.best.c, .int .u8 ((s.rooted.best.b.f 0).toNat : Int), .int .u8 ((s.rooted.best.b.f 1).toNat : Int), .int .u8 ((s.rooted.best.b.f 2).toNat : Int), .int .u8 ((s.rooted.best.b.f 3).toNat : Int), .int .u8 ((s.rooted.best.b.f 4).toNat : Int), .int .u8 ((s.rooted.best.b.f 5).toNat : Int), .int .u8 ((s.rooted.best.b.f 6).toNat : Int), .int .u8 ((s.rooted.best.b.f 7).toNat : Int), .int .i64 s.rooted.best.p] _ (range_of_row HF.out.box rfl) Try.underlying57 rfl (by kernel_rfl) ?_))
          go_meet
          exact ⟨by rw [HCH.out], rfl⟩
      case rest =>
        obtain ⟨rfl, rfl⟩ := hcut
        clear HCH c13 c32
        have HF0 : Hid (FAt B g cap s.ports.length w.heap.size b4 s.best w wr (foundF s.rooted s.changed 0).1) := HF
        have HC0 : Hid (0 ≤ (foundF s.rooted s.changed 0).1.chg ∧ (foundF s.rooted s.changed 0).1.chg ≤ 999990000 + (0 : Nat)) := by
          show _ ∧ _
          exact ⟨hc.1, (show s.chg ≤ 999990000 + ((0 : Nat) : Int) from by have := hc.2; omega)⟩
        have HFD : Hid (s.found = foundF s.rooted s.changed s.ports.length) := rfl
        clear HF
        generalize s.rooted = s0 at *
        generalize s.changed = c0 at *
        have c13 : wr.cell? ⟨w.heap.size, 13, none⟩ = some (.slice (some ⟨g, 0, none⟩) s.ports.length cap) := HF0.out.box.cell 13
        go_upto_region 15 with fail
        clear c13
        go_loopw [9, 10] (fun v9 v10 wr => ∃ i : Nat, i ≤ s.ports.length ∧ v9 = .bool (foundF s0 c0 i).2 ∧ v10 = .int .i64 i ∧ Hid (FAt B g cap s.ports.length w.heap.size b4 s.best w wr (foundF s0 c0 i).1) ∧ Hid (0 ≤ (foundF s0 c0 i).1.chg ∧ (foundF s0 c0 i).1.chg ≤ 999990000 + (i : Nat))) (fun _ v10 _ => s.ports.length - (intOf v10).toNat)
        case atStart => exact ⟨0, Nat.zero_le _, rfl, rfl, HF0, HC0⟩
        case round =>
          clear HF0 HC0
          rename World => wr
          obtain ⟨i, hi, rfl, rfl, HF, HC⟩ := hrel
          have c13 : wr.cell? ⟨w.heap.size, 13, none⟩ = some (.slice (some ⟨g, 0, none⟩) s.ports.length cap) := HF.out.box.cell 13
          by_cases hlt : i < s.ports.length
          · have HN : Hid (foundF s0 c0 (i + 1) = ((foundF s0 c0 i).1.onto i ((foundF s0 c0 i).1.role i), (foundF s0 c0 i).2 || ((foundF s0 c0 i).1.role i != ((foundF s0 c0 i).1.port i).role))) := rfl
            generalize foundF s0 c0 i = fi at *
            obtain ⟨si, ci⟩ := fi
            simp only at HN HC HF
            have hlti : i < si.ports.length := by have := HF.out.len; omega
            have HRG : Hid (wr.rangeAt g (i * 30) (si.port i).rc) := by
              show World.rangeAt _ _ _ _
              rw [← SS.port_get si hlti]
              exact HF.out.ports.range hlti
            have HO := Lib.hid (SS.onto_ref si i (si.role i) hlti (SS.role_four si i))
            have hr4 := SS.role_four si i
            have HV : Hid (si.role i = if (si.port i).up = false then 0 else if (i : Int) = si.root then 1 else if (!(si.port i).heard || (si.told i).better (si.port i).w.v) = true then 2 else 3) := rfl
            have hb4r : b4 < wr.heap.size := HF.out.best.lt
            have hBg : B ≤ g := HF.out.hB
            have hBr : B ≤ wr.heap.size := by have := HF.out.h4; omega
            generalize si.port i = p at *
            obtain ⟨pc, up, heard, pw, prole, pstate, psince⟩ := p
            simp only at HV HO HN
            go_wp2_with (first
              | ((with_reducible refine at_load 75 (.tmp 83) ?_); refine wpList_load_midW rfl 75 (.tmp 83) rfl (g) ((i * 30)) rfl [.int .i64 pc, .int .i64 prole, .int .i64 pstate, .int .i64 psince, .bool up, .bool heard, .int .u8 ((pw.r.f 0).toNat : Int), .int .u8 ((pw.r.f 1).toNat : Int), .int .u8 ((pw.r.f 2).toNat : Int), .int .u8 ((pw.r.f 3).toNat : Int), .int .u8 ((pw.r.f 4).toNat : Int), .int .u8 ((pw.r.f 5).toNat : Int), .int .u8 ((pw.r.f 6).toNat : Int), .int .u8 ((pw.r.f 7).toNat : Int), .int .u8 ((pw.b.f 0).toNat : Int), .int .u8 ((pw.b.f 1).toNat : Int), .int .u8 ((pw.b.f 2).toNat : Int), .int .u8 ((pw.b.f 3).toNat : Int), .int .u8 ((pw.b.f 4).toNat : Int), .int .u8 ((pw.b.f 5).toNat : Int), .int .u8 ((pw.b.f 6).toNat : Int), .int .u8 ((pw.b.f 7).toNat : Int), .int .i64 pw.c, .int .i64 pw.p, .int .i64 pw.age, .int .i64 pw.ma, .int .i64 pw.he, .int .i64 pw.de, .bool pw.ch, .bool pw.ak] _ HRG.out Try.underlying75 rfl (by kernel_rfl) ?_)
              | ((with_reducible refine at_store 75 (.tmp 11) (.tmp 84) ?_); refine wpList_store_own rfl 75 (.tmp 11) (.tmp 84) rfl (wr.heap.size) _ rfl rfl _ _ (rowIs_new wr _ _) (by kernel_rfl) rfl (by simp [Value.oneCell']) (wr.heap.size) (Nat.le_refl _) ?_))
            intro w3 hR3 ho3 hs3 hb3
            have hbw : Below wr.heap.size wr w3 := ((Below.refl _ _).alloc (Nat.le_refl _) _).trans hb3
            have HP : Hid (RowIs w3 wr.heap.size 75 #[.int .i64 pc, .int .i64 prole, .int .i64 pstate, .int .i64 psince, .bool up, .bool heard, .int .u8 ((pw.r.f 0).toNat : Int), .int .u8 ((pw.r.f 1).toNat : Int), .int .u8 ((pw.r.f 2).toNat : Int), .int .u8 ((pw.r.f 3).toNat : Int), .int .u8 ((pw.r.f 4).toNat : Int), .int .u8 ((pw.r.f 5).toNat : Int), .int .u8 ((pw.r.f 6).toNat : Int), .int .u8 ((pw.r.f 7).toNat : Int), .int .u8 ((pw.b.f 0).toNat : Int), .int .u8 ((pw.b.f 1).toNat : Int), .int .u8 ((pw.b.f 2).toNat : Int), .int .u8 ((pw.b.f 3).toNat : Int), .int .u8 ((pw.b.f 4).toNat : Int), .int .u8 ((pw.b.f 5).toNat : Int), .int .u8 ((pw.b.f 6).toNat : Int), .int .u8 ((pw.b.f 7).toNat : Int), .int .i64 pw.c, .int .i64 pw.p, .int .i64 pw.age, .int .i64 pw.ma, .int .i64 pw.he, .int .i64 pw.de, .bool pw.ch, .bool pw.ak]) := hR3
            have HF := Lib.hid (HF.out.later hbw)
            have hlt3 : wr.heap.size < w3.heap.size := HP.out.lt
            clear hR3 ho3 hs3 hb3 c13 HRG hbw
            have c22 : w3.cell? ⟨w.heap.size, 22, none⟩ = some (.int .i64 si.best.c) := HF.out.box.cell 22
            go_wp2_with (first
              | ((with_reducible refine at_load 22 (.tmp 86) ?_); refine wpList_load_midW rfl 22 (.tmp 86) rfl (w.heap.size) (14) rfl [.int .u8 ((si.best.r.f 0).toNat : Int), .int .u8 ((si.best.r.f 1).toNat : Int), .int .u8 ((si.best.r.f 2).toNat : Int), .int .u8 ((si.best.r.f 3).toNat : Int), .int .u8 ((si.best.r.f 4).toNat : Int), .int .u8 ((si.best.r.f 5).toNat : Int), .int .u8 ((si.best.r.f 6).toNat : Int), .int .u8 ((si.best.r.f 7).toNat : Int)] _ (range_of_row HF.out.box rfl) Try.underlying22 rfl (by kernel_rfl) ?_)
              | ((with_reducible refine at_load 22 (.tmp 91) ?_); refine wpList_load_midW rfl 22 (.tmp 91) rfl (w.heap.size) (0) rfl [.int .u8 ((si.id.f 0).toNat : Int), .int .u8 ((si.id.f 1).toNat : Int), .int .u8 ((si.id.f 2).toNat : Int), .int .u8 ((si.id.f 3).toNat : Int), .int .u8 ((si.id.f 4).toNat : Int), .int .u8 ((si.id.f 5).toNat : Int), .int .u8 ((si.id.f 6).toNat : Int), .int .u8 ((si.id.f 7).toNat : Int)] _ (range_of_row HF.out.box rfl) Try.underlying22 rfl (by kernel_rfl) ?_)
              | ((with_reducible refine at_store 57 (.tmp 12) (.tmp 95) ?_); refine wpList_store_own rfl 57 (.tmp 12) (.tmp 95) rfl (w3.heap.size) _ rfl rfl _ _ (rowIs_new w3 _ _) (by kernel_rfl) rfl (by simp [Value.oneCell']) (w3.heap.size) (Nat.le_refl _) ?_))
            intro w4 hR4 ho4 hs4 hb4
            have hbw : Below w3.heap.size w3 w4 := ((Below.refl _ _).alloc (Nat.le_refl _) _).trans hb4
            have HW : Hid (RowIs w4 w3.heap.size 57 #[.int .u8 (((si.told i).r.f 0).toNat : Int), .int .u8 (((si.told i).r.f 1).toNat : Int), .int .u8 (((si.told i).r.f 2).toNat : Int), .int .u8 (((si.told i).r.f 3).toNat : Int), .int .u8 (((si.told i).r.f 4).toNat : Int), .int .u8 (((si.told i).r.f 5).toNat : Int), .int .u8 (((si.told i).r.f 6).toNat : Int), .int .u8 (((si.told i).r.f 7).toNat : Int), .int .i64 (si.told i).c, .int .u8 (((si.told i).b.f 0).toNat : Int), .int .u8 (((si.told i).b.f 1).toNat : Int), .int .u8 (((si.told i).b.f 2).toNat : Int), .int .u8 (((si.told i).b.f 3).toNat : Int), .int .u8 (((si.told i).b.f 4).toNat : Int), .int .u8 (((si.told i).b.f 5).toNat : Int), .int .u8 (((si.told i).b.f 6).toNat : Int), .int .u8 (((si.told i).b.f 7).toNat : Int), .int .i64 (si.told i).p]) := hR4
            have HP : Hid (RowIs w4 wr.heap.size 75 #[.int .i64 pc, .int .i64 prole, .int .i64 pstate, .int .i64 psince, .bool up, .bool heard, .int .u8 ((pw.r.f 0).toNat : Int), .int .u8 ((pw.r.f 1).toNat : Int), .int .u8 ((pw.r.f 2).toNat : Int), .int .u8 ((pw.r.f 3).toNat : Int), .int .u8 ((pw.r.f 4).toNat : Int), .int .u8 ((pw.r.f 5).toNat : Int), .int .u8 ((pw.r.f 6).toNat : Int), .int .u8 ((pw.r.f 7).toNat : Int), .int .u8 ((pw.b.f 0).toNat : Int), .int .u8 ((pw.b.f 1).toNat : Int), .int .u8 ((pw.b.f 2).toNat : Int), .int .u8 ((pw.b.f 3).toNat : Int), .int .u8 ((pw.b.f 4).toNat : Int), .int .u8 ((pw.b.f 5).toNat : Int), .int .u8 ((pw.b.f 6).toNat : Int), .int .u8 ((pw.b.f 7).toNat : Int), .int .i64 pw.c, .int .i64 pw.p, .int .i64 pw.age, .int .i64 pw.ma, .int .i64 pw.he, .int .i64 pw.de, .bool pw.ch, .bool pw.ak]) := HP.out.kept hbw
            have HF := Lib.hid (HF.out.later hbw)
            clear hR4 ho4 hs4 hb4 c22 hbw
            have p4 : w4.cell? ⟨wr.heap.size, 4, none⟩ = some (.bool up) := HP.out.cell 4
            have p5 : w4.cell? ⟨wr.heap.size, 5, none⟩ = some (.bool heard) := HP.out.cell 5
            have c32 : w4.cell? ⟨w.heap.size, 32, none⟩ = some (.int .i64 si.root) := HF.out.box.cell 32
            go_upto_if 98 with fail
            go_cut [13] (fun v wx => v = .int .i64 (si.role i) ∧ Below w4.heap.size w4 wx)
            case first =>
              clear HO HN HC hr4
              cases up
              · have HVa : Hid (si.role i = 0) := HV.out
                clear HV
                go_wp2_with fail
                go_meet
                exact ⟨by rw [HVa.out], Below.refl _ _⟩
              · by_cases hr : (i : Int) = si.root
                · have HVa : Hid (si.role i = 1) := by show _ = _; rw [HV.out, if_neg (by simp), if_pos hr]
                  clear HV
                  rw [← hr] at c32
                  clear hr
                  go_wp2_with fail
                  go_meet
                  exact ⟨by rw [HVa.out], Below.refl _ _⟩
                · have HV : Hid (si.role i = if (!heard || (si.told i).better pw.v) = true then 2 else 3) := by show _ = _; rw [HV.out, if_neg (by simp), if_neg hr]
                  have hr2 : ((i : Int) == si.root) = false := by simpa using hr
                  cases heard
                  · have HVa : Hid (si.role i = 2) := HV.out
                    clear HV
                    have k5 := cell_regrown p5
                    go_upto_region 24 with fail
                    clear p4 p5 c32
                    refine wp_region_mix 10 (by kernel_rfl) (by kernel_rfl) (by kernel_rfl) ?_
                    (refine mix_step (by kernel_rfl) (by kernel_rfl) (fun K hK => ?_); go_simp; (try (simp only [↓IntWalk.iteOmega]; go_simp)); (first | (refine hK _ ?_; clear hK K) | (apply Exists.intro; refine ⟨fun _ => ?_, hK _ ?_⟩; (first | fail); clear hK K)))
                    (refine mix_step (by kernel_rfl) (by kernel_rfl) (fun K hK => ?_); go_simp; (try (simp only [↓IntWalk.iteOmega]; go_simp)); (first | (refine hK _ ?_; clear hK K) | (apply Exists.intro; refine ⟨fun _ => ?_, hK _ ?_⟩; (first | fail); clear hK K)))
                    (refine mix_step (by kernel_rfl) (by kernel_rfl) (fun K hK => ?_); go_simp; (try (simp only [↓IntWalk.iteOmega]; go_simp)); (first | (refine hK _ ?_; clear hK K) | (apply Exists.intro; refine ⟨fun _ => ?_, hK _ ?_⟩; (first | fail); clear hK K)))
                    (refine mix_step (by kernel_rfl) (by kernel_rfl) (fun K hK => ?_); go_simp; (try (simp only [↓IntWalk.iteOmega]; go_simp)); (first | (refine hK _ ?_; clear hK K) | (apply Exists.intro; refine ⟨fun _ => ?_, hK _ ?_⟩; (first | fail); clear hK K)))
                    (refine mix_step (by kernel_rfl) (by kernel_rfl) (fun K hK => ?_); go_simp; (try (simp only [↓IntWalk.iteOmega]; go_simp)); (first | (refine hK _ ?_; clear hK K) | (apply Exists.intro; refine ⟨fun _ => ?_, hK _ ?_⟩; (first | fail); clear hK K)))
                    (refine mix_step (by kernel_rfl) (by kernel_rfl) (fun K hK => ?_); go_simp; (try (simp only [↓IntWalk.iteOmega]; go_simp)); (first | (refine hK _ ?_; clear hK K) | (apply Exists.intro; refine ⟨fun _ => ?_, hK _ ?_⟩; (first | fail); clear hK K)))
                    (refine mix_step (by kernel_rfl) (by kernel_rfl) (fun K hK => ?_); go_simp; (try (simp only [↓IntWalk.iteOmega]; go_simp)); (first | (refine hK _ ?_; clear hK K) | (apply Exists.intro; refine ⟨fun _ => ?_, hK _ ?_⟩; (first | fail); clear hK K)))
                    (refine mix_step (by kernel_rfl) (by kernel_rfl) (fun K hK => ?_); go_simp; (try (simp only [↓IntWalk.iteOmega]; go_simp)); (first | (refine hK _ ?_; clear hK K) | (apply Exists.intro; refine ⟨fun _ => ?_, hK _ ?_⟩; (first | fail); clear hK K)))
                    (refine mix_step (by kernel_rfl) (by kernel_rfl) (fun K hK => ?_); go_simp; (try (simp only [↓IntWalk.iteOmega]; go_simp)); (first | (refine hK _ ?_; clear hK K) | (apply Exists.intro; refine ⟨fun _ => ?_, hK _ ?_⟩; (first | fail); clear hK K)))
                    (refine mix_step (by kernel_rfl) (by kernel_rfl) (fun K hK => ?_); go_simp; (try (simp only [↓IntWalk.iteOmega]; go_simp)); (first | (refine hK _ ?_; clear hK K) | (apply Exists.intro; refine ⟨fun _ => ?_, hK _ ?_⟩; (first | fail); clear hK K)))
                    refine mix_nil ?_
                    rintro ⟨dq, osq⟩
                    have hb1 := below_regrown w4 dq osq
                    refine (show wpList _ _ _ _ _ _ from ?_)
                    simp only [List.drop, Act.put, List.setIfInBounds_toArray, List.set]
                    go_wp2_with fail
                    go_meet
                    exact ⟨by rw [HVa.out], hb1⟩
                  · have C2 := Lib.hid (fun (q : Regrown) => refVector_any pw (grow (redrawn w4 q.d) q.os))
                    have C3 := Lib.hid (fun (q : Regrown) => refBetter_any (si.told i) pw.v (grow (redrawn w4 q.d) q.os))
                    have k5 := cell_regrown p5
                    have HV : Hid (si.role i = if (si.told i).better pw.v = true then 2 else 3) := HV.out
                    generalize (si.told i).better pw.v = bt at *
                    go_upto_region 24 with fail
                    clear p4 p5 c32
                    refine wp_region_mix 10 (by kernel_rfl) (by kernel_rfl) (by kernel_rfl) ?_
                    (refine mix_step (by kernel_rfl) (by kernel_rfl) (fun K hK => ?_); go_simp; (try (simp only [↓IntWalk.iteOmega]; go_simp)); (first | (refine hK _ ?_; clear hK K) | (apply Exists.intro; refine ⟨fun _ => ?_, hK _ ?_⟩; (first | fail); clear hK K)))
                    (refine mix_step (by kernel_rfl) (by kernel_rfl) (fun K hK => ?_); go_simp; (try (simp only [↓IntWalk.iteOmega]; go_simp)); (first | (refine hK _ ?_; clear hK K) | (apply Exists.intro; refine ⟨fun _ => ?_, hK _ ?_⟩; (first | fail); clear hK K)))
                    (refine mix_step (by kernel_rfl) (by kernel_rfl) (fun K hK => ?_); go_simp; (try (simp only [↓IntWalk.iteOmega]; go_simp)); (first | (refine hK _ ?_; clear hK K) | (apply Exists.intro; refine ⟨fun _ => ?_, hK _ ?_⟩; (first | fail); clear hK K)))
                    (refine mix_step (by kernel_rfl) (by kernel_rfl) (fun K hK => ?_); go_simp; (try (simp only [↓IntWalk.iteOmega]; go_simp)); (first | (refine hK _ ?_; clear hK K) | (apply Exists.intro; refine ⟨fun _ => ?_, hK _ ?_⟩; (first | fail); clear hK K)))
                    refine mix_exact (.agg #[.int .u8 (((si.told i).r.f 0).toNat : Int), .int .u8 (((si.told i).r.f 1).toNat : Int), .int .u8 (((si.told i).r.f 2).toNat : Int), .int .u8 (((si.told i).r.f 3).toNat : Int), .int .u8 (((si.told i).r.f 4).toNat : Int), .int .u8 (((si.told i).r.f 5).toNat : Int), .int .u8 (((si.told i).r.f 6).toNat : Int), .int .u8 (((si.told i).r.f 7).toNat : Int), .int .i64 (si.told i).c, .int .u8 (((si.told i).b.f 0).toNat : Int), .int .u8 (((si.told i).b.f 1).toNat : Int), .int .u8 (((si.told i).b.f 2).toNat : Int), .int .u8 (((si.told i).b.f 3).toNat : Int), .int .u8 (((si.told i).b.f 4).toNat : Int), .int .u8 (((si.told i).b.f 5).toNat : Int), .int .u8 (((si.told i).b.f 6).toNat : Int), .int .u8 (((si.told i).b.f 7).toNat : Int), .int .i64 (si.told i).p]) rfl (exact_load_row rfl rfl (by simp) HW.out Try.underlying57 rfl (by kernel_rfl)) ?_
                    (refine mix_step (by kernel_rfl) (by kernel_rfl) (fun K hK => ?_); go_simp; (try (simp only [↓IntWalk.iteOmega]; go_simp)); (first | (refine hK _ ?_; clear hK K) | (apply Exists.intro; refine ⟨fun _ => ?_, hK _ ?_⟩; (first | fail); clear hK K)))
                    refine mix_exact (.agg #[.int .u8 ((pw.r.f 0).toNat : Int), .int .u8 ((pw.r.f 1).toNat : Int), .int .u8 ((pw.r.f 2).toNat : Int), .int .u8 ((pw.r.f 3).toNat : Int), .int .u8 ((pw.r.f 4).toNat : Int), .int .u8 ((pw.r.f 5).toNat : Int), .int .u8 ((pw.r.f 6).toNat : Int), .int .u8 ((pw.r.f 7).toNat : Int), .int .u8 ((pw.b.f 0).toNat : Int), .int .u8 ((pw.b.f 1).toNat : Int), .int .u8 ((pw.b.f 2).toNat : Int), .int .u8 ((pw.b.f 3).toNat : Int), .int .u8 ((pw.b.f 4).toNat : Int), .int .u8 ((pw.b.f 5).toNat : Int), .int .u8 ((pw.b.f 6).toNat : Int), .int .u8 ((pw.b.f 7).toNat : Int), .int .i64 pw.c, .int .i64 pw.p, .int .i64 pw.age, .int .i64 pw.ma, .int .i64 pw.he, .int .i64 pw.de, .bool pw.ch, .bool pw.ak]) rfl (exact_load_mid (sub := [.int .u8 ((pw.r.f 0).toNat : Int), .int .u8 ((pw.r.f 1).toNat : Int), .int .u8 ((pw.r.f 2).toNat : Int), .int .u8 ((pw.r.f 3).toNat : Int), .int .u8 ((pw.r.f 4).toNat : Int), .int .u8 ((pw.r.f 5).toNat : Int), .int .u8 ((pw.r.f 6).toNat : Int), .int .u8 ((pw.r.f 7).toNat : Int), .int .u8 ((pw.b.f 0).toNat : Int), .int .u8 ((pw.b.f 1).toNat : Int), .int .u8 ((pw.b.f 2).toNat : Int), .int .u8 ((pw.b.f 3).toNat : Int), .int .u8 ((pw.b.f 4).toNat : Int), .int .u8 ((pw.b.f 5).toNat : Int), .int .u8 ((pw.b.f 6).toNat : Int), .int .u8 ((pw.b.f 7).toNat : Int), .int .i64 pw.c, .int .i64 pw.p, .int .i64 pw.age, .int .i64 pw.ma, .int .i64 pw.he, .int .i64 pw.de, .bool pw.ch, .bool pw.ak]) rfl rfl (by simp) HP.out rfl Try.underlying63 rfl (by kernel_rfl)) ?_
                    (refine mix_step (by kernel_rfl) (by kernel_rfl) (fun K hK => ?_); go_simp; (try (simp only [↓IntWalk.iteOmega]; go_simp)); (first | (refine hK _ ?_; clear hK K) | (apply Exists.intro; refine ⟨fun _ => ?_, hK _ ?_⟩; (first | exact C2.out _); clear hK K)))
                    (refine mix_step (by kernel_rfl) (by kernel_rfl) (fun K hK => ?_); go_simp; (try (simp only [↓IntWalk.iteOmega]; go_simp)); (first | (refine hK _ ?_; clear hK K) | (apply Exists.intro; refine ⟨fun _ => ?_, hK _ ?_⟩; (first | exact C3.out _); clear hK K)))
                    (refine mix_step (by kernel_rfl) (by kernel_rfl) (fun K hK => ?_); go_simp; (try (simp only [↓IntWalk.iteOmega]; go_simp)); (first | (refine hK _ ?_; clear hK K) | (apply Exists.intro; refine ⟨fun _ => ?_, hK _ ?_⟩; (first | fail); clear hK K)))
                    refine mix_nil ?_
                    rintro ⟨dq, osq⟩
                    have hb1 := below_regrown w4 dq osq
                    refine (show wpList _ _ _ _ _ _ from ?_)
                    simp only [List.drop, Act.put, List.setIfInBounds_toArray, List.set]
                    cases bt
                    · have HVa : Hid (si.role i = 3) := HV.out
                      clear HV
                      go_wp2_with fail
                      go_meet
                      exact ⟨by rw [HVa.out], hb1⟩
                    · have HVa : Hid (si.role i = 2) := HV.out
                      clear HV
                      go_wp2_with fail
                      go_meet
                      exact ⟨by rw [HVa.out], hb1⟩
            case rest =>
              obtain ⟨rfl, hb5⟩ := hcut
              have HF := Lib.hid (HF.out.later hb5)
              have HP : Hid (RowIs wc wr.heap.size 75 #[.int .i64 pc, .int .i64 prole, .int .i64 pstate, .int .i64 psince, .bool up, .bool heard, .int .u8 ((pw.r.f 0).toNat : Int), .int .u8 ((pw.r.f 1).toNat : Int), .int .u8 ((pw.r.f 2).toNat : Int), .int .u8 ((pw.r.f 3).toNat : Int), .int .u8 ((pw.r.f 4).toNat : Int), .int .u8 ((pw.r.f 5).toNat : Int), .int .u8 ((pw.r.f 6).toNat : Int), .int .u8 ((pw.r.f 7).toNat : Int), .int .u8 ((pw.b.f 0).toNat : Int), .int .u8 ((pw.b.f 1).toNat : Int), .int .u8 ((pw.b.f 2).toNat : Int), .int .u8 ((pw.b.f 3).toNat : Int), .int .u8 ((pw.b.f 4).toNat : Int), .int .u8 ((pw.b.f 5).toNat : Int), .int .u8 ((pw.b.f 6).toNat : Int), .int .u8 ((pw.b.f 7).toNat : Int), .int .i64 pw.c, .int .i64 pw.p, .int .i64 pw.age, .int .i64 pw.ma, .int .i64 pw.he, .int .i64 pw.de, .bool pw.ch, .bool pw.ak]) := HP.out.kept hb5
              clear hb5 p4 p5 c32 HW HV hlt3
              generalize wc = w5 at *
              generalize si.role i = r at *
              have p1 : w5.cell? ⟨wr.heap.size, 1, none⟩ = some (.int .i64 prole) := HP.out.cell 1
              have p2 : w5.cell? ⟨wr.heap.size, 2, none⟩ = some (.int .i64 pstate) := HP.out.cell 2
              go_upto_if 116 with fail
              go_cut [9] (fun v wx => v = .bool (ci || (r != prole)) ∧ w5 = wx)
              case first =>
                by_cases hrr : r = prole
                · subst hrr
                  go_wp2_with fail
                  go_meet
                  exact ⟨by simp, rfl⟩
                · have hrr2 : (r == prole) = false := by simpa using hrr
                  go_wp2_with fail
                  go_meet
                  exact ⟨by simp [hrr], rfl⟩
              case rest =>
                obtain ⟨rfl, rfl⟩ := hcut
                go_upto_region 29 with fail
                go_cut [124] (fun v wx => v = .bool (decide (r = 0 ∨ r = 3)) ∧ w5 = wx)
                case first =>
                  clear HO HN
                  rcases hr4 with rfl | rfl | rfl | rfl <;> (go_wp2_with fail) <;> go_meet <;> exact ⟨rfl, rfl⟩
                case rest =>
                 obtain ⟨rfl, rfl⟩ := hcut
                 go_upto_if 124 with fail
                 go_cut [14] (fun v wx => v = .int .i64 (stn r pstate) ∧ w5 = wx)
                 case first =>
                   clear HO HN
                   by_cases hs : pstate = 0
                   · subst hs
                     rcases hr4 with rfl | rfl | rfl | rfl <;> (go_wp2_with fail) <;> go_meet <;> exact ⟨rfl, rfl⟩
                   · have hs2 : (pstate == 0) = false := by simpa using hs
                     rcases hr4 with rfl | rfl | rfl | rfl <;> (go_wp2_with fail) <;> go_meet <;> exact ⟨by simp [stn, hs], rfl⟩
                 case rest =>
                   obtain ⟨rfl, rfl⟩ := hcut
                   clear p1
                   have hHO := HO.out
                   clear HO
                   rcases hHO with ⟨hq, hX⟩ | ⟨hq, h3, hX⟩ | ⟨hq, h3, hX⟩
                   · rw [hq]
                     have HX : Hid (si.onto i r = si.put i ⟨pc, up, heard, pw, r, pstate, psince⟩) := hX
                     clear hq hX
                     go_wp2_with ((with_reducible refine at_store 3 (.tmp 144) (.tmp 143) ?_); refine wpList_store_cell rfl 3 (.tmp 144) (.tmp 143) rfl (wr.heap.size) 1 (.int .i64 r) rfl rfl 75 _ HP.out (show 1 < 30 from by decide) (by kernel_rfl) rfl (B) hBr ?_)
                     intro wa hRa hoa hsa hba
                     have HP : Hid (RowIs wa wr.heap.size 75 #[.int .i64 pc, .int .i64 r, .int .i64 pstate, .int .i64 psince, .bool up, .bool heard, .int .u8 ((pw.r.f 0).toNat : Int), .int .u8 ((pw.r.f 1).toNat : Int), .int .u8 ((pw.r.f 2).toNat : Int), .int .u8 ((pw.r.f 3).toNat : Int), .int .u8 ((pw.r.f 4).toNat : Int), .int .u8 ((pw.r.f 5).toNat : Int), .int .u8 ((pw.r.f 6).toNat : Int), .int .u8 ((pw.r.f 7).toNat : Int), .int .u8 ((pw.b.f 0).toNat : Int), .int .u8 ((pw.b.f 1).toNat : Int), .int .u8 ((pw.b.f 2).toNat : Int), .int .u8 ((pw.b.f 3).toNat : Int), .int .u8 ((pw.b.f 4).toNat : Int), .int .u8 ((pw.b.f 5).toNat : Int), .int .u8 ((pw.b.f 6).toNat : Int), .int .u8 ((pw.b.f 7).toNat : Int), .int .i64 pw.c, .int .i64 pw.p, .int .i64 pw.age, .int .i64 pw.ma, .int .i64 pw.he, .int .i64 pw.de, .bool pw.ch, .bool pw.ak]) := hRa
                     have HF := Lib.hid (HF.out.free hb4r hoa hba)
                     clear hRa hoa hsa hba
                     have c13 : wa.cell? ⟨w.heap.size, 13, none⟩ = some (.slice (some ⟨g, 0, none⟩) s.ports.length cap) := HF.out.box.cell 13
                     have hltx : i < si.ports.length := by have := HF.out.len; omega
                     go_wp2_with (first
                       | ((with_reducible refine at_load 75 (.tmp 11) ?_); refine wpList_load_midW rfl 75 (.tmp 11) rfl (wr.heap.size) (0) rfl [.int .i64 pc, .int .i64 r, .int .i64 pstate, .int .i64 psince, .bool up, .bool heard, .int .u8 ((pw.r.f 0).toNat : Int), .int .u8 ((pw.r.f 1).toNat : Int), .int .u8 ((pw.r.f 2).toNat : Int), .int .u8 ((pw.r.f 3).toNat : Int), .int .u8 ((pw.r.f 4).toNat : Int), .int .u8 ((pw.r.f 5).toNat : Int), .int .u8 ((pw.r.f 6).toNat : Int), .int .u8 ((pw.r.f 7).toNat : Int), .int .u8 ((pw.b.f 0).toNat : Int), .int .u8 ((pw.b.f 1).toNat : Int), .int .u8 ((pw.b.f 2).toNat : Int), .int .u8 ((pw.b.f 3).toNat : Int), .int .u8 ((pw.b.f 4).toNat : Int), .int .u8 ((pw.b.f 5).toNat : Int), .int .u8 ((pw.b.f 6).toNat : Int), .int .u8 ((pw.b.f 7).toNat : Int), .int .i64 pw.c, .int .i64 pw.p, .int .i64 pw.age, .int .i64 pw.ma, .int .i64 pw.he, .int .i64 pw.de, .bool pw.ch, .bool pw.ak] _ (range_of_row HP.out rfl) Try.underlying75 rfl (by kernel_rfl) ?_)
                       | ((with_reducible refine at_store 75 (.tmp 149) (.tmp 148) ?_); refine wpList_store_rp rfl 75 (.tmp 149) (.tmp 148) rfl g (i * 30) i 0 #[.int .i64 pc, .int .i64 r, .int .i64 pstate, .int .i64 psince, .bool up, .bool heard, .int .u8 ((pw.r.f 0).toNat : Int), .int .u8 ((pw.r.f 1).toNat : Int), .int .u8 ((pw.r.f 2).toNat : Int), .int .u8 ((pw.r.f 3).toNat : Int), .int .u8 ((pw.r.f 4).toNat : Int), .int .u8 ((pw.r.f 5).toNat : Int), .int .u8 ((pw.r.f 6).toNat : Int), .int .u8 ((pw.r.f 7).toNat : Int), .int .u8 ((pw.b.f 0).toNat : Int), .int .u8 ((pw.b.f 1).toNat : Int), .int .u8 ((pw.b.f 2).toNat : Int), .int .u8 ((pw.b.f 3).toNat : Int), .int .u8 ((pw.b.f 4).toNat : Int), .int .u8 ((pw.b.f 5).toNat : Int), .int .u8 ((pw.b.f 6).toNat : Int), .int .u8 ((pw.b.f 7).toNat : Int), .int .i64 pw.c, .int .i64 pw.p, .int .i64 pw.age, .int .i64 pw.ma, .int .i64 pw.he, .int .i64 pw.de, .bool pw.ch, .bool pw.ak] rfl rfl HF.out.ports hltx rfl (show 0 + 30 ≤ 30 from by decide) (by kernel_rfl) (by simp [Value.oneCell']) (⟨pc, up, heard, pw, r, pstate, psince⟩ : SP) (by rw [putAt_all30 _ _ (SP.rc_len _) rfl]; rfl) B hBg ?_))
                     intro wb hRb hob hsb hbb
                     have HF := Lib.hid (HF.out.putSet hRb hob hbb)
                     clear hRb hob hsb hbb c13 HP
                     go_wp2_with fail
                     refine ⟨⟨i + 1, by omega, by rw [HN.out], by go_num, by rw [HN.out]; show Hid (FAt _ _ _ _ _ _ _ _ _ _); rw [HX.out]; exact HF, ?_⟩, by simp [intOf]; omega⟩
                     show _ ∧ _
                     rw [HN.out]
                     have := HC.out
                     have := si.onto_chg i r
                     simp only at *
                     omega
                   · have hq2 : (stn r pstate == pstate) = false := by simpa using hq
                     have HX : Hid (si.onto i r = (⟨si.id, si.ma, si.he, si.de, si.ports, si.best, si.root, si.now, si.chg + 1⟩ : SS).put i ⟨pc, up, heard, pw, r, stn r pstate, si.now⟩) := hX
                     clear hq hX
                     generalize stn r pstate = q at *
                     have h3' : (pstate == 3) = true := by simpa using h3
                     have c12 : w5.cell? ⟨w.heap.size, 12, none⟩ = some (.int .i64 si.chg) := HF.out.box.cell 12
                     have hwr : IntKind.i64.wrap (si.chg + 1) = si.chg + 1 := IntWalk.i64_in _ (by have := HC.out; omega)
                     go_wp2_with ((with_reducible refine at_store 3 (.tmp 137) (.tmp 136) ?_); refine wpList_store_cell rfl 3 (.tmp 137) (.tmp 136) rfl (w.heap.size) 12 (.int .i64 (si.chg + 1)) rfl rfl 59 _ HF.out.box (show 12 < 33 from by decide) (by kernel_rfl) rfl (B) hBw ?_)
                     intro w6 hR6 ho6 hs6 hb6
                     have HF := Lib.hid (HF.out.boxSet (s' := (⟨si.id, si.ma, si.he, si.de, si.ports, si.best, si.root, si.now, si.chg + 1⟩ : SS)) rfl hR6 ho6 hb6)
                     have HP : Hid (RowIs w6 wr.heap.size 75 #[.int .i64 pc, .int .i64 prole, .int .i64 pstate, .int .i64 psince, .bool up, .bool heard, .int .u8 ((pw.r.f 0).toNat : Int), .int .u8 ((pw.r.f 1).toNat : Int), .int .u8 ((pw.r.f 2).toNat : Int), .int .u8 ((pw.r.f 3).toNat : Int), .int .u8 ((pw.r.f 4).toNat : Int), .int .u8 ((pw.r.f 5).toNat : Int), .int .u8 ((pw.r.f 6).toNat : Int), .int .u8 ((pw.r.f 7).toNat : Int), .int .u8 ((pw.b.f 0).toNat : Int), .int .u8 ((pw.b.f 1).toNat : Int), .int .u8 ((pw.b.f 2).toNat : Int), .int .u8 ((pw.b.f 3).toNat : Int), .int .u8 ((pw.b.f 4).toNat : Int), .int .u8 ((pw.b.f 5).toNat : Int), .int .u8 ((pw.b.f 6).toNat : Int), .int .u8 ((pw.b.f 7).toNat : Int), .int .i64 pw.c, .int .i64 pw.p, .int .i64 pw.age, .int .i64 pw.ma, .int .i64 pw.he, .int .i64 pw.de, .bool pw.ch, .bool pw.ak]) := rowIs_same HP.out (ho6 _ (by have := HF.out.h4; omega))
                     clear hR6 ho6 hs6 hb6 c12 hwr p2
                     go_wp2_with ((with_reducible refine at_store 3 (.tmp 139) (.tmp 138) ?_); refine wpList_store_cell rfl 3 (.tmp 139) (.tmp 138) rfl (wr.heap.size) 2 (.int .i64 q) rfl rfl 75 _ HP.out (show 2 < 30 from by decide) (by kernel_rfl) rfl (B) hBr ?_)
                     intro w7 hR7 ho7 hs7 hb7
                     have HP : Hid (RowIs w7 wr.heap.size 75 #[.int .i64 pc, .int .i64 prole, .int .i64 q, .int .i64 psince, .bool up, .bool heard, .int .u8 ((pw.r.f 0).toNat : Int), .int .u8 ((pw.r.f 1).toNat : Int), .int .u8 ((pw.r.f 2).toNat : Int), .int .u8 ((pw.r.f 3).toNat : Int), .int .u8 ((pw.r.f 4).toNat : Int), .int .u8 ((pw.r.f 5).toNat : Int), .int .u8 ((pw.r.f 6).toNat : Int), .int .u8 ((pw.r.f 7).toNat : Int), .int .u8 ((pw.b.f 0).toNat : Int), .int .u8 ((pw.b.f 1).toNat : Int), .int .u8 ((pw.b.f 2).toNat : Int), .int .u8 ((pw.b.f 3).toNat : Int), .int .u8 ((pw.b.f 4).toNat : Int), .int .u8 ((pw.b.f 5).toNat : Int), .int .u8 ((pw.b.f 6).toNat : Int), .int .u8 ((pw.b.f 7).toNat : Int), .int .i64 pw.c, .int .i64 pw.p, .int .i64 pw.age, .int .i64 pw.ma, .int .i64 pw.he, .int .i64 pw.de, .bool pw.ch, .bool pw.ak]) := hR7
                     have HF := Lib.hid (HF.out.free hb4r ho7 hb7)
                     clear hR7 ho7 hs7 hb7
                     have c11 : w7.cell? ⟨w.heap.size, 11, none⟩ = some (.int .i64 si.now) := HF.out.box.cell 11
                     go_wp2_with ((with_reducible refine at_store 3 (.tmp 142) (.tmp 141) ?_); refine wpList_store_cell rfl 3 (.tmp 142) (.tmp 141) rfl (wr.heap.size) 3 (.int .i64 si.now) rfl rfl 75 _ HP.out (show 3 < 30 from by decide) (by kernel_rfl) rfl (B) hBr ?_)
                     intro w8 hR8 ho8 hs8 hb8
                     have HP : Hid (RowIs w8 wr.heap.size 75 #[.int .i64 pc, .int .i64 prole, .int .i64 q, .int .i64 si.now, .bool up, .bool heard, .int .u8 ((pw.r.f 0).toNat : Int), .int .u8 ((pw.r.f 1).toNat : Int), .int .u8 ((pw.r.f 2).toNat : Int), .int .u8 ((pw.r.f 3).toNat : Int), .int .u8 ((pw.r.f 4).toNat : Int), .int .u8 ((pw.r.f 5).toNat : Int), .int .u8 ((pw.r.f 6).toNat : Int), .int .u8 ((pw.r.f 7).toNat : Int), .int .u8 ((pw.b.f 0).toNat : Int), .int .u8 ((pw.b.f 1).toNat : Int), .int .u8 ((pw.b.f 2).toNat : Int), .int .u8 ((pw.b.f 3).toNat : Int), .int .u8 ((pw.b.f 4).toNat : Int), .int .u8 ((pw.b.f 5).toNat : Int), .int .u8 ((pw.b.f 6).toNat : Int), .int .u8 ((pw.b.f 7).toNat : Int), .int .i64 pw.c, .int .i64 pw.p, .int .i64 pw.age, .int .i64 pw.ma, .int .i64 pw.he, .int .i64 pw.de, .bool pw.ch, .bool pw.ak]) := hR8
                     have HF := Lib.hid (HF.out.free hb4r ho8 hb8)
                     clear hR8 ho8 hs8 hb8 c11
                     go_wp2_with ((with_reducible refine at_store 3 (.tmp 144) (.tmp 143) ?_); refine wpList_store_cell rfl 3 (.tmp 144) (.tmp 143) rfl (wr.heap.size) 1 (.int .i64 r) rfl rfl 75 _ HP.out (show 1 < 30 from by decide) (by kernel_rfl) rfl (B) hBr ?_)
                     intro wa hRa hoa hsa hba
                     have HP : Hid (RowIs wa wr.heap.size 75 #[.int .i64 pc, .int .i64 r, .int .i64 q, .int .i64 si.now, .bool up, .bool heard, .int .u8 ((pw.r.f 0).toNat : Int), .int .u8 ((pw.r.f 1).toNat : Int), .int .u8 ((pw.r.f 2).toNat : Int), .int .u8 ((pw.r.f 3).toNat : Int), .int .u8 ((pw.r.f 4).toNat : Int), .int .u8 ((pw.r.f 5).toNat : Int), .int .u8 ((pw.r.f 6).toNat : Int), .int .u8 ((pw.r.f 7).toNat : Int), .int .u8 ((pw.b.f 0).toNat : Int), .int .u8 ((pw.b.f 1).toNat : Int), .int .u8 ((pw.b.f 2).toNat : Int), .int .u8 ((pw.b.f 3).toNat : Int), .int .u8 ((pw.b.f 4).toNat : Int), .int .u8 ((pw.b.f 5).toNat : Int), .int .u8 ((pw.b.f 6).toNat : Int), .int .u8 ((pw.b.f 7).toNat : Int), .int .i64 pw.c, .int .i64 pw.p, .int .i64 pw.age, .int .i64 pw.ma, .int .i64 pw.he, .int .i64 pw.de, .bool pw.ch, .bool pw.ak]) := hRa
                     have HF := Lib.hid (HF.out.free hb4r hoa hba)
                     clear hRa hoa hsa hba
                     have c13 : wa.cell? ⟨w.heap.size, 13, none⟩ = some (.slice (some ⟨g, 0, none⟩) s.ports.length cap) := HF.out.box.cell 13
                     have hltx : i < si.ports.length := by have := HF.out.len; omega
                     go_wp2_with (first
                       | ((with_reducible refine at_load 75 (.tmp 11) ?_); refine wpList_load_midW rfl 75 (.tmp 11) rfl (wr.heap.size) (0) rfl [.int .i64 pc, .int .i64 r, .int .i64 q, .int .i64 si.now, .bool up, .bool heard, .int .u8 ((pw.r.f 0).toNat : Int), .int .u8 ((pw.r.f 1).toNat : Int), .int .u8 ((pw.r.f 2).toNat : Int), .int .u8 ((pw.r.f 3).toNat : Int), .int .u8 ((pw.r.f 4).toNat : Int), .int .u8 ((pw.r.f 5).toNat : Int), .int .u8 ((pw.r.f 6).toNat : Int), .int .u8 ((pw.r.f 7).toNat : Int), .int .u8 ((pw.b.f 0).toNat : Int), .int .u8 ((pw.b.f 1).toNat : Int), .int .u8 ((pw.b.f 2).toNat : Int), .int .u8 ((pw.b.f 3).toNat : Int), .int .u8 ((pw.b.f 4).toNat : Int), .int .u8 ((pw.b.f 5).toNat : Int), .int .u8 ((pw.b.f 6).toNat : Int), .int .u8 ((pw.b.f 7).toNat : Int), .int .i64 pw.c, .int .i64 pw.p, .int .i64 pw.age, .int .i64 pw.ma, .int .i64 pw.he, .int .i64 pw.de, .bool pw.ch, .bool pw.ak] _ (range_of_row HP.out rfl) Try.underlying75 rfl (by kernel_rfl) ?_)
                       | ((with_reducible refine at_store 75 (.tmp 149) (.tmp 148) ?_); refine wpList_store_rp rfl 75 (.tmp 149) (.tmp 148) rfl g (i * 30) i 0 #[.int .i64 pc, .int .i64 r, .int .i64 q, .int .i64 si.now, .bool up, .bool heard, .int .u8 ((pw.r.f 0).toNat : Int), .int .u8 ((pw.r.f 1).toNat : Int), .int .u8 ((pw.r.f 2).toNat : Int), .int .u8 ((pw.r.f 3).toNat : Int), .int .u8 ((pw.r.f 4).toNat : Int), .int .u8 ((pw.r.f 5).toNat : Int), .int .u8 ((pw.r.f 6).toNat : Int), .int .u8 ((pw.r.f 7).toNat : Int), .int .u8 ((pw.b.f 0).toNat : Int), .int .u8 ((pw.b.f 1).toNat : Int), .int .u8 ((pw.b.f 2).toNat : Int), .int .u8 ((pw.b.f 3).toNat : Int), .int .u8 ((pw.b.f 4).toNat : Int), .int .u8 ((pw.b.f 5).toNat : Int), .int .u8 ((pw.b.f 6).toNat : Int), .int .u8 ((pw.b.f 7).toNat : Int), .int .i64 pw.c, .int .i64 pw.p, .int .i64 pw.age, .int .i64 pw.ma, .int .i64 pw.he, .int .i64 pw.de, .bool pw.ch, .bool pw.ak] rfl rfl HF.out.ports hltx rfl (show 0 + 30 ≤ 30 from by decide) (by kernel_rfl) (by simp [Value.oneCell']) (⟨pc, up, heard, pw, r, q, si.now⟩ : SP) (by rw [putAt_all30 _ _ (SP.rc_len _) rfl]; rfl) B hBg ?_))
                     intro wb hRb hob hsb hbb
                     have HF := Lib.hid (HF.out.putSet hRb hob hbb)
                     clear hRb hob hsb hbb c13 HP
                     go_wp2_with fail
                     refine ⟨⟨i + 1, by omega, by rw [HN.out], by go_num, by rw [HN.out]; show Hid (FAt _ _ _ _ _ _ _ _ _ _); rw [HX.out]; exact HF, ?_⟩, by simp [intOf]; omega⟩
                     show _ ∧ _
                     rw [HN.out]
                     have := HC.out
                     have := si.onto_chg i r
                     simp only at *
                     omega
                   · have hq2 : (stn r pstate == pstate) = false := by simpa using hq
                     have HX : Hid (si.onto i r = si.put i ⟨pc, up, heard, pw, r, stn r pstate, si.now⟩) := hX
                     clear hq hX
                     generalize stn r pstate = q at *
                     have h3' : (pstate == 3) = false := by simpa using h3
                     go_wp2_with ((with_reducible refine at_store 3 (.tmp 139) (.tmp 138) ?_); refine wpList_store_cell rfl 3 (.tmp 139) (.tmp 138) rfl (wr.heap.size) 2 (.int .i64 q) rfl rfl 75 _ HP.out (show 2 < 30 from by decide) (by kernel_rfl) rfl (B) hBr ?_)
                     intro w7 hR7 ho7 hs7 hb7
                     have HP : Hid (RowIs w7 wr.heap.size 75 #[.int .i64 pc, .int .i64 prole, .int .i64 q, .int .i64 psince, .bool up, .bool heard, .int .u8 ((pw.r.f 0).toNat : Int), .int .u8 ((pw.r.f 1).toNat : Int), .int .u8 ((pw.r.f 2).toNat : Int), .int .u8 ((pw.r.f 3).toNat : Int), .int .u8 ((pw.r.f 4).toNat : Int), .int .u8 ((pw.r.f 5).toNat : Int), .int .u8 ((pw.r.f 6).toNat : Int), .int .u8 ((pw.r.f 7).toNat : Int), .int .u8 ((pw.b.f 0).toNat : Int), .int .u8 ((pw.b.f 1).toNat : Int), .int .u8 ((pw.b.f 2).toNat : Int), .int .u8 ((pw.b.f 3).toNat : Int), .int .u8 ((pw.b.f 4).toNat : Int), .int .u8 ((pw.b.f 5).toNat : Int), .int .u8 ((pw.b.f 6).toNat : Int), .int .u8 ((pw.b.f 7).toNat : Int), .int .i64 pw.c, .int .i64 pw.p, .int .i64 pw.age, .int .i64 pw.ma, .int .i64 pw.he, .int .i64 pw.de, .bool pw.ch, .bool pw.ak]) := hR7
                     have HF := Lib.hid (HF.out.free hb4r ho7 hb7)
                     clear hR7 ho7 hs7 hb7 p2
                     have c11 : w7.cell? ⟨w.heap.size, 11, none⟩ = some (.int .i64 si.now) := HF.out.box.cell 11
                     go_wp2_with ((with_reducible refine at_store 3 (.tmp 142) (.tmp 141) ?_); refine wpList_store_cell rfl 3 (.tmp 142) (.tmp 141) rfl (wr.heap.size) 3 (.int .i64 si.now) rfl rfl 75 _ HP.out (show 3 < 30 from by decide) (by kernel_rfl) rfl (B) hBr ?_)
                     intro w8 hR8 ho8 hs8 hb8
                     have HP : Hid (RowIs w8 wr.heap.size 75 #[.int .i64 pc, .int .i64 prole, .int .i64 q, .int .i64 si.now, .bool up, .bool heard, .int .u8 ((pw.r.f 0).toNat : Int), .int .u8 ((pw.r.f 1).toNat : Int), .int .u8 ((pw.r.f 2).toNat : Int), .int .u8 ((pw.r.f 3).toNat : Int), .int .u8 ((pw.r.f 4).toNat : Int), .int .u8 ((pw.r.f 5).toNat : Int), .int .u8 ((pw.r.f 6).toNat : Int), .int .u8 ((pw.r.f 7).toNat : Int), .int .u8 ((pw.b.f 0).toNat : Int), .int .u8 ((pw.b.f 1).toNat : Int), .int .u8 ((pw.b.f 2).toNat : Int), .int .u8 ((pw.b.f 3).toNat : Int), .int .u8 ((pw.b.f 4).toNat : Int), .int .u8 ((pw.b.f 5).toNat : Int), .int .u8 ((pw.b.f 6).toNat : Int), .int .u8 ((pw.b.f 7).toNat : Int), .int .i64 pw.c, .int .i64 pw.p, .int .i64 pw.age, .int .i64 pw.ma, .int .i64 pw.he, .int .i64 pw.de, .bool pw.ch, .bool pw.ak]) := hR8
                     have HF := Lib.hid (HF.out.free hb4r ho8 hb8)
                     clear hR8 ho8 hs8 hb8 c11
                     go_wp2_with ((with_reducible refine at_store 3 (.tmp 144) (.tmp 143) ?_); refine wpList_store_cell rfl 3 (.tmp 144) (.tmp 143) rfl (wr.heap.size) 1 (.int .i64 r) rfl rfl 75 _ HP.out (show 1 < 30 from by decide) (by kernel_rfl) rfl (B) hBr ?_)
                     intro wa hRa hoa hsa hba
                     have HP : Hid (RowIs wa wr.heap.size 75 #[.int .i64 pc, .int .i64 r, .int .i64 q, .int .i64 si.now, .bool up, .bool heard, .int .u8 ((pw.r.f 0).toNat : Int), .int .u8 ((pw.r.f 1).toNat : Int), .int .u8 ((pw.r.f 2).toNat : Int), .int .u8 ((pw.r.f 3).toNat : Int), .int .u8 ((pw.r.f 4).toNat : Int), .int .u8 ((pw.r.f 5).toNat : Int), .int .u8 ((pw.r.f 6).toNat : Int), .int .u8 ((pw.r.f 7).toNat : Int), .int .u8 ((pw.b.f 0).toNat : Int), .int .u8 ((pw.b.f 1).toNat : Int), .int .u8 ((pw.b.f 2).toNat : Int), .int .u8 ((pw.b.f 3).toNat : Int), .int .u8 ((pw.b.f 4).toNat : Int), .int .u8 ((pw.b.f 5).toNat : Int), .int .u8 ((pw.b.f 6).toNat : Int), .int .u8 ((pw.b.f 7).toNat : Int), .int .i64 pw.c, .int .i64 pw.p, .int .i64 pw.age, .int .i64 pw.ma, .int .i64 pw.he, .int .i64 pw.de, .bool pw.ch, .bool pw.ak]) := hRa
                     have HF := Lib.hid (HF.out.free hb4r hoa hba)
                     clear hRa hoa hsa hba
                     have c13 : wa.cell? ⟨w.heap.size, 13, none⟩ = some (.slice (some ⟨g, 0, none⟩) s.ports.length cap) := HF.out.box.cell 13
                     have hltx : i < si.ports.length := by have := HF.out.len; omega
                     go_wp2_with (first
                       | ((with_reducible refine at_load 75 (.tmp 11) ?_); refine wpList_load_midW rfl 75 (.tmp 11) rfl (wr.heap.size) (0) rfl [.int .i64 pc, .int .i64 r, .int .i64 q, .int .i64 si.now, .bool up, .bool heard, .int .u8 ((pw.r.f 0).toNat : Int), .int .u8 ((pw.r.f 1).toNat : Int), .int .u8 ((pw.r.f 2).toNat : Int), .int .u8 ((pw.r.f 3).toNat : Int), .int .u8 ((pw.r.f 4).toNat : Int), .int .u8 ((pw.r.f 5).toNat : Int), .int .u8 ((pw.r.f 6).toNat : Int), .int .u8 ((pw.r.f 7).toNat : Int), .int .u8 ((pw.b.f 0).toNat : Int), .int .u8 ((pw.b.f 1).toNat : Int), .int .u8 ((pw.b.f 2).toNat : Int), .int .u8 ((pw.b.f 3).toNat : Int), .int .u8 ((pw.b.f 4).toNat : Int), .int .u8 ((pw.b.f 5).toNat : Int), .int .u8 ((pw.b.f 6).toNat : Int), .int .u8 ((pw.b.f 7).toNat : Int), .int .i64 pw.c, .int .i64 pw.p, .int .i64 pw.age, .int .i64 pw.ma, .int .i64 pw.he, .int .i64 pw.de, .bool pw.ch, .bool pw.ak] _ (range_of_row HP.out rfl) Try.underlying75 rfl (by kernel_rfl) ?_)
                       | ((with_reducible refine at_store 75 (.tmp 149) (.tmp 148) ?_); refine wpList_store_rp rfl 75 (.tmp 149) (.tmp 148) rfl g (i * 30) i 0 #[.int .i64 pc, .int .i64 r, .int .i64 q, .int .i64 si.now, .bool up, .bool heard, .int .u8 ((pw.r.f 0).toNat : Int), .int .u8 ((pw.r.f 1).toNat : Int), .int .u8 ((pw.r.f 2).toNat : Int), .int .u8 ((pw.r.f 3).toNat : Int), .int .u8 ((pw.r.f 4).toNat : Int), .int .u8 ((pw.r.f 5).toNat : Int), .int .u8 ((pw.r.f 6).toNat : Int), .int .u8 ((pw.r.f 7).toNat : Int), .int .u8 ((pw.b.f 0).toNat : Int), .int .u8 ((pw.b.f 1).toNat : Int), .int .u8 ((pw.b.f 2).toNat : Int), .int .u8 ((pw.b.f 3).toNat : Int), .int .u8 ((pw.b.f 4).toNat : Int), .int .u8 ((pw.b.f 5).toNat : Int), .int .u8 ((pw.b.f 6).toNat : Int), .int .u8 ((pw.b.f 7).toNat : Int), .int .i64 pw.c, .int .i64 pw.p, .int .i64 pw.age, .int .i64 pw.ma, .int .i64 pw.he, .int .i64 pw.de, .bool pw.ch, .bool pw.ak] rfl rfl HF.out.ports hltx rfl (show 0 + 30 ≤ 30 from by decide) (by kernel_rfl) (by simp [Value.oneCell']) (⟨pc, up, heard, pw, r, q, si.now⟩ : SP) (by rw [putAt_all30 _ _ (SP.rc_len _) rfl]; rfl) B hBg ?_))
                     intro wb hRb hob hsb hbb
                     have HF := Lib.hid (HF.out.putSet hRb hob hbb)
                     clear hRb hob hsb hbb c13 HP
                     go_wp2_with fail
                     refine ⟨⟨i + 1, by omega, by rw [HN.out], by go_num, by rw [HN.out]; show Hid (FAt _ _ _ _ _ _ _ _ _ _); rw [HX.out]; exact HF, ?_⟩, by simp [intOf]; omega⟩
                     show _ ∧ _
                     rw [HN.out]
                     have := HC.out
                     have := si.onto_chg i r
                     simp only at *
                     omega
          · obtain rfl : i = s.ports.length := by omega
            rw [← HFD.out] at HF
            rw [← HFD.out]
            clear HFD HC
            go_wp2_with (first
              | ((with_reducible refine at_load 59 (.tmp 1) ?_); refine wpList_load_midW rfl 59 (.tmp 1) rfl (w.heap.size) (0) rfl [.int .u8 ((s.found.1.id.f 0).toNat : Int), .int .u8 ((s.found.1.id.f 1).toNat : Int), .int .u8 ((s.found.1.id.f 2).toNat : Int), .int .u8 ((s.found.1.id.f 3).toNat : Int), .int .u8 ((s.found.1.id.f 4).toNat : Int), .int .u8 ((s.found.1.id.f 5).toNat : Int), .int .u8 ((s.found.1.id.f 6).toNat : Int), .int .u8 ((s.found.1.id.f 7).toNat : Int), .int .i64 s.found.1.ma, .int .i64 s.found.1.he, .int .i64 s.found.1.de, .int .i64 s.found.1.now, .int .i64 s.found.1.chg, (.slice (some ⟨g, 0, none⟩) s.ports.length cap), .int .u8 ((s.found.1.best.r.f 0).toNat : Int), .int .u8 ((s.found.1.best.r.f 1).toNat : Int), .int .u8 ((s.found.1.best.r.f 2).toNat : Int), .int .u8 ((s.found.1.best.r.f 3).toNat : Int), .int .u8 ((s.found.1.best.r.f 4).toNat : Int), .int .u8 ((s.found.1.best.r.f 5).toNat : Int), .int .u8 ((s.found.1.best.r.f 6).toNat : Int), .int .u8 ((s.found.1.best.r.f 7).toNat : Int), .int .i64 s.found.1.best.c, .int .u8 ((s.found.1.best.b.f 0).toNat : Int), .int .u8 ((s.found.1.best.b.f 1).toNat : Int), .int .u8 ((s.found.1.best.b.f 2).toNat : Int), .int .u8 ((s.found.1.best.b.f 3).toNat : Int), .int .u8 ((s.found.1.best.b.f 4).toNat : Int), .int .u8 ((s.found.1.best.b.f 5).toNat : Int), .int .u8 ((s.found.1.best.b.f 6).toNat : Int), .int .u8 ((s.found.1.best.b.f 7).toNat : Int), .int .i64 s.found.1.best.p, .int .i64 s.found.1.root] _ (range_of_row HF.out.box rfl) Try.underlying59 rfl (by kernel_rfl) ?_)
              | ((with_reducible refine at_store 59 (.tmp 2) (.tmp 150) ?_); refine wpList_store_own rfl 59 (.tmp 2) (.tmp 150) rfl (w.heap.size + 1) _ rfl rfl _ _ HF.out.ret (by kernel_rfl) rfl (by simp [Value.oneCell']) (B) (by omega) ?_))
            intro we hRe hoe hse hbe
            have HRE : Hid (RowIs we (w.heap.size + 1) 59 #[.int .u8 ((s.found.1.id.f 0).toNat : Int), .int .u8 ((s.found.1.id.f 1).toNat : Int), .int .u8 ((s.found.1.id.f 2).toNat : Int), .int .u8 ((s.found.1.id.f 3).toNat : Int), .int .u8 ((s.found.1.id.f 4).toNat : Int), .int .u8 ((s.found.1.id.f 5).toNat : Int), .int .u8 ((s.found.1.id.f 6).toNat : Int), .int .u8 ((s.found.1.id.f 7).toNat : Int), .int .i64 s.found.1.ma, .int .i64 s.found.1.he, .int .i64 s.found.1.de, .int .i64 s.found.1.now, .int .i64 s.found.1.chg, (.slice (some ⟨g, 0, none⟩) s.ports.length cap), .int .u8 ((s.found.1.best.r.f 0).toNat : Int), .int .u8 ((s.found.1.best.r.f 1).toNat : Int), .int .u8 ((s.found.1.best.r.f 2).toNat : Int), .int .u8 ((s.found.1.best.r.f 3).toNat : Int), .int .u8 ((s.found.1.best.r.f 4).toNat : Int), .int .u8 ((s.found.1.best.r.f 5).toNat : Int), .int .u8 ((s.found.1.best.r.f 6).toNat : Int), .int .u8 ((s.found.1.best.r.f 7).toNat : Int), .int .i64 s.found.1.best.c, .int .u8 ((s.found.1.best.b.f 0).toNat : Int), .int .u8 ((s.found.1.best.b.f 1).toNat : Int), .int .u8 ((s.found.1.best.b.f 2).toNat : Int), .int .u8 ((s.found.1.best.b.f 3).toNat : Int), .int .u8 ((s.found.1.best.b.f 4).toNat : Int), .int .u8 ((s.found.1.best.b.f 5).toNat : Int), .int .u8 ((s.found.1.best.b.f 6).toNat : Int), .int .u8 ((s.found.1.best.b.f 7).toNat : Int), .int .i64 s.found.1.best.p, .int .i64 s.found.1.root]) := hRe
            have hRA : RAt B g cap we s.found.1.ports := HF.out.ports.same (hoe _ (by have := HF.out.hg; omega))
            have hbf := HF.out.below.trans hbe
            have hof : Only [g] w we := ⟨Nat.le_trans HF.out.only.1 hbe.size, fun j hj hn => (hoe j (by omega)).trans (HF.out.only.2 j hj hn)⟩
            clear hRe hoe hse hbe HF c13
            go_wp2_with fail
            refine bodyPost_ret (results_row_tmp1 Try.results37 _ _ (w.heap.size + 1) _ _ _ rfl HRE.out Try.underlying59 rfl (by kernel_rfl)) rfl ?_
            exact ⟨rfl, hRA, hbf, hof⟩
end Go.Proofs.Ytdhiaidbpjjljaa
