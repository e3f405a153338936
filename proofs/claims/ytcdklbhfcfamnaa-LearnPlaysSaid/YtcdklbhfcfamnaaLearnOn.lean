/- maps.Values over a table's map; how many a port has. By an AI agent. -/
import Derived.Test.YtcdklbhfcfamnaaLearn0
import Derived.Test.YtcdklbhfcfamnaaFence
namespace Go.Proofs.Ytcdklbhfcfamnaa
open Go.RowKit Go.MapKept Go.Maps Go.WideShapes Go.Shelf
attribute [local go_sem] Oper.semAt_some

theorem info_place : (Try.prog.info? 67).map (·.size) = some 3 := by kernel_rfl

/-- one that comes out of a list of entries -/
theorem perm_pick {L : List Ent} {p : KV} {l : List KV} (h : (L.map Ent.kv).Perm (p :: l)) : ∃ e L', L.Perm (e :: L') ∧ e.kv = p ∧ l.Perm (L'.map Ent.kv) := by
  have hp : p ∈ L.map Ent.kv := h.mem_iff.2 (by simp)
  obtain ⟨e, he, rfl⟩ := List.mem_map.1 hp
  obtain ⟨l1, l2, rfl⟩ := List.append_of_mem he
  refine ⟨e, l1 ++ l2, List.perm_middle, rfl, ?_⟩
  have h2 := ((List.perm_middle (a := e) (l₁ := l1) (l₂ := l2)).map Ent.kv).symm.trans h
  exact (List.Perm.cons_inv h2).symm

set_option maxHeartbeats 1000000 in
theorem values_in (F : Fence) (n : Nat) (hf : F.fn 41) (hro : F.round = none) (mb : Option Nat) (w : World) :
    CallsIn F n Try.prog 41 #[.map mb] w fun e w' => e = .returned (.func (.func 46) #[] #[.pointer (some ⟨w.heap.size, 0, none⟩)]) ∧ w' = w.alloc (.cells #[.map mb] 61) := by
  refine callsIn_of_wp Try.func41 rfl hf ?_ hro
  simp only [Try.ntmps41, List.size_toArray, List.length_cons, List.length_nil, Nat.reduceAdd, Nat.reduceSub, Array.replicate_succ, Array.replicate_zero, List.push_toArray, List.append_toArray, List.nil_append, List.cons_append]
  gi_wp2
  go_ret
  exact ⟨rfl, rfl⟩

set_option maxRecDepth 100000 in
set_option maxHeartbeats 4000000 in
theorem values1_in (F : Fence) (n : Nat) (h8 : F.fn 46) (hro : F.round = none) (hn : 1 ≤ n) (l Bm b : Nat) (L : List Ent) (J Jx : List Ent → World → Prop)
    (hY : ∀ pre x W, J pre W → pre.length < L.length → YieldAt F (n - 1) Try.prog l #[placeV x.port x.age x.fixed] W fun e W' =>
      (e = .returned (.bool true) ∧ J (pre ++ [x]) W' ∧ KeepsWalks W W') ∨ (e = .returned (.bool false) ∧ Jx (pre ++ [x]) W'))
    (W : World) (hJ : AbidesFrom W.heap.size J) (hm : W.cell? ⟨Bm, 0, none⟩ = some (.map (some b))) (hown : MapP Try.prog 65 W b (L.map Ent.kv)) (h0 : J [] W) :
    CallsIn F n Try.prog 46 #[.func (.yield l) #[] #[], .pointer (some ⟨Bm, 0, none⟩)] W fun e W' => (∃ v, e = .returned v) ∧
      ((∃ xs, xs.Perm L ∧ J xs W') ∨ (∃ pre, True ∧ Jx pre W')) := by
  obtain ⟨o0, hrg, hit⟩ := run_range_mapP (P := Try.prog) (t := 61) Try.underlying61 hown
  refine callsIn_of_wp Try.func46 rfl h8 ?_ hro
  simp only [Try.ntmps46, List.size_toArray, List.length_cons, List.length_nil, Nat.reduceAdd, Nat.reduceSub, Array.replicate_succ, Array.replicate_zero, List.push_toArray, List.append_toArray, List.nil_append, List.cons_append]
  gi_wp2
  have hJ0 : J [] (W.alloc o0) := hJ [] W _ none h0 (World.grownBy_alloc W o0 none) (fun r e => by cases e)
  have hrW : W.heap.size ≤ W.heap.size := Nat.le_refl _
  have hmm : ∀ j, j < W.heap.size → (W.alloc o0).heap[j]? = W.heap[j]? := fun j hj => Below.heap_alloc W o0 j hj
  clear hrg h0
  generalize (W.alloc o0) = w0 at *
  generalize W.heap.size = r at *
  gi_loopw [4] (fun _ wr => ∃ (pre left : List Ent), IterAt Try.prog 65 wr r b (pre.map Ent.kv) (left.map Ent.kv) ∧ (pre ++ left).Perm L ∧ J pre wr)
    (fun _ wr => leftAt wr b r)
  case atStart =>
    exact ⟨[], L, hit, by simp, hJ0⟩
  case round =>
    obtain ⟨pre, left, hI, hP, hJs⟩ := hrel
    rcases run_nextP (P := Try.prog) hI with ⟨h0, hnx⟩ | ⟨p, left', w2, hpl, hnx, hE, hoth, hsz, hbl⟩
    · obtain rfl : left = [] := List.map_eq_nil_iff.1 h0
      gi_wp2
      go_end0
      exact ⟨⟨_, rfl⟩, .inl ⟨pre, by simpa using hP, hJs⟩⟩
    · obtain ⟨e, L', hpe, rfl, hl'⟩ := perm_pick hpl
      have hen := run_entryP (P := Try.prog) hE
      simp only [Ent.kv, placeV] at hnx hen
      have hg2 : wr.grownBy w2 (some r) := ⟨(hbl r (Nat.le_refl _)).os, (hbl r (Nat.le_refl _)).tape, (hbl r (Nat.le_refl _)).output, (hbl r (Nat.le_refl _)).size, fun k _ hk => hoth k (fun e => hk (by rw [e]))⟩
      have hJ2 : J pre w2 := hJ pre wr w2 _ hJs hg2 (fun r' e => by cases e; exact ⟨Nat.le_refl _, hI.iter_walk⟩)
      have hE3 := hE.iter.later ((Below.refl _ w2).alloc (Nat.le_refl _) (.cells #[.int .i64 e.port, .int .i64 e.age, .bool e.fixed] 67))
      have hJ3 : J pre (w2.alloc (.cells #[.int .i64 e.port, .int .i64 e.age, .bool e.fixed] 67)) := hJ pre w2 _ none hJ2 (World.grownBy_alloc w2 _ none) (fun r' e => by cases e)
      have hlen : pre.length < L.length := by
        have h1 := hP.length_eq
        have h2 := hpe.length_eq
        simp at h1 h2
        omega
      obtain ⟨fn, tmps, assign, body, hy, hR⟩ := hY pre e _ hJ3 hlen
      dsimp only [placeV] at hy
      gi_wp2
      refine hR.mono ?_
      have hP2 : (pre ++ [e] ++ L').Perm L := by
        refine List.Perm.trans ?_ hP
        rw [List.append_assoc]
        exact List.Perm.append_left pre hpe.symm
      rintro e' W3 (⟨rfl, hJ3, hk3⟩ | ⟨rfl, hJx3⟩)
      · gi_wp2
        have hrg3 := hE3.walks hk3
        go_roundw
        case rel => exact ⟨pre ++ [e], L', (hrg3.lperm hl').kperm (by rw [List.map_append]; exact (List.perm_append_comm (l₁ := [e.kv]))), hP2, hJ3⟩
        case measure =>
          rw [hrg3.left_eq, hI.left_eq, hpl.length_eq]
          simp
      · gi_wp2
        refine bodyPost_ret (results_none rfl _ _ _) rfl ?_
        exact ⟨⟨_, rfl⟩, .inr ⟨pre ++ [e], trivial, hJx3⟩⟩

theorem values_stops (F : Fence) (n : Nat) (hF : F.fn 46) (hro : F.round = none) (hn : 1 ≤ n) (Bm b : Nat) (L : List Ent) (w : World) (hBm : Bm < w.heap.size)
    (hc : w.cell? ⟨Bm, 0, none⟩ = some (.map (some b))) (hown : MapP Try.prog 65 w b (L.map Ent.kv)) :
    SeqStopsK F n Try.prog 46 #[.pointer (some ⟨Bm, 0, none⟩)] (fun x : Ent => #[placeV x.port x.age x.fixed]) KeepsWalks (fun xs => xs.Perm L) (fun _ => True) L.length w := fun l J Jx W hW hJ _ hY h0 =>
  values1_in F n hF hro hn l Bm b L J Jx hY W hJ ((hW.cell (p := ⟨Bm, 0, none⟩) hBm).trans hc) (hown.kept hW) h0

/-- how many of a port aren't fixed -/
def onN (port : Int) (L : List Ent) : Nat := (L.filter fun e => e.port == port && !e.fixed).length
theorem onN_snoc (port : Int) (L : List Ent) (e : Ent) : onN port (L ++ [e]) = onN port L + (if e.port == port && !e.fixed then 1 else 0) := by
  unfold onN
  rw [List.filter_append, List.length_append]
  congr 1
  cases h : (e.port == port && !e.fixed) <;> simp [h]
theorem onN_perm {port : Int} {L L' : List Ent} (h : L.Perm L') : onN port L = onN port L' := (h.filter _).length_eq
theorem onN_le (port : Int) (L : List Ent) : onN port L ≤ L.length := List.length_filter_le _ _

theorem rowIs_own {β : Type} (n : Nat) (t : TypeId) (cs : Array Value) (s : β) (W W' : World) (row : Option Nat) (h : RowIs W n t cs) (hg : W.grownBy W' row) (hr : ∀ r, row = some r → ∃ o : Obj, W.heap[r]? = some o ∧ o.isCells = false) : RowIs W' n t cs := by
  refine (hg.block n h.lt ?_).trans h
  intro e
  obtain ⟨o, ho, hc⟩ := hr n e.symm
  rw [show W.heap[n]? = _ from h] at ho
  cases ho
  cases hc

set_option maxRecDepth 100000 in
set_option maxHeartbeats 4000000 in
theorem on_in (F : Fence) (n : Nat) (h1 : F.fn 28) (h2 : F.fn 41) (h3 : F.fn 46) (hro : F.round = none) (hn : 6 ≤ n) (T M : Nat) (port : Int) (c0 c1 : Value) (L : List Ent) (w : World) (hT : RowIs w T 63 #[c0, c1, .map (some M)]) (hM : MapP Try.prog 65 w M (L.map Ent.kv)) (hL : L.length ≤ 1000000) :
    CallsIn F n Try.prog 28 #[.pointer (some ⟨T, 0, none⟩), .int .i64 port] w fun e W' => e = .returned (.int .i64 (onN port L : Nat)) ∧ Below w.heap.size w W' := by
  have hn1 : 1 ≤ n := by omega
  refine callsIn_of_wp_marks Try.func28 rfl h1 ?_ hro
  simp only [Try.ntmps28, List.size_toArray, List.length_cons, List.length_nil, Nat.reduceAdd, Nat.reduceSub, Array.replicate_succ, Array.replicate_zero, List.push_toArray, List.append_toArray, List.nil_append, List.cons_append]
  have bP := (Boxed.new w 3 (.int .i64 port)).alloc (.cells #[.int .i64 0] 3)
  have bN := Boxed.new (w.alloc (.cells #[.int .i64 port] 3)) 3 (.int .i64 0)
  have hB0 : Below w.heap.size w ((w.alloc (.cells #[.int .i64 port] 3)).alloc (.cells #[.int .i64 0] 3)) := ((Below.refl _ w).alloc (Nat.le_refl _) _).alloc (by simp) _
  have c2 : ((w.alloc (.cells #[.int .i64 port] 3)).alloc (.cells #[.int .i64 0] 3)).cell? ⟨T, 2, none⟩ = some (.map (some M)) := (hT.kept hB0).cell 2
  gi_wp2_with (gi_at_call 41; refine (values_in F (n - 1) h2 hro _ _).mono ?_; rintro e w' ⟨rfl, rfl⟩)
  have bV := Boxed.new ((w.alloc (.cells #[.int .i64 port] 3)).alloc (.cells #[.int .i64 0] 3)) 61 (.map (some M))
  have bP := bP.alloc (.cells #[.map (some M)] 61)
  have bN := bN.alloc (.cells #[.map (some M)] 61)
  simp only [World.size_alloc] at bV bN
  have hB1 := hB0.alloc (by simp; omega) (.cells #[.map (some M)] 61)
  have hsz : (((w.alloc (.cells #[.int .i64 port] 3)).alloc (.cells #[.int .i64 0] 3)).alloc (.cells #[.map (some M)] 61)).heap.size = w.heap.size + 3 := by simp
  obtain ⟨W0, hW0⟩ : ∃ W0, ((w.alloc (.cells #[.int .i64 port] 3)).alloc (.cells #[.int .i64 0] 3)).alloc (.cells #[.map (some M)] 61) = W0 := ⟨_, rfl⟩
  rw [hW0] at bP bN bV hB1 hsz ⊢
  clear hW0 c2 hB0
  refine wpIn_rangeFunc_ownH hro hn1 (gf := 46) (lb := #[.pointer (some ⟨w.heap.size + 1 + 1, 0, none⟩)]) rfl h3 (enters_of Try.func46 (by kernel_rfl) rfl)
    (values_stops F (n - 1) h3 hro (by omega) (w.heap.size + 1 + 1) M L W0 (by omega) bV.cell (hM.kept hB1)) walksK_t walksK_b (Below.refl _ _) (fun _ => rfl)
    (fun pre W => (Boxed W (w.heap.size + 1) 3 (.int .i64 (onN port pre : Nat)) ∧ Boxed W w.heap.size 3 (.int .i64 port)) ∧ Below w.heap.size w W)
    (fun _ _ _ => False)
    (OwnFrom.and (OwnFrom.and (Own.from (boxed_own _ _ (fun pre : List Ent => .int .i64 (onN port pre : Nat))) _) (Own.from (boxed_own _ _ _) _)) (ownFrom_below (Nat.le_refl _) (by omega)))
    (fun _ _ _ _ _ hs _ _ => hs)
    ⟨⟨bN, bP⟩, hB1⟩
    (fun x a' W => ∃ Bx, w.heap.size + 1 < Bx ∧ RowIs W Bx 67 #[.int .i64 x.port, .int .i64 x.age, .bool x.fixed] ∧ a' = { tmps := #[.pointer (some ⟨T, 0, none⟩), .int .i64 port, undef, .pointer (some ⟨w.heap.size, 0, none⟩), .int .i64 0, .pointer (some ⟨w.heap.size + 1, 0, none⟩), .pointer (some ⟨Bx, 0, none⟩), .pointer (some ⟨T, 0, none⟩), .pointer (some ⟨T, 0, none⟩), .pointer (some ⟨T, 2, none⟩), .map (some M), .func (.func 46) #[] #[.pointer (some ⟨w.heap.size + 1 + 1, 0, none⟩)], .agg #[.int .i64 x.port, .int .i64 x.age, .bool x.fixed], undef, undef, undef, undef, undef, undef, undef, undef, undef, undef, undef, undef], defers := [] })
    (fun x a' _ X Y row hs hg hr => by obtain ⟨Bx, h1, h2, h3⟩ := hs; exact ⟨Bx, h1, rowIs_own Bx _ _ () X Y row h2 hg (fun r e => (hr r e).2), h3⟩)
    ?assign ?body ?done ?stop
  case assign =>
    rintro l pre x W K ⟨⟨bN1, bP1⟩, hB2⟩ hK
    dsimp only [placeV]
    gi_wp2
    exact hK _ _ ((KeepsOthers.alloc _ _).from _) (KeepsWalks.alloc _ _) ⟨⟨bN1.alloc _, bP1.alloc _⟩, hB2.alloc hB2.size _⟩ ⟨W.heap.size, bN1.lt, rowIs_new _ _ _, rfl⟩
  case body =>
    rintro l pre x a' W hl ⟨r, hr⟩ ⟨⟨bN1, bP1⟩, hB2⟩ ⟨Bx, hBx, rX, rfl⟩ hlt
    have cN := bN1.cell
    have fN := bN1.frozen
    have cP := bP1.cell
    have cX0 := rX.cell 0
    have cX2 := rX.cell 2
    have hle := onN_le port pre
    have hsn := onN_snoc port pre x
    cases hp : (x.port == port)
    · gi_wp2
      exact ⟨KeepsFrom.refl _ _, KeepsWalks.refl _, ⟨⟨by rw [hsn, hp]; exact bN1, bP1⟩, hB2⟩⟩
    · cases hf : x.fixed
      · gi_wp2
        have e1 : ((onN port (pre ++ [x]) : Nat) : Int) = (onN port pre : Int) + 1 := by rw [hsn, hp, hf]; rfl
        exact ⟨(KeepsOthers.setCell _ _ _).from _, KeepsWalks.setCell _ _ _, ⟨⟨by rw [e1]; exact bN1.set _, bP1.other (by omega) _⟩, hB2.setCell (p := ⟨w.heap.size + 1, 0, none⟩) (by simp) _⟩⟩
      · gi_wp2
        exact ⟨KeepsFrom.refl _ _, KeepsWalks.refl _, ⟨⟨by rw [hsn, hp, hf]; exact bN1, bP1⟩, hB2⟩⟩
  case done =>
    rintro D zs W hD hpz ⟨⟨bN1, bP1⟩, hB2⟩ hK
    have cN := bN1.cell
    gi_wp2
    refine ⟨by simp, .inl ⟨_, _, rfl, run_takeDeferred hK, ?_⟩⟩
    exact ⟨_, results_tmp rfl _ _ _, by rw [← onN_perm hpz]; rfl, hB2.trans (belowK_b (w := w) (Nat.le_refl _) W D _ _ (by omega) hK rfl rfl)⟩
  case stop =>
    rintro D c pre W _ _ h _
    exact h.elim

theorem on_any (T M : Nat) (port : Int) (c0 c1 : Value) (L : List Ent) (w : World) (hT : RowIs w T 63 #[c0, c1, .map (some M)]) (hM : MapP Try.prog 65 w M (L.map Ent.kv)) (hL : L.length ≤ 1000000) :
    Calls Try.prog 28 #[.pointer (some ⟨T, 0, none⟩), .int .i64 port] w fun e W' => e = .returned (.int .i64 (onN port L : Nat)) ∧ Below w.heap.size w W' :=
  callsIn_wide.1 (on_in Fence.wide 6 trivial trivial trivial rfl (Nat.le_refl _) T M port c0 c1 L w hT hM hL)
end Go.Proofs.Ytcdklbhfcfamnaa
