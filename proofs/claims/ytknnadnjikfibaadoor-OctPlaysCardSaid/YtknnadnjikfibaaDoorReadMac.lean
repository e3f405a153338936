/- oct.ReadMac. By an AI agent. -/
import Derived.Test.YtknnadnjikfibaaDoorRead0
import Derived.Test.YtknnadnjikfibaaDoorNumber
import Derived.Sort.CutIn
namespace Go.Proofs.YtknnadnjikfibaaDoor
open Go.RowKit Go.Shelf Go.Sort
attribute [local go_sem] Oper.semAt_some

namespace Oct
def hexv (b : UInt8) : Int := Lib.indexByte [48, 49, 50, 51, 52, 53, 54, 55, 56, 57, 97, 98, 99, 100, 101, 102] b
theorem hexv_bd (b : UInt8) : -1 ≤ hexv b ∧ hexv b < 16 := by
  refine ⟨Lib.indexByte_ge _ _, ?_⟩
  by_cases h : 0 ≤ hexv b
  · obtain ⟨i, e1, e2, _⟩ := parts_at b _ h
    have e3 : hexv b = i := e1
    rw [e3]
    simp at e2
    omega
  · omega
def pairOf : List UInt8 → Option Nat
  | [a, b] => if 0 ≤ hexv a ∧ 0 ≤ hexv b then some (16 * (hexv a).toNat + (hexv b).toNat) else none
  | _ => none
theorem pairOf_lt {l : List UInt8} {v : Nat} (h : pairOf l = some v) : v < 256 := by
  match l, h with
  | [a, b], h =>
    have h : (if 0 ≤ hexv a ∧ 0 ≤ hexv b then some (16 * (hexv a).toNat + (hexv b).toNat) else none) = some v := h
    have h1 := hexv_bd a
    have h2 := hexv_bd b
    by_cases hc : 0 ≤ hexv a ∧ 0 ≤ hexv b
    · rw [if_pos hc] at h
      have := Option.some.inj h
      omega
    · rw [if_neg hc] at h
      cases h
theorem or_nib (a b : Nat) (ha : a < 16) (hb : b < 16) : bits .or .i64 ((a : Int) * 16) (b : Int) = ((16 * a + b : Nat) : Int) := by
  have e1 : (BitVec.ofInt 64 ((a : Int) * 16)).toNat = a * 16 := by
    rw [BitVec.toNat_ofInt]; omega
  have e2 : (BitVec.ofInt 64 (b : Int)).toNat = b := by
    rw [BitVec.toNat_ofInt]; omega
  have key : (BitVec.ofInt 64 ((a : Int) * 16) ||| BitVec.ofInt 64 (b : Int)).toNat = 16 * a + b := by
    rw [BitVec.toNat_or, e1, e2]
    have := Nat.two_pow_add_eq_or_of_lt (i := 4) (b := b) (by simpa using hb) a
    rw [Nat.mul_comm a 16]
    simpa using this.symm
  show IntKind.i64.wrap ((BitVec.ofInt 64 ((a : Int) * 16) ||| BitVec.ofInt 64 (b : Int)).toNat : Nat) = _
  rw [key, IntKind.wrap_i64]
  omega
theorem pairOf_len {l : List UInt8} (h : l.length ≠ 2) : pairOf l = none := by
  match l, h with
  | [], _ => rfl
  | [_], _ => rfl
  | [_, _], h => exact absurd rfl h
  | _ :: _ :: _ :: _, _ => rfl
/-- what the pieces come to -/
def reads (f : List UInt8 → Option Nat) (pre : List ByteArray) (vals : List Nat) : Prop := pre.map (fun p => f p.data.toList) = vals.map some
theorem reads_nil (f : List UInt8 → Option Nat) : reads f [] [] := rfl
theorem reads_snoc {f : List UInt8 → Option Nat} {pre : List ByteArray} {vals : List Nat} {x : ByteArray} {v : Nat} (h : reads f pre vals) (hx : f x.data.toList = some v) : reads f (pre ++ [x]) (vals ++ [v]) := by
  unfold reads at *
  rw [List.map_append, List.map_append, h, List.map_cons, List.map_cons, hx]
  rfl
theorem reads_bad {f : List UInt8 → Option Nat} {pre : List ByteArray} {vals : List Nat} {x : ByteArray} (hx : f x.data.toList = none) : ¬ reads f (pre ++ [x]) vals := fun h => by
  unfold reads at h
  rw [List.map_append, List.map_cons, hx] at h
  have hm : (none : Option Nat) ∈ vals.map some := by rw [← h]; simp
  obtain ⟨v, _, e⟩ := List.mem_map.1 hm
  cases e
theorem reads_len {f : List UInt8 → Option Nat} {pre : List ByteArray} {vals : List Nat} (h : reads f pre vals) : pre.length = vals.length := by
  have := congrArg List.length h
  simpa using this
theorem reads_pre {f : List UInt8 → Option Nat} {pre ps : List ByteArray} {vals : List Nat} (h : reads f ps vals) (hp : pre <+: ps) : ∃ vs, reads f pre vs ∧ vs.length ≤ vals.length := by
  obtain ⟨r, rfl⟩ := hp
  refine ⟨vals.take pre.length, ?_, by rw [List.length_take]; omega⟩
  unfold reads at *
  rw [List.map_append] at h
  have := congrArg (List.take pre.length) h
  rw [List.take_left' (by simp)] at this
  rw [this, List.map_take]
/-- a text is an address of N numbers -/
def Reads (c : UInt8) (f : List UInt8 → Option Nat) (N : Nat) (s : ByteArray) (vals : List Nat) : Prop := vals.length = N ∧ reads f (pieces c s) vals
end Oct

theorem hex_any (b : UInt8) (w : World) : Calls Tryd.prog 24 #[.string ⟨#[48, 49, 50, 51, 52, 53, 54, 55, 56, 57, 97, 98, 99, 100, 101, 102]⟩, .int .u8 (b.toNat : Int)] w fun e w' => e = .returned (.int .i64 (Oct.hexv b)) ∧ w = w' := by
  have h := index_byte_any ⟨#[48, 49, 50, 51, 52, 53, 54, 55, 56, 57, 97, 98, 99, 100, 101, 102]⟩ (b.toNat : Int) w
  have e : (b.toNat : Int).toNat.toUInt8 = b := by simp
  rw [e] at h
  exact h

theorem infoMac : (Tryd.prog.info? 24).map (·.size) = some 6 := by kernel_rfl
theorem zerosMac : bytesV 6 [] = #[.int .u8 0, .int .u8 0, .int .u8 0, .int .u8 0, .int .u8 0, .int .u8 0] := rfl

/-- an address is told, or that there is none -/
def MacAns (s : ByteArray) (e : Ending) : Prop := (∃ vals, Oct.Reads 58 Oct.pairOf 6 s vals ∧ e = .returned (.tuple #[.agg (bytesV 6 vals), .int .i64 0])) ∨ ((∀ vals, ¬ Oct.Reads 58 Oct.pairOf 6 s vals) ∧ e = .returned (.tuple #[.agg (bytesV 6 []), .int .i64 3]))

set_option maxRecDepth 100000 in
set_option maxHeartbeats 8000000 in
theorem readMac_in (s : ByteArray) (hsz : s.size ≤ 100000) (w : World) : CallsIn Fence.wide 8 Tryd.prog 7 #[.string s] w fun e w' => MacAns s e ∧ Below w.heap.size w w' := by
  refine callsIn_of_wp_marks Tryd.func7 rfl trivial ?_ rfl
  simp only [Tryd.ntmps7, List.size_toArray, List.length_cons, List.length_nil, Nat.reduceAdd, Nat.reduceSub, Array.replicate_succ, Array.replicate_zero, List.push_toArray, List.append_toArray, List.nil_append, List.cons_append]
  gi_wp2_with (refine ⟨trivial, ?_⟩; gi_at_call 23; refine (callsIn_wide.2 (splitSeq_one _ _ _)).mono ?_; rintro e w' ⟨rfl, rfl⟩)
  have hz : w.heap.size + 1 + 1 + 1 + 1 = w.heap.size + 4 := by omega
  have hW : ∃ W0, (((((((w.alloc (.cells #[.int .u8 0, .int .u8 0, .int .u8 0, .int .u8 0, .int .u8 0, .int .u8 0] 24)).alloc (.cells #[.int .i64 0] 25)).alloc (.cells #[.int .u8 0, .int .u8 0, .int .u8 0, .int .u8 0, .int .u8 0, .int .u8 0] 24)).alloc (.cells #[.int .i64 0] 3)).alloc (.cells #[.string s] 9)).alloc (.cells #[.string ⟨#[58]⟩] 9)).alloc (.cells #[.int .i64 0] 3)) = W0 := ⟨_, rfl⟩
  obtain ⟨W0, hW⟩ := hW
  have hR0 : RdAt W0 w.heap.size 24 25 (bytesV 6 []) 0 (bytesV 6 []) 0 := by
    rw [zerosMac, ← hW]
    refine ⟨?_, ?_, ?_, ?_⟩
    · exact ((((((rowIs_new w _ _).alloc _).alloc _).alloc _).alloc _).alloc _).alloc _
    · have := (((((Boxed.new (w.alloc (.cells #[.int .u8 0, .int .u8 0, .int .u8 0, .int .u8 0, .int .u8 0, .int .u8 0] 24)) 25 (.int .i64 0)).alloc (.cells #[.int .u8 0, .int .u8 0, .int .u8 0, .int .u8 0, .int .u8 0, .int .u8 0] 24)).alloc (.cells #[.int .i64 0] 3)).alloc (.cells #[.string s] 9)).alloc (.cells #[.string ⟨#[58]⟩] 9)).alloc (.cells #[.int .i64 0] 3)
      simpa only [World.size_alloc, Nat.add_assoc, Nat.reduceAdd] using this
    · have := ((((rowIs_new ((w.alloc (.cells #[.int .u8 0, .int .u8 0, .int .u8 0, .int .u8 0, .int .u8 0, .int .u8 0] 24)).alloc (.cells #[.int .i64 0] 25)) 24 #[.int .u8 0, .int .u8 0, .int .u8 0, .int .u8 0, .int .u8 0, .int .u8 0]).alloc (.cells #[.int .i64 0] 3)).alloc (.cells #[.string s] 9)).alloc (.cells #[.string ⟨#[58]⟩] 9)).alloc (.cells #[.int .i64 0] 3)
      simpa only [World.size_alloc, Nat.add_assoc, Nat.reduceAdd] using this
    · show Boxed _ _ _ (.int .i64 0)
      have := (((Boxed.new (((w.alloc (.cells #[.int .u8 0, .int .u8 0, .int .u8 0, .int .u8 0, .int .u8 0, .int .u8 0] 24)).alloc (.cells #[.int .i64 0] 25)).alloc (.cells #[.int .u8 0, .int .u8 0, .int .u8 0, .int .u8 0, .int .u8 0, .int .u8 0] 24)) 3 (.int .i64 0)).alloc (.cells #[.string s] 9)).alloc (.cells #[.string ⟨#[58]⟩] 9)).alloc (.cells #[.int .i64 0] 3)
      simpa only [World.size_alloc, Nat.add_assoc, Nat.reduceAdd] using this
  have hB0 : Boxed W0 (w.heap.size + 4) 9 (.string s) := by
    rw [← hW]
    have := ((Boxed.new ((((w.alloc (.cells #[.int .u8 0, .int .u8 0, .int .u8 0, .int .u8 0, .int .u8 0, .int .u8 0] 24)).alloc (.cells #[.int .i64 0] 25)).alloc (.cells #[.int .u8 0, .int .u8 0, .int .u8 0, .int .u8 0, .int .u8 0, .int .u8 0] 24)).alloc (.cells #[.int .i64 0] 3)) 9 (.string s)).alloc (.cells #[.string ⟨#[58]⟩] 9)).alloc (.cells #[.int .i64 0] 3)
    simpa only [World.size_alloc, Nat.add_assoc, Nat.reduceAdd] using this
  have hB1 : Boxed W0 (w.heap.size + 4 + 1) 9 (.string ⟨#[58]⟩) := by
    rw [← hW]
    have := (Boxed.new (((((w.alloc (.cells #[.int .u8 0, .int .u8 0, .int .u8 0, .int .u8 0, .int .u8 0, .int .u8 0] 24)).alloc (.cells #[.int .i64 0] 25)).alloc (.cells #[.int .u8 0, .int .u8 0, .int .u8 0, .int .u8 0, .int .u8 0, .int .u8 0] 24)).alloc (.cells #[.int .i64 0] 3)).alloc (.cells #[.string s] 9)) 9 (.string ⟨#[58]⟩)).alloc (.cells #[.int .i64 0] 3)
    simpa only [World.size_alloc, Nat.add_assoc, Nat.reduceAdd] using this
  have hB2 : Boxed W0 (w.heap.size + 4 + 2) 3 (.int .i64 0) := by
    rw [← hW]
    have := Boxed.new ((((((w.alloc (.cells #[.int .u8 0, .int .u8 0, .int .u8 0, .int .u8 0, .int .u8 0, .int .u8 0] 24)).alloc (.cells #[.int .i64 0] 25)).alloc (.cells #[.int .u8 0, .int .u8 0, .int .u8 0, .int .u8 0, .int .u8 0, .int .u8 0] 24)).alloc (.cells #[.int .i64 0] 3)).alloc (.cells #[.string s] 9)).alloc (.cells #[.string ⟨#[58]⟩] 9)) 3 (.int .i64 0)
    simpa only [World.size_alloc, Nat.add_assoc, Nat.reduceAdd] using this
  have hbel : Below w.heap.size w W0 := by
    rw [← hW]
    exact (((((((Below.refl _ _).alloc (Nat.le_refl _) _).alloc (by simp) _).alloc (by simp; omega) _).alloc (by simp; omega) _).alloc (by simp; omega) _).alloc (by simp; omega) _).alloc (by simp; omega) _
  have hsz0 : W0.heap.size = w.heap.size + 7 := by rw [← hW]; simp
  rw [hW]
  clear hW
  rw [hz, show w.heap.size + 1 + 1 + 1 = w.heap.size + 3 by omega, show w.heap.size + 1 + 1 = w.heap.size + 2 by omega]
  clear hz
  have hHw : w.heap.size ≤ w.heap.size := Nat.le_refl _
  generalize hH : w.heap.size = H at *
  refine wpIn_rangeFunc_ownZ (F := Fence.wide) rfl (by decide) (gf := 35) (lb := #[.pointer (some ⟨H + 4 + 1, 0, none⟩), .pointer (some ⟨H + 4, 0, none⟩), .pointer (some ⟨H + 4 + 2, 0, none⟩)]) rfl trivial (enters_of Tryd.func35 (by kernel_rfl) rfl)
    (split_stops 7 (by decide) (H + 4) 58 s hsz W0 hB0 hB1 hB2) (by omega) (fun h k => h.trans k) (fun W l o hl => Three.put (N := H + 7) (by omega) W l o (by omega)) (fun _ => rfl)
    (fun pre W => ∃ vals, Oct.reads Oct.pairOf pre vals ∧ vals.length ≤ 6 ∧ RdAt W H 24 25 (bytesV 6 []) 0 (bytesV 6 vals) vals.length ∧ Below H w W ∧ H + 7 ≤ W.heap.size)
    (fun c pre W => c = .ret ∧ (∀ vals, Oct.reads Oct.pairOf pre vals → 6 < vals.length) ∧ RowIs W H 24 (bytesV 6 []) ∧ Boxed W (H + 1) 25 (.int .i64 3) ∧ Below H w W)
    ?hI ?hIx ?hIZ ?hIxZ ⟨[], Oct.reads_nil _, Nat.zero_le _, hR0, hbel, by omega⟩
    (fun x => { tmps := #[.string s, undef, .pointer (some ⟨H, 0, none⟩), .pointer (some ⟨H + 1, 0, none⟩), .pointer (some ⟨H + 2, 0, none⟩), .pointer (some ⟨H + 3, 0, none⟩), .string x, undef, undef, .string s, .func (.func 35) #[] #[.pointer (some ⟨H + 5, 0, none⟩), .pointer (some ⟨H + 4, 0, none⟩), .pointer (some ⟨H + 6, 0, none⟩)], .string x, undef, undef, undef, undef, undef, undef, undef, undef, undef, undef, undef, undef, undef, undef, undef, undef, undef, undef, undef, undef, undef, undef, undef, undef, undef, undef, undef, undef, undef, undef, undef, undef, undef, undef], defers := [] }) ?assign ?body ?done ?stop
  case hI =>
    rintro pre A B row ⟨vals, h1, h2, h3, h4, h5⟩ hg hr
    exact ⟨vals, h1, h2, h3.turned hg (fun r e => by have := (hr r e).1; omega), below_turned h4 (by omega) hg (fun r e => by have := (hr r e).1; omega), Nat.le_trans h5 hg.size⟩
  case hIx =>
    rintro c pre A B row ⟨h1, h2, h3, h4, h5⟩ hg hr
    exact ⟨h1, h2, h3.turned hg (fun r e => by have := (hr r e).1; omega), RowIs.turned h4 hg (fun r e => by have := (hr r e).1; omega), below_turned h5 (by omega) hg (fun r e => by have := (hr r e).1; omega)⟩
  case hIZ =>
    rintro pre A B row ⟨vals, h1, h2, h3, h4, h5⟩ hg hr
    exact ⟨vals, h1, h2, h3.turned hg (fun r e => .inl (hr r e)), below_turned h4 (by omega) hg (fun r e => by have := hr r e; omega), Nat.le_trans h5 hg.size⟩
  case hIxZ =>
    rintro c pre A B row ⟨h1, h2, h3, h4, h5⟩ hg hr
    exact ⟨h1, h2, h3.turned hg (fun r e => by have := hr r e; omega), RowIs.turned h4 hg (fun r e => by have := hr r e; omega), below_turned h5 (by omega) hg (fun r e => by have := hr r e; omega)⟩
  case assign =>
    intro l x W K hK
    gi_wp2
    exact hK
  case body =>
    rintro l pre x W ⟨vals, hv, h6, hR, hB, hW7⟩
    have hZ := hR.res
    have hE := hR.err
    have hA := hR.arr
    have hC := hR.cnt
    have cC := hC.cell
    have fC := hC.frozen
    by_cases hk : vals.length = 6
    · have d1 : ((vals.length : Int) == 6) = true := by rw [hk]; rfl
      gi_wp2_with ((with_reducible refine ri_at_store 24 (.tmp 2) (.tmp 19) ?_); refine wpListIn_store_rowR rfl 24 (.tmp 2) (.tmp 19) rfl H _ rfl rfl 24 _ hZ infoMac rfl (by kernel_rfl) H (Nat.le_refl _) ?_; intro w2 r2 o2 s2 b2; have e2 : Boxed w2 (H + 1) 25 (.int .i64 0) := (o2 _ (by omega)).trans hE; have ce := e2.cell; have fe := e2.frozen)
      exact ⟨((keepsFrom_block (g := H) (by omega) s2 o2).trans ((KeepsOthers.setCell _ _ _).from _)), rfl, fun vals' h => by have h1 := Oct.reads_len h; have h2 := Oct.reads_len hv; simp at h1; omega, r2.setOther (by omega) _ _, e2.set _, (hB.trans b2).setCell (p := ⟨H + 1, 0, none⟩) (by show H ≤ H + 1; omega) _⟩
    have d1 : ((vals.length : Int) == 6) = false := by rw [beq_eq_false_iff_ne]; omega
    by_cases hx2 : x.size = 2
    case neg =>
      have d2 : ((x.size : Int) == 2) = false := by rw [beq_eq_false_iff_ne]; omega
      have hbad : Oct.pairOf x.data.toList = none := Oct.pairOf_len (by simpa using hx2)
      gi_wp2_with ((with_reducible refine ri_at_store 24 (.tmp 2) (.tmp 19) ?_); refine wpListIn_store_rowR rfl 24 (.tmp 2) (.tmp 19) rfl H _ rfl rfl 24 _ hZ infoMac rfl (by kernel_rfl) H (Nat.le_refl _) ?_; intro w2 r2 o2 s2 b2; have e2 : Boxed w2 (H + 1) 25 (.int .i64 0) := (o2 _ (by omega)).trans hE; have ce := e2.cell; have fe := e2.frozen)
      exact ⟨((keepsFrom_block (g := H) (by omega) s2 o2).trans ((KeepsOthers.setCell _ _ _).from _)), rfl, fun vals' h => absurd h (Oct.reads_bad hbad), r2.setOther (by omega) _ _, e2.set _, (hB.trans b2).setCell (p := ⟨H + 1, 0, none⟩) (by show H ≤ H + 1; omega) _⟩
    case pos =>
      obtain ⟨a, b, rfl⟩ : ∃ a b, x = ⟨#[a, b]⟩ := by
        obtain ⟨⟨l⟩⟩ := x
        match l, hx2 with
        | [a, b], _ => exact ⟨a, b, rfl⟩
      clear hx2
      have CA : ∀ dd os, Calls Tryd.prog 24 #[.string ⟨#[48, 49, 50, 51, 52, 53, 54, 55, 56, 57, 97, 98, 99, 100, 101, 102]⟩, .int .u8 (((⟨#[a, b]⟩ : ByteArray)[0]'(by show 0 < 2; decide)).toNat : Int)] (grow (redrawn W dd) os) fun e w'' => e = .returned (.int .i64 (Oct.hexv a)) ∧ ∃ p : Regrown, w'' = grow (redrawn W p.d) p.os := fun dd os => (hex_any a _).mono fun e w' h => ⟨h.1, ⟨⟨dd, os⟩, h.2.symm⟩⟩
      have CB : ∀ dd os, Calls Tryd.prog 24 #[.string ⟨#[48, 49, 50, 51, 52, 53, 54, 55, 56, 57, 97, 98, 99, 100, 101, 102]⟩, .int .u8 (((⟨#[a, b]⟩ : ByteArray)[1]'(by show 1 < 2; decide)).toNat : Int)] (grow (redrawn W dd) os) fun e w'' => e = .returned (.int .i64 (Oct.hexv b)) ∧ ∃ p : Regrown, w'' = grow (redrawn W p.d) p.os := fun dd os => (hex_any b _).mono fun e w' h => ⟨h.1, ⟨⟨dd, os⟩, h.2.symm⟩⟩
      have HA := Lib.hid CA
      have HB := Lib.hid CB
      clear CA CB
      gi_upto_region 7 with fail
      refine wpIn_region_quietR (by kernel_rfl) (by kernel_rfl) (by kernel_rfl) ?_
      repeat (quiet_step (first | (with_reducible exact HA.out _ _) | (with_reducible exact HB.out _ _)))
      refine wpQuiet_nil ?_
      intro _ hw'
      obtain ⟨⟨dq, osq⟩, hw''⟩ := hw'
      subst hw''
      have b3 := below_regrown W dq osq
      clear HA HB
      generalize grow (redrawn W dq) osq = W3 at *
      have hR3 := hR.below b3
      have hBo := hB
      clear hB
      have hB := hBo.trans (b3.mono (by omega))
      have hk3 : ∀ B, KeepsFrom B W W3 := fun _ => keepsFrom_below b3
      have h73 : Three (H + 4) W W3 := Three.below (N := W.heap.size) (by omega) b3
      have hW73 := Nat.le_trans hW7 b3.size
      clear hR hZ hE hA hC cC fC hBo
      have hZ := hR3.res
      have hE := hR3.err
      have hA := hR3.arr
      have hC := hR3.cnt
      have cC := hC.cell
      have fC := hC.frozen
      have ha := Oct.hexv_bd a
      have hb := Oct.hexv_bd b
      by_cases hi : 0 ≤ Oct.hexv a
      case neg =>
        have hbad : Oct.pairOf (⟨#[a, b]⟩ : ByteArray).data.toList = none := by
          show (if 0 ≤ Oct.hexv a ∧ 0 ≤ Oct.hexv b then some (16 * (Oct.hexv a).toNat + (Oct.hexv b).toNat) else none) = none
          rw [if_neg (fun h => hi h.1)]
        have d3 : decide (Oct.hexv a < 0) = true := decide_eq_true (by omega)
        have hi : Oct.hexv a < 0 := by omega
        gi_wp2_with ((with_reducible refine ri_at_store 24 (.tmp 2) (.tmp 32) ?_); refine wpListIn_store_rowR rfl 24 (.tmp 2) (.tmp 32) rfl H _ rfl rfl 24 _ hZ infoMac rfl (by kernel_rfl) H (Nat.le_refl _) ?_; intro w2 r2 o2 s2 b2; have e2 : Boxed w2 (H + 1) 25 (.int .i64 0) := (o2 _ (by omega)).trans hE; have ce := e2.cell; have fe := e2.frozen)
        exact ⟨(hk3 _).trans ((keepsFrom_block (g := H) (by omega) s2 o2).trans ((KeepsOthers.setCell _ _ _).from _)), rfl, fun vals' h => absurd h (Oct.reads_bad hbad), r2.setOther (by omega) _ _, e2.set _, (hB.trans b2).setCell (p := ⟨H + 1, 0, none⟩) (by show H ≤ H + 1; omega) _⟩
      case pos =>
        by_cases hj : 0 ≤ Oct.hexv b
        case neg =>
          have hbad : Oct.pairOf (⟨#[a, b]⟩ : ByteArray).data.toList = none := by
            show (if 0 ≤ Oct.hexv a ∧ 0 ≤ Oct.hexv b then some (16 * (Oct.hexv a).toNat + (Oct.hexv b).toNat) else none) = none
            rw [if_neg (fun h => hj h.2)]
          have d3 : decide (Oct.hexv a < 0) = false := decide_eq_false (by omega)
          have d4 : decide (Oct.hexv b < 0) = true := decide_eq_true (by omega)
          gi_wp2_with ((with_reducible refine ri_at_store 24 (.tmp 2) (.tmp 32) ?_); refine wpListIn_store_rowR rfl 24 (.tmp 2) (.tmp 32) rfl H _ rfl rfl 24 _ hZ infoMac rfl (by kernel_rfl) H (Nat.le_refl _) ?_; intro w2 r2 o2 s2 b2; have e2 : Boxed w2 (H + 1) 25 (.int .i64 0) := (o2 _ (by omega)).trans hE; have ce := e2.cell; have fe := e2.frozen)
          exact ⟨(hk3 _).trans ((keepsFrom_block (g := H) (by omega) s2 o2).trans ((KeepsOthers.setCell _ _ _).from _)), rfl, fun vals' h => absurd h (Oct.reads_bad hbad), r2.setOther (by omega) _ _, e2.set _, (hB.trans b2).setCell (p := ⟨H + 1, 0, none⟩) (by show H ≤ H + 1; omega) _⟩
        case pos =>
          have hval : Oct.pairOf (⟨#[a, b]⟩ : ByteArray).data.toList = some (16 * (Oct.hexv a).toNat + (Oct.hexv b).toNat) := by
            show (if 0 ≤ Oct.hexv a ∧ 0 ≤ Oct.hexv b then some (16 * (Oct.hexv a).toNat + (Oct.hexv b).toNat) else none) = _
            rw [if_pos ⟨hi, hj⟩]
          obtain ⟨i, ei⟩ := Int.eq_ofNat_of_zero_le hi
          obtain ⟨j, ej⟩ := Int.eq_ofNat_of_zero_le hj
          rw [ei, ej] at hval
          rw [ei] at ha
          rw [ej] at hb
          rw [ei, ej]
          have hval : Oct.pairOf (⟨#[a, b]⟩ : ByteArray).data.toList = some (16 * i + j) := hval
          clear hi hj ei ej
          have hi16 : i < 16 := by omega
          have hj16 : j < 16 := by omega
          have ho := Oct.or_nib i j hi16 hj16
          have cA : W3.cell? ⟨H + 2, vals.length, none⟩ = some (.int .u8 0) := by rw [hA.cell]; exact bytesV_at 6 vals (by omega)
          have fA := hA.free vals.length
          have hk6 : vals.length < 6 := by omega
          clear ha hb hE hZ
          gi_wp2_with fail
          have e1 : ((16 * i + j : Nat) : Int) = 16 * (i : Int) + (j : Int) := by omega
          have e2 : (((vals ++ [16 * i + j]).length : Nat) : Int) = (vals.length : Int) + 1 := by simp
          have hA2 := hA.setOne vals.length (.int .u8 ((16 * i + j : Nat) : Int))
          rw [bytesV_put, e1] at hA2
          have hC2 : Boxed (W3.setCell ⟨H + 2, vals.length, none⟩ (.int .u8 (16 * (i : Int) + (j : Int)))) (H + 3) 3 (.int .i64 (vals.length : Int)) := RowIs.setOther hC (by omega) _ _
          refine ⟨(hk3 _).trans (((KeepsOthers.setCell _ _ _).trans (KeepsOthers.setCell _ _ _)).from _), (h73.trans (Three.setCell (by omega) _ _ _)).trans (Three.setCell (by omega) _ _ _), vals ++ [16 * i + j], Oct.reads_snoc hv hval, by simp; omega, ⟨(hR3.res.setOther (by omega) _ _).setOther (by omega) _ _, RowIs.setOther (RowIs.setOther hR3.err (by omega) _ _) (by omega) _ _, hA2.setOther (by omega) _ _, by rw [e2]; exact hC2.set _⟩, (hB.setCell (p := ⟨H + 2, vals.length, none⟩) (by show H ≤ H + 2; omega) _).setCell (p := ⟨H + 3, 0, none⟩) (by show H ≤ H + 3; omega) _, by simpa using hW73⟩
  case done =>
    rintro D xs W hD rfl ⟨vals, hv, h6, hR, hB, hW7⟩ hK
    have hZ := hR.res
    have hE := hR.err
    have hA := hR.arr
    have cC := hR.cnt.cell
    by_cases hk : vals.length = 6
    · have d1 : ((vals.length : Int) == 6) = true := by rw [hk]; rfl
      gi_wp2_with (first | ((with_reducible refine ri_at_load 24 (.tmp 4) ?_); refine wpListIn_load_rowR rfl 24 (.tmp 4) rfl (H + 2) rfl 24 _ _ hA Tryd.underlying24 rfl infoMac ?_) | ((with_reducible refine ri_at_store 24 (.tmp 2) (.tmp 45) ?_); refine wpListIn_store_rowR rfl 24 (.tmp 2) (.tmp 45) rfl H _ rfl rfl 24 _ hZ infoMac rfl (by kernel_rfl) H (Nat.le_refl _) ?_; intro w2 r2 o2 s2 b2; have e2 : Boxed w2 (H + 1) 25 (.int .i64 0) := (o2 _ (by omega)).trans hE; have ce := e2.cell; have fe := e2.frozen))
      have hK3 : (w2.setCell ⟨H + 1, 0, none⟩ (.int .i64 0)).heap[D]? = some (.deferred (some [])) := (KeepsOthers.setCell w2 ⟨H + 1, 0, none⟩ (.int .i64 0)).same D _ ((o2 D (by omega)).trans hK) rfl
      refine ⟨by simp, .inl ⟨_, _, rfl, run_takeDeferred hK3, ?_⟩⟩
      refine ⟨_, results_rows rfl _ _ H (H + 1) 24 25 (bytesV 6 vals) (.int .i64 0) _ rfl ((r2.setOther (by omega) _ _).hidden hK3) Tryd.underlying24 rfl infoMac rfl (RowIs.hidden (e2.set _) hK3) Tryd.underlying25 (by kernel_rfl), .inl ⟨vals, ⟨hk, hv⟩, rfl⟩, ?_⟩
      rw [hH]
      exact ((hB.trans b2).setCell (p := ⟨H + 1, 0, none⟩) (by show H ≤ H + 1; omega) _).trans (belowK_b (w := W0) (by omega) _ D _ _ (by omega) hK3 rfl rfl)
    · have d1 : ((vals.length : Int) == 6) = false := by rw [beq_eq_false_iff_ne]; omega
      have hno : ∀ vals', ¬ Oct.Reads 58 Oct.pairOf 6 s vals' := fun vals' h => by
        have h1 := Oct.reads_len h.2
        have h2 := Oct.reads_len hv
        have h3 := h.1
        omega
      gi_wp2_with ((with_reducible refine ri_at_store 24 (.tmp 2) (.tmp 44) ?_); refine wpListIn_store_rowR rfl 24 (.tmp 2) (.tmp 44) rfl H _ rfl rfl 24 _ hZ infoMac rfl (by kernel_rfl) H (Nat.le_refl _) ?_; intro w2 r2 o2 s2 b2; have e2 : Boxed w2 (H + 1) 25 (.int .i64 0) := (o2 _ (by omega)).trans hE; have ce := e2.cell; have fe := e2.frozen)
      have hK3 : (w2.setCell ⟨H + 1, 0, none⟩ (.int .i64 3)).heap[D]? = some (.deferred (some [])) := (KeepsOthers.setCell w2 ⟨H + 1, 0, none⟩ (.int .i64 3)).same D _ ((o2 D (by omega)).trans hK) rfl
      refine ⟨by simp, .inl ⟨_, _, rfl, run_takeDeferred hK3, ?_⟩⟩
      refine ⟨_, results_rows rfl _ _ H (H + 1) 24 25 (bytesV 6 []) (.int .i64 3) _ rfl ((r2.setOther (by omega) _ _).hidden hK3) Tryd.underlying24 rfl infoMac rfl (RowIs.hidden (e2.set _) hK3) Tryd.underlying25 (by kernel_rfl), .inr ⟨hno, rfl⟩, ?_⟩
      rw [hH]
      exact ((hB.trans b2).setCell (p := ⟨H + 1, 0, none⟩) (by show H ≤ H + 1; omega) _).trans (belowK_b (w := W0) (by omega) _ D _ _ (by omega) hK3 rfl rfl)
  case stop =>
    rintro D c pre W hD hpre ⟨rfl, hno, hZ, hE, hB⟩ hK
    gi_wp2
    refine ⟨by simp, .inl ⟨_, _, rfl, run_takeDeferred hK, ?_⟩⟩
    refine ⟨_, results_rows rfl _ _ H (H + 1) 24 25 (bytesV 6 []) (.int .i64 3) _ rfl (hZ.hidden hK) Tryd.underlying24 rfl infoMac rfl (RowIs.hidden hE hK) Tryd.underlying25 (by kernel_rfl), .inr ⟨fun vals h => ?_, rfl⟩, ?_⟩
    · obtain ⟨vs, h1, h2⟩ := Oct.reads_pre h.2 hpre
      have := hno vs h1
      have := h.1
      omega
    · rw [hH]
      exact hB.trans (belowK_b (w := W0) (by omega) _ D _ _ (by omega) hK rfl rfl)

theorem readMac_any (s : ByteArray) (hsz : s.size ≤ 100000) (w : World) : Calls Tryd.prog 7 #[.string s] w fun e w' => MacAns s e ∧ Below w.heap.size w w' := callsIn_wide.1 (readMac_in s hsz w)
end Go.Proofs.YtknnadnjikfibaaDoor
