/- Keys: identifiers and ends; when a net is right. By an AI agent. -/
import Derived.Test.YtcmokhpnooldgaaLn3
import Derived.Test.YtcmokhpnooldgaaKeyed
namespace Go.Proofs.Ytcmokhpnooldgaa
open Go.RowKit Go.WideShapes Go.Sort Grow Go.MapKept Go.Maps

abbrev Id8.v (x : Id8) : Value := .agg #[.int .u8 ((x.f 0).toNat : Int), .int .u8 ((x.f 1).toNat : Int), .int .u8 ((x.f 2).toNat : Int), .int .u8 ((x.f 3).toNat : Int), .int .u8 ((x.f 4).toNat : Int), .int .u8 ((x.f 5).toNat : Int), .int .u8 ((x.f 6).toNat : Int), .int .u8 ((x.f 7).toNat : Int)]
def Lk.fr (d : Lk) : Int × Int := (d.a, d.p)
def I64' (n : Int) : Prop := -9223372036854775808 ≤ n ∧ n ≤ 9223372036854775807
theorem idv_inj {x y : Id8} (h : x.v = y.v) : x = y := by
  have e : ∀ x y : UInt8, (x.toNat : Int) = (y.toNat : Int) → x = y := fun x y h => UInt8.toNat_inj.1 (by omega)
  simp only [Id8.v, Value.agg.injEq, Array.mk.injEq, List.cons.injEq, Value.int.injEq, true_and, and_true] at h
  obtain ⟨h0, h1, h2, h3, h4, h5, h6, h7⟩ := h
  apply Id8.ext_l
  unfold Id8.l
  rw [e _ _ h0, e _ _ h1, e _ _ h2, e _ _ h3, e _ _ h4, e _ _ h5, e _ _ h6, e _ _ h7]
theorem endv_inj {a p b q : Int} (h : endV a p = endV b q) : a = b ∧ p = q := by
  simpa only [Value.agg.injEq, Array.mk.injEq, List.cons.injEq, Value.int.injEq, true_and, and_true] using h
set_option maxRecDepth 20000 in
theorem keyOf_id (x : Id8) : ∃ l, keyOf Try.prog 61 x.v = some l := by
  have hu := Try.underlying61
  have hk : Try.prog.keyType 61 = true := by kernel_rfl
  have hc : Try.prog.cellsOf 61 = 8 := by kernel_rfl
  have hc8 : Try.prog.cellsOf 5 = 1 := by kernel_rfl
  have hb : ∀ x : UInt8, (Lit.int .u8 (x.toNat : Int)).wf = true := fun x => by
    have := x.toNat_lt
    simp only [Lit.wf, Bool.and_eq_true, decide_eq_true_eq]
    simp only [IntKind.min, IntKind.max, IntKind.signed, IntKind.bits]
    simp
    omega
  obtain ⟨q, hq⟩ : ∃ q, Try.prog.types.size + 1 = q + 1 + 1 := ⟨Try.prog.types.size - 1, by
    have : 1 ≤ Try.prog.types.size := of_decide_eq_true (by kernel_rfl)
    omega⟩
  unfold keyOf
  rw [hu]
  simp only
  rw [hk, show (x.v).formed Try.prog 61 = true by simp [Id8.v, Value.formed, hu, hc], hq]
  simp only [Bool.and_self, if_true]
  unfold Program.keyLits
  rw [hu]
  simp only [Id8.v, Value.cells]
  have k2 : ∀ x : UInt8, Try.prog.keyLits (q + 1) 5 [.int .u8 (x.toNat : Int)] = some [.int .u8 (x.toNat : Int)] := fun x => by
    unfold Program.keyLits
    rw [Try.underlying5]
    simp only
    simp [hb x]
  simp [hc, hc8, k2, show List.range 8 = [0, 1, 2, 3, 4, 5, 6, 7] from rfl]
set_option maxRecDepth 20000 in
theorem keyOf_end (a p : Int) (ha : I64' a) (hp : I64' p) : ∃ l, keyOf Try.prog 63 (endV a p) = some l := by
  have hu := Try.underlying63
  have hk : Try.prog.keyType 63 = true := by kernel_rfl
  have hc : Try.prog.cellsOf 63 = 2 := by kernel_rfl
  have hci : Try.prog.cellsOf 3 = 1 := by kernel_rfl
  have hw : ∀ v, I64' v → (Lit.int .i64 v).wf = true := fun v hv => by
    simp only [Lit.wf, Bool.and_eq_true, decide_eq_true_eq]
    exact hv
  obtain ⟨q, hq⟩ : ∃ q, Try.prog.types.size + 1 = q + 1 + 1 := ⟨Try.prog.types.size - 1, by
    have : 1 ≤ Try.prog.types.size := of_decide_eq_true (by kernel_rfl)
    omega⟩
  unfold keyOf
  rw [hu]
  simp only
  rw [hk, show (endV a p).formed Try.prog 63 = true by simp [endV, Value.formed, hu, hc], hq]
  simp only [Bool.and_self, if_true]
  unfold Program.keyLits
  rw [hu]
  simp only [Value.cells]
  have k1 : ∀ v, I64' v → Try.prog.keyLits (q + 1) 3 [.int .i64 v] = some [.int .i64 v] := fun v hv => by
    unfold Program.keyLits
    rw [Try.underlying3]
    simp only
    simp [hw v hv]
  simp [hc, hci, k1 a ha, k1 p hp]
theorem id_keyed : Keyed Try.prog 61 := .of_law (deep_law_gate (by kernel_rfl) (of_decide_eq_true (by kernel_rfl)) (of_decide_eq_true (by kernel_rfl)) (by kernel_rfl) (by kernel_rfl))
theorem end_keyed : Keyed Try.prog 63 := .of_law (deep_law_gate (by kernel_rfl) (of_decide_eq_true (by kernel_rfl)) (of_decide_eq_true (by kernel_rfl)) (by kernel_rfl) (by kernel_rfl))
theorem zero_bool18 (w : World) : (zeroValue 4).run Try.prog w = .ok (.bool false) w := by
  obtain ⟨i, hi, hz⟩ : ∃ i, Try.prog.info? 4 = some i ∧ i.zero = some (.bool false) := by
    have h : (Try.prog.info? 4).bind (·.zero) = some (.bool false) := by kernel_rfl
    obtain ⟨i, hi, h⟩ := Option.bind_eq_some_iff.1 h
    exact ⟨i, hi, h⟩
  simp [zeroValue, typeInfo, hi, hz]

/-- a net is right -/
structure LN.Ok (N : LN) : Prop where
  n1 : 1 ≤ N.ids.length
  n16 : N.ids.length ≤ 16
  len : N.costs.length = N.ids.length
  nodup : N.ids.Nodup
  cost : ∀ c ∈ N.costs, okCosts c = true
  has : ∀ d ∈ N.dirs, N.has d.a d.p = true
  once : (N.dirs.map Lk.fr).Nodup
def LN.right (N : LN) : Bool := decide (1 ≤ N.ids.length ∧ N.ids.length ≤ 16 ∧ N.costs.length = N.ids.length ∧ N.ids.Nodup ∧ (∀ c ∈ N.costs, okCosts c = true) ∧ (∀ d ∈ N.dirs, N.has d.a d.p = true) ∧ (N.dirs.map Lk.fr).Nodup)
theorem right_iff {N : LN} : N.right = true ↔ N.Ok := by
  unfold LN.right
  rw [decide_eq_true_eq]
  exact ⟨fun ⟨a, b, c, d, e, f, g⟩ => ⟨a, b, c, d, e, f, g⟩, fun ⟨a, b, c, d, e, f, g⟩ => ⟨a, b, c, d, e, f, g⟩⟩
theorem right_no {N : LN} (h : ¬ N.Ok) : N.right = false := by
  cases hr : N.right
  · rfl
  · exact absurd (right_iff.1 hr) h
theorem nodup_take {α : Type} {l : List α} (h : l.Nodup) {i : Nat} (hi : i < l.length) : l[i] ∉ l.take i := fun hm => by
  have e : l.take (i + 1) = l.take i ++ [l[i]] := List.take_succ_eq_append_getElem hi
  have h1 : (l.take (i + 1)).Nodup := h.sublist (List.take_sublist _ _)
  rw [e, List.nodup_append] at h1
  exact h1.2.2 _ hm _ (by simp) rfl
theorem nodup_snoc {α : Type} {l : List α} {x : α} (h : l.Nodup) (hx : x ∉ l) : (l ++ [x]).Nodup := by
  rw [List.nodup_append]
  exact ⟨h, by simp, fun a ha b hb e => by
    simp at hb
    subst hb e
    exact hx ha⟩
def idKV (x : Id8) : KV := (x.v, .bool true)
def endKV (e : Int × Int) : KV := (endV e.1 e.2, .bool true)
theorem idkv_mem {x : Id8} {l : List Id8} (h : x ∈ l) : (x.v, Value.bool true) ∈ l.map idKV := List.mem_map.2 ⟨x, h, rfl⟩
theorem idkv_no {x : Id8} {l : List Id8} (h : x ∉ l) : ∀ p ∈ l.map idKV, p.1 ≠ x.v := fun p hp e => by
  obtain ⟨y, hy, rfl⟩ := List.mem_map.1 hp
  exact h (idv_inj (show y.v = x.v from e) ▸ hy)
theorem endkv_mem {x : Int × Int} {l : List (Int × Int)} (h : x ∈ l) : (endV x.1 x.2, Value.bool true) ∈ l.map endKV := List.mem_map.2 ⟨x, h, rfl⟩
theorem endkv_no {x : Int × Int} {l : List (Int × Int)} (h : x ∉ l) : ∀ p ∈ l.map endKV, p.1 ≠ endV x.1 x.2 := fun p hp e => by
  obtain ⟨y, hy, rfl⟩ := List.mem_map.1 hp
  have := endv_inj (show endV y.1 y.2 = endV x.1 x.2 from e)
  exact h (by rw [show x = y from Prod.ext this.1.symm this.2.symm]; exact hy)
end Go.Proofs.Ytcmokhpnooldgaa
