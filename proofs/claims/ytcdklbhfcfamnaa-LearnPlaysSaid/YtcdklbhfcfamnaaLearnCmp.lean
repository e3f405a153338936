/- The order of a table's entries: cmp.Compare, bytes.Compare, cmp.Or, the closure of All. By an AI agent. -/
import Derived.Test.YtcdklbhfcfamnaaLearnL
import Derived.StillTailTactics
namespace Go.Proofs.Ytcdklbhfcfamnaa
open Go.RowKit Go.MapKept Go.Maps Go.WideShapes Go.Sort Grow

/-- a station's number, the highest byte first -/
def Mac6.n (m : Mac6) : Nat := ((((m.a.toNat * 256 + m.b.toNat) * 256 + m.c.toNat) * 256 + m.d.toNat) * 256 + m.e.toNat) * 256 + m.f.toNat
theorem Mac6.n_lt (m : Mac6) : m.n < 281474976710656 := by
  have h1 := m.a.toNat_lt
  have h2 := m.b.toNat_lt
  have h3 := m.c.toNat_lt
  have h4 := m.d.toNat_lt
  have h5 := m.e.toNat_lt
  have h6 := m.f.toNat_lt
  unfold Mac6.n
  omega
theorem Mac6.n_inj {x y : Mac6} (h : x.n = y.n) : x = y := by
  have h1 := x.a.toNat_lt
  have h2 := x.b.toNat_lt
  have h3 := x.c.toNat_lt
  have h4 := x.d.toNat_lt
  have h5 := x.e.toNat_lt
  have h6 := x.f.toNat_lt
  have g1 := y.a.toNat_lt
  have g2 := y.b.toNat_lt
  have g3 := y.c.toNat_lt
  have g4 := y.d.toNat_lt
  have g5 := y.e.toNat_lt
  have g6 := y.f.toNat_lt
  unfold Mac6.n at h
  obtain ⟨x1, x2, x3, x4, x5, x6⟩ := x
  obtain ⟨y1, y2, y3, y4, y5, y6⟩ := y
  simp only at *
  have e1 : x1 = y1 := UInt8.toNat_inj.1 (by omega)
  have e2 : x2 = y2 := UInt8.toNat_inj.1 (by omega)
  have e3 : x3 = y3 := UInt8.toNat_inj.1 (by omega)
  have e4 : x4 = y4 := UInt8.toNat_inj.1 (by omega)
  have e5 : x5 = y5 := UInt8.toNat_inj.1 (by omega)
  have e6 : x6 = y6 := UInt8.toNat_inj.1 (by omega)
  rw [e1, e2, e3, e4, e5, e6]
def bcmp (x y : Mac6) : Int := if x.a ≠ y.a then (if x.a < y.a then -1 else 1) else if x.b ≠ y.b then (if x.b < y.b then -1 else 1) else if x.c ≠ y.c then (if x.c < y.c then -1 else 1) else if x.d ≠ y.d then (if x.d < y.d then -1 else 1) else if x.e ≠ y.e then (if x.e < y.e then -1 else 1) else if x.f ≠ y.f then (if x.f < y.f then -1 else 1) else 0
theorem cmp_mac (x y : Mac6) : Extern.BytealgCompare.cmp ⟨#[x.a, x.b, x.c, x.d, x.e, x.f]⟩ ⟨#[y.a, y.b, y.c, y.d, y.e, y.f]⟩ = bcmp x y := by
  obtain ⟨x1, x2, x3, x4, x5, x6⟩ := x
  obtain ⟨y1, y2, y3, y4, y5, y6⟩ := y
  unfold Extern.BytealgCompare.cmp bcmp
  rw [show (List.range (min (ByteArray.size ⟨#[x1, x2, x3, x4, x5, x6]⟩) (ByteArray.size ⟨#[y1, y2, y3, y4, y5, y6]⟩))) = [0, 1, 2, 3, 4, 5] from rfl]
  have g : ∀ (a b c d e f : UInt8), (⟨#[a, b, c, d, e, f]⟩ : ByteArray)[0]! = a ∧ (⟨#[a, b, c, d, e, f]⟩ : ByteArray)[1]! = b ∧ (⟨#[a, b, c, d, e, f]⟩ : ByteArray)[2]! = c ∧ (⟨#[a, b, c, d, e, f]⟩ : ByteArray)[3]! = d ∧ (⟨#[a, b, c, d, e, f]⟩ : ByteArray)[4]! = e ∧ (⟨#[a, b, c, d, e, f]⟩ : ByteArray)[5]! = f := fun a b c d e f => ⟨rfl, rfl, rfl, rfl, rfl, rfl⟩
  obtain ⟨a1, a2, a3, a4, a5, a6⟩ := g x1 x2 x3 x4 x5 x6
  obtain ⟨b1, b2, b3, b4, b5, b6⟩ := g y1 y2 y3 y4 y5 y6
  simp only [List.find?_cons, List.find?_nil, a1, a2, a3, a4, a5, a6, b1, b2, b3, b4, b5, b6]
  by_cases h1 : x1 = y1
  · by_cases h2 : x2 = y2
    · by_cases h3 : x3 = y3
      · by_cases h4 : x4 = y4
        · by_cases h5 : x5 = y5
          · by_cases h6 : x6 = y6
            · subst h1 h2 h3 h4 h5 h6
              simp [ByteArray.size]
            · have hb : (x6 != y6) = true := bne_iff_ne.2 h6
              subst h1 h2 h3 h4 h5
              simp [hb, h6, a6, b6]
          · have hb : (x5 != y5) = true := bne_iff_ne.2 h5
            subst h1 h2 h3 h4
            simp [hb, h5, a5, b5]
        · have hb : (x4 != y4) = true := bne_iff_ne.2 h4
          subst h1 h2 h3
          simp [hb, h4, a4, b4]
      · have hb : (x3 != y3) = true := bne_iff_ne.2 h3
        subst h1 h2
        simp [hb, h3, a3, b3]
    · have hb : (x2 != y2) = true := bne_iff_ne.2 h2
      subst h1
      simp [hb, h2, a2, b2]
  · have hb : (x1 != y1) = true := bne_iff_ne.2 h1
    simp [hb, h1, a1, b1]
theorem u8_lt {a b : UInt8} : a < b ↔ a.toNat < b.toNat := Iff.rfl
theorem u8_ne {a b : UInt8} : a ≠ b ↔ a.toNat ≠ b.toNat := ⟨fun h e => h (UInt8.toNat_inj.1 e), fun h e => h (by rw [e])⟩
theorem bcmp_spec (x y : Mac6) : (bcmp x y < 0 ↔ x.n < y.n) ∧ (bcmp x y = 0 ↔ x.n = y.n) ∧ -1 ≤ bcmp x y ∧ bcmp x y ≤ 1 := by
  have h1 := x.a.toNat_lt
  have h2 := x.b.toNat_lt
  have h3 := x.c.toNat_lt
  have h4 := x.d.toNat_lt
  have h5 := x.e.toNat_lt
  have h6 := x.f.toNat_lt
  have g1 := y.a.toNat_lt
  have g2 := y.b.toNat_lt
  have g3 := y.c.toNat_lt
  have g4 := y.d.toNat_lt
  have g5 := y.e.toNat_lt
  have g6 := y.f.toNat_lt
  unfold bcmp Mac6.n
  simp only [u8_lt, u8_ne]
  generalize x.a.toNat = a1 at *
  generalize x.b.toNat = a2 at *
  generalize x.c.toNat = a3 at *
  generalize x.d.toNat = a4 at *
  generalize x.e.toNat = a5 at *
  generalize x.f.toNat = a6 at *
  generalize y.a.toNat = b1 at *
  generalize y.b.toNat = b2 at *
  generalize y.c.toNat = b3 at *
  generalize y.d.toNat = b4 at *
  generalize y.e.toNat = b5 at *
  generalize y.f.toNat = b6 at *
  repeat' split
  all_goals omega

/-- an entry's place in the order -/
def Ent.key (e : Ent) : Int := e.v * 281474976710656 + e.m.n
def icmp (a b : Int) : Int := if a < b then -1 else if b < a then 1 else 0
def ecmp (x y : Ent) : Int := if icmp x.v y.v ≠ 0 then icmp x.v y.v else bcmp x.m y.m
theorem ecmp_spec (x y : Ent) : (ecmp x y < 0 ↔ x.key < y.key) ∧ (ecmp x y = 0 ↔ x.key = y.key) := by
  obtain ⟨h1, h2, h3, h4⟩ := bcmp_spec x.m y.m
  have g1 := x.m.n_lt
  have g2 := y.m.n_lt
  unfold ecmp icmp Ent.key
  generalize bcmp x.m y.m = c at *
  generalize x.m.n = p at *
  generalize y.m.n = q at *
  repeat' split
  all_goals omega
theorem key_inj {x y : Ent} (h : x.key = y.key) : x.v = y.v ∧ x.m = y.m := by
  have g1 := x.m.n_lt
  have g2 := y.m.n_lt
  unfold Ent.key at h
  have e1 : x.v = y.v := by omega
  exact ⟨e1, Mac6.n_inj (by omega)⟩

/-! ### the library's -/
theorem isNaN_int (x : Int) (w : World) : Calls Try.prog 44 #[.int .i64 x] w fun e w' => e = .returned (.bool false) ∧ w' = w := by
  go_enter Try.func44, Try.ntmps44
  go_wp2_with fail
  go_ret
  exact ⟨by simp, rfl⟩
theorem compare_int (x y : Int) (w : World) : Calls Try.prog 35 #[.int .i64 x, .int .i64 y] w fun e w' => e = .returned (.int .i64 (icmp x y)) ∧ w' = w := by
  rcases Int.lt_or_le x y with h | h
  · have e : icmp x y = -1 := by unfold icmp; rw [if_pos h]
    rw [e]
    go_enter Try.func35, Try.ntmps35
    go_wp2_with (go_at_call 44; refine (isNaN_int _ _).mono ?_; rintro e w' ⟨rfl, rfl⟩)
    go_ret
    exact ⟨rfl, rfl⟩
  · rcases Int.lt_or_le y x with h1 | h1
    · have e : icmp x y = 1 := by unfold icmp; rw [if_neg (by omega), if_pos h1]
      rw [e]
      have g1 : decide (x < y) = false := decide_eq_false (by omega)
      go_enter Try.func35, Try.ntmps35
      go_wp2_with (go_at_call 44; refine (isNaN_int _ _).mono ?_; rintro e w' ⟨rfl, rfl⟩)
      go_ret
      exact ⟨rfl, rfl⟩
    · have e : icmp x y = 0 := by unfold icmp; rw [if_neg (by omega), if_neg (by omega)]
      rw [e]
      have g1 : decide (x < y) = false := decide_eq_false (by omega)
      have g2 : decide (y < x) = false := decide_eq_false (by omega)
      go_enter Try.func35, Try.ntmps35
      go_wp2_with (go_at_call 44; refine (isNaN_int _ _).mono ?_; rintro e w' ⟨rfl, rfl⟩)
      go_ret
      exact ⟨rfl, rfl⟩
/-- two numbers, the first that isn't 0 -/
theorem or_two (x y : Int) (b c : Nat) (w : World) (hR : RowIs w b 3 #[.int .i64 x, .int .i64 y]) : Calls Try.prog 34 #[.slice (some ⟨b, 0, none⟩) 2 c] w fun e w' => e = .returned (.int .i64 (if x ≠ 0 then x else y)) ∧ w' = w := by
  have c0 : w.cell? ⟨b, 0, none⟩ = some (.int .i64 x) := hR.cell 0
  have c1 : w.cell? ⟨b, 1, none⟩ = some (.int .i64 y) := hR.cell 1
  clear hR
  by_cases h : x = 0
  · by_cases h2 : y = 0
    · rw [if_neg (by simpa using h), h2]
      subst h h2
      go_enter Try.func34, Try.ntmps34
      go_wp2_with fail
      refine wp_loop_rounds 3 ?_
      rw [rounds_succ]
      go_wp2_with fail
      rw [rounds_succ]
      go_wp2_with fail
      rw [rounds_succ]
      go_wp2_with fail
      go_ret
      exact ⟨rfl, rfl⟩
    · rw [if_neg (by simpa using h)]
      subst h
      have g : (y != 0) = true := bne_iff_ne.2 h2
      go_enter Try.func34, Try.ntmps34
      go_wp2_with fail
      refine wp_loop_rounds 3 ?_
      rw [rounds_succ]
      go_wp2_with fail
      rw [rounds_succ]
      go_wp2_with fail
      go_ret
      exact ⟨rfl, rfl⟩
  · rw [if_pos h]
    have g : (x != 0) = true := bne_iff_ne.2 h
    go_enter Try.func34, Try.ntmps34
    go_wp2_with fail
    refine wp_loop_rounds 3 ?_
    rw [rounds_succ]
    go_wp2_with fail
    go_ret
    exact ⟨rfl, rfl⟩

/-- a station's bytes in a row -/
def MacAt (w : World) (b k : Nat) (m : Mac6) : Prop := w.cell? ⟨b, k, none⟩ = some (.int .u8 (m.a.toNat : Int)) ∧ w.cell? ⟨b, k + 1, none⟩ = some (.int .u8 (m.b.toNat : Int)) ∧ w.cell? ⟨b, k + 2, none⟩ = some (.int .u8 (m.c.toNat : Int)) ∧ w.cell? ⟨b, k + 3, none⟩ = some (.int .u8 (m.d.toNat : Int)) ∧ w.cell? ⟨b, k + 4, none⟩ = some (.int .u8 (m.e.toNat : Int)) ∧ w.cell? ⟨b, k + 5, none⟩ = some (.int .u8 (m.f.toNat : Int))

theorem run_load_cell {w : World} {a : Addr} {v : Value} (h : w.cell? a = some v) : (load a).run Try.prog w = .ok v w := by
  rw [run_load, h]

theorem run_bytes_mac (w : World) (b k c : Nat) (m : Mac6) (h : MacAt w b k m) : (Extern.Bytes.bytesOf (.slice (some ⟨b, k, none⟩) 6 c)).run Try.prog w = .ok ⟨#[m.a, m.b, m.c, m.d, m.e, m.f]⟩ w := by
  obtain ⟨h0, h1, h2, h3, h4, h5⟩ := h
  have ha : ∀ j, (⟨b, j, none⟩ : Addr).add 1 = ⟨b, j + 1, none⟩ := fun j => by unfold Addr.add; simp
  have hb : ∀ x : UInt8, ((x.toNat : Int).toNat).toUInt8 = x := fun x => by simp
  simp only [Extern.Bytes.bytesOf, Extern.Bytes.loadBytes, ha, Sem.run_bind, run_load_cell h0, run_load_cell h1, run_load_cell h2, run_load_cell h3, run_load_cell h4, run_load_cell h5, Result.andThen_ok, Sem.run_pure, hb]
  rfl
theorem run_cmp_mac (w : World) (b k c b' k' c' : Nat) (x y : Mac6) (h : MacAt w b k x) (h' : MacAt w b' k' y) : (callFunc 45 #[.slice (some ⟨b, k, none⟩) 6 c, .slice (some ⟨b', k', none⟩) 6 c']).run Try.prog w = .ok (.value (.int .i64 (bcmp x y))) w := by
  rw [run_callFunc_extern Try.func45 (by kernel_rfl) (by kernel_rfl) (by kernel_rfl) (e := Extern.BytealgCompare.compare) (by kernel_rfl)]
  have hc : Extern.BytealgCompare.compare #[.slice (some ⟨b, k, none⟩) 6 c, .slice (some ⟨b', k', none⟩) 6 c'] = (do
      let p ← Extern.Bytes.bytesOf (.slice (some ⟨b, k, none⟩) 6 c)
      let q ← Extern.Bytes.bytesOf (.slice (some ⟨b', k', none⟩) 6 c')
      pure (goInt (Extern.BytealgCompare.cmp p q))) := rfl
  rw [hc]
  simp only [Sem.run_bind, run_bytes_mac w b k c x h, run_bytes_mac w b' k' c' y h', Result.andThen_ok, Sem.run_pure, cmp_mac]
  rfl
theorem bytesCompare (w : World) (b k c b' k' c' : Nat) (x y : Mac6) (h : MacAt w b k x) (h' : MacAt w b' k' y) : Calls Try.prog 36 #[.slice (some ⟨b, k, none⟩) 6 c, .slice (some ⟨b', k', none⟩) 6 c'] w fun e w' => e = .returned (.int .i64 (bcmp x y)) ∧ w' = w := by
  have hr := run_cmp_mac w b k c b' k' c' x y h h'
  clear h h'
  go_enter Try.func36, Try.ntmps36
  go_wp2_with fail
  go_ret
  exact ⟨rfl, rfl⟩

set_option maxRecDepth 20000 in
set_option maxHeartbeats 2000000 in
theorem all1_any (x y : Ent) (w : World) : Calls Try.prog 33 #[.agg #[.int .i64 x.v, .int .i64 x.port, .int .i64 x.age, .int .u8 (x.m.a.toNat : Int), .int .u8 (x.m.b.toNat : Int), .int .u8 (x.m.c.toNat : Int), .int .u8 (x.m.d.toNat : Int), .int .u8 (x.m.e.toNat : Int), .int .u8 (x.m.f.toNat : Int), .bool x.fixed], .agg #[.int .i64 y.v, .int .i64 y.port, .int .i64 y.age, .int .u8 (y.m.a.toNat : Int), .int .u8 (y.m.b.toNat : Int), .int .u8 (y.m.c.toNat : Int), .int .u8 (y.m.d.toNat : Int), .int .u8 (y.m.e.toNat : Int), .int .u8 (y.m.f.toNat : Int), .bool y.fixed]] w fun e w' => e = .returned (.int .i64 (ecmp x y)) ∧ ∃ q os', w' = grow (w.drewN q) os' := by
  have R1 : Hid (RowIs ((w.alloc (.cells #[.int .i64 x.v, .int .i64 x.port, .int .i64 x.age, .int .u8 (x.m.a.toNat : Int), .int .u8 (x.m.b.toNat : Int), .int .u8 (x.m.c.toNat : Int), .int .u8 (x.m.d.toNat : Int), .int .u8 (x.m.e.toNat : Int), .int .u8 (x.m.f.toNat : Int), .bool x.fixed] 42)).alloc (.cells #[.int .i64 y.v, .int .i64 y.port, .int .i64 y.age, .int .u8 (y.m.a.toNat : Int), .int .u8 (y.m.b.toNat : Int), .int .u8 (y.m.c.toNat : Int), .int .u8 (y.m.d.toNat : Int), .int .u8 (y.m.e.toNat : Int), .int .u8 (y.m.f.toNat : Int), .bool y.fixed] 42)) w.heap.size 42 #[.int .i64 x.v, .int .i64 x.port, .int .i64 x.age, .int .u8 (x.m.a.toNat : Int), .int .u8 (x.m.b.toNat : Int), .int .u8 (x.m.c.toNat : Int), .int .u8 (x.m.d.toNat : Int), .int .u8 (x.m.e.toNat : Int), .int .u8 (x.m.f.toNat : Int), .bool x.fixed]) := (rowIs_new w _ _).alloc _
  have R2 : Hid (RowIs ((w.alloc (.cells #[.int .i64 x.v, .int .i64 x.port, .int .i64 x.age, .int .u8 (x.m.a.toNat : Int), .int .u8 (x.m.b.toNat : Int), .int .u8 (x.m.c.toNat : Int), .int .u8 (x.m.d.toNat : Int), .int .u8 (x.m.e.toNat : Int), .int .u8 (x.m.f.toNat : Int), .bool x.fixed] 42)).alloc (.cells #[.int .i64 y.v, .int .i64 y.port, .int .i64 y.age, .int .u8 (y.m.a.toNat : Int), .int .u8 (y.m.b.toNat : Int), .int .u8 (y.m.c.toNat : Int), .int .u8 (y.m.d.toNat : Int), .int .u8 (y.m.e.toNat : Int), .int .u8 (y.m.f.toNat : Int), .bool y.fixed] 42)) (w.heap.size + 1) 42 #[.int .i64 y.v, .int .i64 y.port, .int .i64 y.age, .int .u8 (y.m.a.toNat : Int), .int .u8 (y.m.b.toNat : Int), .int .u8 (y.m.c.toNat : Int), .int .u8 (y.m.d.toNat : Int), .int .u8 (y.m.e.toNat : Int), .int .u8 (y.m.f.toNat : Int), .bool y.fixed]) := rowIs_new1 w _ _ _
  have hgr : ∃ os, ((w.alloc (.cells #[.int .i64 x.v, .int .i64 x.port, .int .i64 x.age, .int .u8 (x.m.a.toNat : Int), .int .u8 (x.m.b.toNat : Int), .int .u8 (x.m.c.toNat : Int), .int .u8 (x.m.d.toNat : Int), .int .u8 (x.m.e.toNat : Int), .int .u8 (x.m.f.toNat : Int), .bool x.fixed] 42)).alloc (.cells #[.int .i64 y.v, .int .i64 y.port, .int .i64 y.age, .int .u8 (y.m.a.toNat : Int), .int .u8 (y.m.b.toNat : Int), .int .u8 (y.m.c.toNat : Int), .int .u8 (y.m.d.toNat : Int), .int .u8 (y.m.e.toNat : Int), .int .u8 (y.m.f.toNat : Int), .bool y.fixed] 42)) = grow w os := ⟨_, by rw [alloc_eq_grow, alloc_eq_grow, grow_grow]⟩
  go_enter Try.func33, Try.ntmps33
  go_upto_region 1 with fail
  generalize ((w.alloc (.cells #[.int .i64 x.v, .int .i64 x.port, .int .i64 x.age, .int .u8 (x.m.a.toNat : Int), .int .u8 (x.m.b.toNat : Int), .int .u8 (x.m.c.toNat : Int), .int .u8 (x.m.d.toNat : Int), .int .u8 (x.m.e.toNat : Int), .int .u8 (x.m.f.toNat : Int), .bool x.fixed] 42)).alloc (.cells #[.int .i64 y.v, .int .i64 y.port, .int .i64 y.age, .int .u8 (y.m.a.toNat : Int), .int .u8 (y.m.b.toNat : Int), .int .u8 (y.m.c.toNat : Int), .int .u8 (y.m.d.toNat : Int), .int .u8 (y.m.e.toNat : Int), .int .u8 (y.m.f.toNat : Int), .bool y.fixed] 42)) = W at *
  have k1 : W.drew.cell? ⟨w.heap.size, 0, none⟩ = some (.int .i64 x.v) := R1.out.cell 0
  have k2 : W.drew.cell? ⟨w.heap.size + 1, 0, none⟩ = some (.int .i64 y.v) := R2.out.cell 0
  have m1 : MacAt W.drew w.heap.size 3 x.m := ⟨R1.out.cell 3, R1.out.cell 4, R1.out.cell 5, R1.out.cell 6, R1.out.cell 7, R1.out.cell 8⟩
  have m2 : MacAt W.drew (w.heap.size + 1) 3 y.m := ⟨R2.out.cell 3, R2.out.cell 4, R2.out.cell 5, R2.out.cell 6, R2.out.cell 7, R2.out.cell 8⟩
  refine wp_region_still_tail 10 (by kernel_rfl) (by kernel_rfl) ?_
  simp only [List.take_succ_cons, List.take_zero, List.drop_succ_cons, List.drop_zero]
  iterate 4 still_step
  still_call (compare_int x.v y.v _)
  iterate 4 still_step
  still_call (bytesCompare _ _ _ _ _ _ _ x.m y.m m1 m2)
  refine wpStill_nil ?_
  refine (show wpList _ _ _ _ _ W.drew from ?_)
  have hfin : ∃ q os', W.drew.alloc (.cells #[.int .i64 (icmp x.v y.v), .int .i64 (bcmp x.m y.m)] 3) = grow (w.drewN q) os' := by
    obtain ⟨os, rfl⟩ := hgr
    refine ⟨1, os.push (.cells #[.int .i64 (icmp x.v y.v), .int .i64 (bcmp x.m y.m)] 3), ?_⟩
    unfold grow World.drewN World.drew World.alloc
    simp
  have HOR := Lib.hid (or_two (icmp x.v y.v) (bcmp x.m y.m) W.drew.heap.size 2 (W.drew.alloc (.cells #[.int .i64 (icmp x.v y.v), .int .i64 (bcmp x.m y.m)] 3)) (rowIs_new _ _ _))
  have HE : Hid ((if icmp x.v y.v ≠ 0 then icmp x.v y.v else bcmp x.m y.m) = ecmp x y) := rfl
  rw [HE.out] at HOR
  clear k1 k2 m1 m2 hgr
  generalize W.drew = W2 at *
  go_wp2_with fail
  refine HOR.out.mono ?_
  rintro e w1 ⟨rfl, rfl⟩
  go_wp2_with fail
  go_ret
  exact ⟨rfl, hfin⟩
end Go.Proofs.Ytcdklbhfcfamnaa
