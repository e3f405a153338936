/- causeyref17: Take. By an AI agent. -/
import Derived.Test.YtdhiaidbpjjljaaRSpan6
namespace Go.Proofs.Ytdhiaidbpjjljaa
open Go.RowKit Go.WideShapes Go.Sort Grow

/-- a word that is refused -/
def SS.refuses (s : SS) (i : Int) (x : SW) : Bool := s.notFor i x || !x.right || decide (s.ma ≤ x.age)
theorem SS.take_no {s : SS} {i : Int} {x : SW} (h : s.refuses i x = true) : s.take i x = (s, []) := by
  unfold SS.refuses at h
  unfold SS.take
  cases h1 : s.notFor i x
  · rw [if_neg (by decide)]
    cases h2 : x.right
    · rw [if_pos rfl]
    · rw [if_neg (by decide)]
      rw [h1, h2] at h
      rw [if_pos (by simpa using h)]
  · rw [if_pos rfl]
theorem SS.take_yes {s : SS} {i : Int} {x : SW} (h : s.refuses i x = false) : s.take i x = if (s.port i.toNat).hears x = true then (s.takeF i.toNat x, s.tellsK (s.takeF i.toNat x) i.toNat) else (s, s.tells (fun j => decide ((j : Int) = i))) := by
  unfold SS.refuses at h
  simp only [Bool.or_eq_false_iff, Bool.not_eq_false'] at h
  obtain ⟨⟨h1, h2⟩, h3⟩ := h
  unfold SS.take
  rw [if_neg (by rw [h1]; decide), if_neg (by rw [h2]; decide), if_neg (by rw [h3]; decide)]
theorem SS.has_nat {s : SS} {k : Nat} (hk : k < s.ports.length) : s.has (k : Int) = true := by
  unfold SS.has
  rw [decide_eq_true (by omega), decide_eq_true (by omega)]
  rfl
theorem SS.refuses_k (s : SS) (k : Nat) (hk : k < s.ports.length) (x : SW) : s.refuses (k : Int) x = (!(s.port k).up || (!x.right || (decide (s.ma ≤ x.age) || (decide (1073741824 < x.c) || (decide (x.b = s.id) && x.p == (k : Int) + 1))))) := by
  unfold SS.refuses SS.notFor
  rw [SS.has_nat hk, Int.toNat_natCast]
  cases (s.port k).up <;> cases x.right <;> cases decide (s.ma ≤ x.age) <;> cases decide (1073741824 < x.c) <;> cases decide (x.b = s.id) <;> cases (x.p == (k : Int) + 1) <;> rfl
theorem SS.refuses_out {s : SS} {i : Int} (h : s.has i = false) (x : SW) : s.refuses i x = true := by
  unfold SS.refuses SS.notFor
  rw [h]
  rfl
theorem SS.not_refuses {s : SS} {i : Int} {x : SW} (h : s.refuses i x = false) : ∃ k : Nat, i = k ∧ k < s.ports.length ∧ x.right = true ∧ x.age < s.ma ∧ x.c ≤ 1073741824 := by
  cases hh : s.has i
  · rw [SS.refuses_out hh] at h
    cases h
  · obtain ⟨k, rfl, hk⟩ := s.has_true i hh
    rw [s.refuses_k k hk] at h
    simp only [Bool.or_eq_false_iff, Bool.not_eq_false', decide_eq_false_iff_not] at h
    exact ⟨k, rfl, hk, h.2.1, by omega, by omega⟩
theorem SW.right_c {x : SW} (h : x.right = true) : 0 ≤ x.c := by
  unfold SW.right Bpdu.right at h
  simp only [Bpdu.inB, List.all_cons, List.all_nil, Bool.and_true, Bool.and_eq_true, decide_eq_true_eq] at h
  omega
theorem SS.tells_only (f : SS) (k : Nat) : f.tells (fun j => decide ((k : Int) < 0) || ((k : Int) == (j : Int))) = f.tells (fun j => decide ((j : Int) = (k : Int))) := by
  congr 1
  funext j
  rw [decide_eq_false (p := (k : Int) < 0) (by omega), Bool.false_or]
  rw [Bool.eq_iff_iff]
  simp
  omega
theorem SS.tellsF_not (f : SS) (k : Nat) (h : ((f.port k).role == 2) = false) (a : Int) : ∀ n, f.tellsF (fun j => decide ((j : Int) = (k : Int))) a n = []
  | 0 => rfl
  | n + 1 => by
    unfold SS.tellsF
    rw [f.tellsF_not k h a n]
    by_cases e : n = k
    · subst e
      rw [h]
      rfl
    · rw [decide_eq_false (p := (n : Int) = (k : Int)) (by omega), Bool.and_false]
      rfl
theorem SS.tells_not (f : SS) (k : Nat) (h : ((f.port k).role == 2) = false) : f.tells (fun j => decide ((j : Int) = (k : Int))) = [] := by
  unfold SS.tells
  split
  · exact f.tellsF_not k h _ _
  · rfl
theorem SS.tellsK_eq (s f : SS) (k : Nat) : s.tellsK f k = if ((k : Int) == f.root || !decide (s.best = f.best)) = true then f.tells (fun _ => true) else f.tells (fun j => decide ((j : Int) = (k : Int))) := by
  unfold SS.tellsK
  split
  · rfl
  · cases h : ((f.port k).role == 2)
    · rw [if_neg (by decide), SS.tells_not f k h]
    · rw [if_pos rfl]
theorem SS.Fit.takeP {s : SS} (h : s.Fit) (k : Nat) {x : SW} (hr : x.right = true) (hc : x.c ≤ 1073741824) : (s.put k ((s.port k).hear x)).Fit :=
  h.put k _ ⟨⟨SW.right_c hr, hc⟩, (h k).2⟩

set_option maxRecDepth 20000 in
set_option maxHeartbeats 16000000 in
theorem refTake_any (B g cap : Nat) (s : SS) (i : Int) (x : SW) (w : World) (n0 : Int) (hR : RAt B g cap w s.ports) (hok : s.Ok n0) (hn : n0 ≤ 900000000) (hF : s.Fit) :
    Calls Try.prog 21 #[.agg #[.int .u8 ((s.id.f 0).toNat : Int), .int .u8 ((s.id.f 1).toNat : Int), .int .u8 ((s.id.f 2).toNat : Int), .int .u8 ((s.id.f 3).toNat : Int), .int .u8 ((s.id.f 4).toNat : Int), .int .u8 ((s.id.f 5).toNat : Int), .int .u8 ((s.id.f 6).toNat : Int), .int .u8 ((s.id.f 7).toNat : Int), .int .i64 s.ma, .int .i64 s.he, .int .i64 s.de, .int .i64 s.now, .int .i64 s.chg, (.slice (some ⟨g, 0, none⟩) s.ports.length cap), .int .u8 ((s.best.r.f 0).toNat : Int), .int .u8 ((s.best.r.f 1).toNat : Int), .int .u8 ((s.best.r.f 2).toNat : Int), .int .u8 ((s.best.r.f 3).toNat : Int), .int .u8 ((s.best.r.f 4).toNat : Int), .int .u8 ((s.best.r.f 5).toNat : Int), .int .u8 ((s.best.r.f 6).toNat : Int), .int .u8 ((s.best.r.f 7).toNat : Int), .int .i64 s.best.c, .int .u8 ((s.best.b.f 0).toNat : Int), .int .u8 ((s.best.b.f 1).toNat : Int), .int .u8 ((s.best.b.f 2).toNat : Int), .int .u8 ((s.best.b.f 3).toNat : Int), .int .u8 ((s.best.b.f 4).toNat : Int), .int .u8 ((s.best.b.f 5).toNat : Int), .int .u8 ((s.best.b.f 6).toNat : Int), .int .u8 ((s.best.b.f 7).toNat : Int), .int .i64 s.best.p, .int .i64 s.root], .int .i64 i, .agg #[.int .u8 ((x.r.f 0).toNat : Int), .int .u8 ((x.r.f 1).toNat : Int), .int .u8 ((x.r.f 2).toNat : Int), .int .u8 ((x.r.f 3).toNat : Int), .int .u8 ((x.r.f 4).toNat : Int), .int .u8 ((x.r.f 5).toNat : Int), .int .u8 ((x.r.f 6).toNat : Int), .int .u8 ((x.r.f 7).toNat : Int), .int .u8 ((x.b.f 0).toNat : Int), .int .u8 ((x.b.f 1).toNat : Int), .int .u8 ((x.b.f 2).toNat : Int), .int .u8 ((x.b.f 3).toNat : Int), .int .u8 ((x.b.f 4).toNat : Int), .int .u8 ((x.b.f 5).toNat : Int), .int .u8 ((x.b.f 6).toNat : Int), .int .u8 ((x.b.f 7).toNat : Int), .int .i64 x.c, .int .i64 x.p, .int .i64 x.age, .int .i64 x.ma, .int .i64 x.he, .int .i64 x.de, .bool x.ch, .bool x.ak]] w fun e w' => ∃ g' cap' v, e = .returned (.tuple #[.agg #[.int .u8 (((s.take i x).1.id.f 0).toNat : Int), .int .u8 (((s.take i x).1.id.f 1).toNat : Int), .int .u8 (((s.take i x).1.id.f 2).toNat : Int), .int .u8 (((s.take i x).1.id.f 3).toNat : Int), .int .u8 (((s.take i x).1.id.f 4).toNat : Int), .int .u8 (((s.take i x).1.id.f 5).toNat : Int), .int .u8 (((s.take i x).1.id.f 6).toNat : Int), .int .u8 (((s.take i x).1.id.f 7).toNat : Int), .int .i64 (s.take i x).1.ma, .int .i64 (s.take i x).1.he, .int .i64 (s.take i x).1.de, .int .i64 (s.take i x).1.now, .int .i64 (s.take i x).1.chg, (.slice (some ⟨g', 0, none⟩) s.ports.length cap'), .int .u8 (((s.take i x).1.best.r.f 0).toNat : Int), .int .u8 (((s.take i x).1.best.r.f 1).toNat : Int), .int .u8 (((s.take i x).1.best.r.f 2).toNat : Int), .int .u8 (((s.take i x).1.best.r.f 3).toNat : Int), .int .u8 (((s.take i x).1.best.r.f 4).toNat : Int), .int .u8 (((s.take i x).1.best.r.f 5).toNat : Int), .int .u8 (((s.take i x).1.best.r.f 6).toNat : Int), .int .u8 (((s.take i x).1.best.r.f 7).toNat : Int), .int .i64 (s.take i x).1.best.c, .int .u8 (((s.take i x).1.best.b.f 0).toNat : Int), .int .u8 (((s.take i x).1.best.b.f 1).toNat : Int), .int .u8 (((s.take i x).1.best.b.f 2).toNat : Int), .int .u8 (((s.take i x).1.best.b.f 3).toNat : Int), .int .u8 (((s.take i x).1.best.b.f 4).toNat : Int), .int .u8 (((s.take i x).1.best.b.f 5).toNat : Int), .int .u8 (((s.take i x).1.best.b.f 6).toNat : Int), .int .u8 (((s.take i x).1.best.b.f 7).toNat : Int), .int .i64 (s.take i x).1.best.p, .int .i64 (s.take i x).1.root], v]) ∧ RAt B g' cap' w' (s.take i x).1.ports ∧ ROutAt w' w.heap.size v (s.take i x).2 ∧ Below w.heap.size w w' := by
  have hl : s.ports.length ≤ 1000 := by have := hok.len; omega
  have HR := Lib.hid hR
  have HOK := Lib.hid hok
  have HF0 := Lib.hid hF
  have HBW : Hid (B ≤ w.heap.size) := Nat.le_trans hR.hB (Nat.le_of_lt hR.lt)
  clear hR hok hF
  go_enter Try.func21, Try.ntmps21
  go_upto_region 1 with fail
  generalize hW : ((w.alloc _).alloc _).alloc _ = W
  have hbW : Below w.heap.size w W := by rw [← hW]; exact (((Below.refl _ _).alloc (Nat.le_refl _) _).alloc (by simp) _).alloc (by simp; omega) _
  have R1 : Hid (RowIs W w.heap.size 59 #[.int .u8 ((s.id.f 0).toNat : Int), .int .u8 ((s.id.f 1).toNat : Int), .int .u8 ((s.id.f 2).toNat : Int), .int .u8 ((s.id.f 3).toNat : Int), .int .u8 ((s.id.f 4).toNat : Int), .int .u8 ((s.id.f 5).toNat : Int), .int .u8 ((s.id.f 6).toNat : Int), .int .u8 ((s.id.f 7).toNat : Int), .int .i64 s.ma, .int .i64 s.he, .int .i64 s.de, .int .i64 s.now, .int .i64 s.chg, (.slice (some ⟨g, 0, none⟩) s.ports.length cap), .int .u8 ((s.best.r.f 0).toNat : Int), .int .u8 ((s.best.r.f 1).toNat : Int), .int .u8 ((s.best.r.f 2).toNat : Int), .int .u8 ((s.best.r.f 3).toNat : Int), .int .u8 ((s.best.r.f 4).toNat : Int), .int .u8 ((s.best.r.f 5).toNat : Int), .int .u8 ((s.best.r.f 6).toNat : Int), .int .u8 ((s.best.r.f 7).toNat : Int), .int .i64 s.best.c, .int .u8 ((s.best.b.f 0).toNat : Int), .int .u8 ((s.best.b.f 1).toNat : Int), .int .u8 ((s.best.b.f 2).toNat : Int), .int .u8 ((s.best.b.f 3).toNat : Int), .int .u8 ((s.best.b.f 4).toNat : Int), .int .u8 ((s.best.b.f 5).toNat : Int), .int .u8 ((s.best.b.f 6).toNat : Int), .int .u8 ((s.best.b.f 7).toNat : Int), .int .i64 s.best.p, .int .i64 s.root]) := by subst hW; exact ((rowIs_new w _ _).alloc _).alloc _
  have RW : Hid (RowIs W (w.heap.size + 1) 63 #[.int .u8 ((x.r.f 0).toNat : Int), .int .u8 ((x.r.f 1).toNat : Int), .int .u8 ((x.r.f 2).toNat : Int), .int .u8 ((x.r.f 3).toNat : Int), .int .u8 ((x.r.f 4).toNat : Int), .int .u8 ((x.r.f 5).toNat : Int), .int .u8 ((x.r.f 6).toNat : Int), .int .u8 ((x.r.f 7).toNat : Int), .int .u8 ((x.b.f 0).toNat : Int), .int .u8 ((x.b.f 1).toNat : Int), .int .u8 ((x.b.f 2).toNat : Int), .int .u8 ((x.b.f 3).toNat : Int), .int .u8 ((x.b.f 4).toNat : Int), .int .u8 ((x.b.f 5).toNat : Int), .int .u8 ((x.b.f 6).toNat : Int), .int .u8 ((x.b.f 7).toNat : Int), .int .i64 x.c, .int .i64 x.p, .int .i64 x.age, .int .i64 x.ma, .int .i64 x.he, .int .i64 x.de, .bool x.ch, .bool x.ak]) := by subst hW; exact (rowIs_new1 w _ _ _).alloc _
  have R2 : Hid (RowIs W (w.heap.size + 2) 59 #[.int .u8 0, .int .u8 0, .int .u8 0, .int .u8 0, .int .u8 0, .int .u8 0, .int .u8 0, .int .u8 0, .int .i64 0, .int .i64 0, .int .i64 0, .int .i64 0, .int .i64 0, .slice none 0 0, .int .u8 0, .int .u8 0, .int .u8 0, .int .u8 0, .int .u8 0, .int .u8 0, .int .u8 0, .int .u8 0, .int .i64 0, .int .u8 0, .int .u8 0, .int .u8 0, .int .u8 0, .int .u8 0, .int .u8 0, .int .u8 0, .int .u8 0, .int .i64 0, .int .i64 0]) := by subst hW; exact rowIs_new2 w _ _ _ _
  have hWs : w.heap.size + 2 < W.heap.size := R2.out.lt
  clear hW
  have HRa := Lib.hid (HR.out.later hbW)
  have c13 : W.cell? ⟨w.heap.size, 13, none⟩ = some (.slice (some ⟨g, 0, none⟩) s.ports.length cap) := R1.out.cell 13
  go_upto_region 1 with fail
  go_cut [58] (fun v wx => v = .bool (s.refuses i x) ∧ Below W.heap.size W wx)
  case first =>
    have HH : Hid (s.has i = (decide (0 ≤ i) && decide (i < (s.ports.length : Int)))) := rfl
    by_cases h1 : i < 0
    · have H1 : Hid (s.refuses i x = true) := SS.refuses_out (by rw [HH.out, decide_eq_false (by omega)]; rfl) x
      go_wp2_with fail
      go_meet
      exact ⟨by rw [H1.out], Below.refl _ _⟩
    · by_cases h2 : (s.ports.length : Int) ≤ i
      · have H1 : Hid (s.refuses i x = true) := SS.refuses_out (by rw [HH.out, decide_eq_false (p := i < _) (by omega)]; simp) x
        go_wp2_with fail
        go_meet
        exact ⟨by rw [H1.out], Below.refl _ _⟩
      · obtain ⟨k, rfl⟩ : ∃ k : Nat, i = k := ⟨i.toNat, by omega⟩
        have hk : k < s.ports.length := by omega
        clear HH h1 h2
        have HRK := Lib.hid (s.refuses_k k hk x)
        have cup : W.cell? ⟨g, k * 30 + 4, none⟩ = some (.bool (s.port k).up) := by
          have h1 := HRa.out.range hk 4 (.bool (s.port k).up) (by rw [SS.port_get s hk]; rfl)
          exact h1
        have hk0 : ¬ ((k : Int) < 0) := by omega
        have hk1 : ¬ ((s.ports.length : Int) ≤ (k : Int)) := by omega
        have wk : IntKind.i64.wrap ((k : Int) + 1) = (k : Int) + 1 := IntWalk.i64_in _ (by omega)
        cases hup : (s.port k).up
        · have HV : Hid (s.refuses (k : Int) x = true) := by show _ = _; rw [HRK.out, hup]; rfl
          rw [hup] at cup
          clear hup
          go_wp2_with fail
          go_meet
          exact ⟨by rw [HV.out], Below.refl _ _⟩
        · rw [hup] at HRK cup
          clear hup
          have HRT : Hid (x.right = Bpdu.right x.c x.p x.age x.ma x.he x.de) := rfl
          cases hrt : Bpdu.right x.c x.p x.age x.ma x.he x.de
          · have HV : Hid (s.refuses (k : Int) x = true) := by show _ = _; rw [HRK.out, HRT.out, hrt]; rfl
            go_wp2_with ((with_reducible refine at_load 63 (.tmp 5) ?_); refine wpList_load_midW rfl 63 (.tmp 5) rfl (w.heap.size + 1) (0) rfl [.int .u8 ((x.r.f 0).toNat : Int), .int .u8 ((x.r.f 1).toNat : Int), .int .u8 ((x.r.f 2).toNat : Int), .int .u8 ((x.r.f 3).toNat : Int), .int .u8 ((x.r.f 4).toNat : Int), .int .u8 ((x.r.f 5).toNat : Int), .int .u8 ((x.r.f 6).toNat : Int), .int .u8 ((x.r.f 7).toNat : Int), .int .u8 ((x.b.f 0).toNat : Int), .int .u8 ((x.b.f 1).toNat : Int), .int .u8 ((x.b.f 2).toNat : Int), .int .u8 ((x.b.f 3).toNat : Int), .int .u8 ((x.b.f 4).toNat : Int), .int .u8 ((x.b.f 5).toNat : Int), .int .u8 ((x.b.f 6).toNat : Int), .int .u8 ((x.b.f 7).toNat : Int), .int .i64 x.c, .int .i64 x.p, .int .i64 x.age, .int .i64 x.ma, .int .i64 x.he, .int .i64 x.de, .bool x.ch, .bool x.ak] _ (range_of_row RW.out rfl) Try.underlying63 rfl (by kernel_rfl) ?_)
            refine (refRight_any x.r.f x.b.f x.c x.p x.age x.ma x.he x.de x.ch x.ak _).mono ?_
            rintro e wy ⟨rfl, hby⟩
            have R1 := Lib.hid (R1.out.kept hby)
            have RW := Lib.hid (RW.out.kept hby)
            rw [hrt]
            clear hrt
            go_wp2_with fail
            go_meet
            exact ⟨by rw [HV.out], hby⟩
          · have HRK : Hid (s.refuses (k : Int) x = (decide (s.ma ≤ x.age) || (decide (1073741824 < x.c) || (decide (x.b = s.id) && x.p == (k : Int) + 1)))) := by show _ = _; rw [HRK.out, HRT.out, hrt]; rfl
            go_wp2_with ((with_reducible refine at_load 63 (.tmp 5) ?_); refine wpList_load_midW rfl 63 (.tmp 5) rfl (w.heap.size + 1) (0) rfl [.int .u8 ((x.r.f 0).toNat : Int), .int .u8 ((x.r.f 1).toNat : Int), .int .u8 ((x.r.f 2).toNat : Int), .int .u8 ((x.r.f 3).toNat : Int), .int .u8 ((x.r.f 4).toNat : Int), .int .u8 ((x.r.f 5).toNat : Int), .int .u8 ((x.r.f 6).toNat : Int), .int .u8 ((x.r.f 7).toNat : Int), .int .u8 ((x.b.f 0).toNat : Int), .int .u8 ((x.b.f 1).toNat : Int), .int .u8 ((x.b.f 2).toNat : Int), .int .u8 ((x.b.f 3).toNat : Int), .int .u8 ((x.b.f 4).toNat : Int), .int .u8 ((x.b.f 5).toNat : Int), .int .u8 ((x.b.f 6).toNat : Int), .int .u8 ((x.b.f 7).toNat : Int), .int .i64 x.c, .int .i64 x.p, .int .i64 x.age, .int .i64 x.ma, .int .i64 x.he, .int .i64 x.de, .bool x.ch, .bool x.ak] _ (range_of_row RW.out rfl) Try.underlying63 rfl (by kernel_rfl) ?_)
            refine (refRight_any x.r.f x.b.f x.c x.p x.age x.ma x.he x.de x.ch x.ak _).mono ?_
            rintro e wy ⟨rfl, hby⟩
            have R1 := Lib.hid (R1.out.kept hby)
            have RW := Lib.hid (RW.out.kept hby)
            rw [hrt]
            clear hrt
            have a18 : wy.cell? ⟨w.heap.size + 1, 18, none⟩ = some (.int .i64 x.age) := RW.out.cell 18
            have a16 : wy.cell? ⟨w.heap.size + 1, 16, none⟩ = some (.int .i64 x.c) := RW.out.cell 16
            have a17 : wy.cell? ⟨w.heap.size + 1, 17, none⟩ = some (.int .i64 x.p) := RW.out.cell 17
            have b8 : wy.cell? ⟨w.heap.size, 8, none⟩ = some (.int .i64 s.ma) := R1.out.cell 8
            cases h1 : decide (s.ma ≤ x.age)
            rotate_left
            · have HV : Hid (s.refuses (k : Int) x = true) := by show _ = _; rw [HRK.out, h1]; rfl
              go_wp2_with fail
              go_meet
              exact ⟨by rw [HV.out], hby⟩
            · have HRK : Hid (s.refuses (k : Int) x = (decide (1073741824 < x.c) || (decide (x.b = s.id) && x.p == (k : Int) + 1))) := by show _ = _; rw [HRK.out, h1]; rfl
              cases h2 : decide (1073741824 < x.c)
              rotate_left
              · have HV : Hid (s.refuses (k : Int) x = true) := by show _ = _; rw [HRK.out, h2]; rfl
                go_wp2_with fail
                go_meet
                exact ⟨by rw [HV.out], hby⟩
              · have HRK : Hid (s.refuses (k : Int) x = (decide (x.b = s.id) && x.p == (k : Int) + 1)) := by show _ = _; rw [HRK.out, h2]; rfl
                have m1 : ∀ w, (Op.equalIn 10000 22 (.agg #[.int .u8 ((x.b.f 0).toNat : Int), .int .u8 ((x.b.f 1).toNat : Int), .int .u8 ((x.b.f 2).toNat : Int), .int .u8 ((x.b.f 3).toNat : Int), .int .u8 ((x.b.f 4).toNat : Int), .int .u8 ((x.b.f 5).toNat : Int), .int .u8 ((x.b.f 6).toNat : Int), .int .u8 ((x.b.f 7).toNat : Int)]) (.agg #[.int .u8 ((s.id.f 0).toNat : Int), .int .u8 ((s.id.f 1).toNat : Int), .int .u8 ((s.id.f 2).toNat : Int), .int .u8 ((s.id.f 3).toNat : Int), .int .u8 ((s.id.f 4).toNat : Int), .int .u8 ((s.id.f 5).toNat : Int), .int .u8 ((s.id.f 6).toNat : Int), .int .u8 ((s.id.f 7).toNat : Int)])).run Try.prog w = .ok (decide (x.b = s.id)) w := fun w => by
                  rw [← eqB_id]
                  exact run_equalIn_id8 9998 x.b.f s.id.f w
                generalize decide (x.b = s.id) = eb at *
                cases eb
                · have HV : Hid (s.refuses (k : Int) x = false) := HRK.out
                  go_wp2_with (first
                    | ((with_reducible refine at_load 22 (.tmp 46) ?_); refine wpList_load_midW rfl 22 (.tmp 46) rfl (w.heap.size + 1) (8) rfl [.int .u8 ((x.b.f 0).toNat : Int), .int .u8 ((x.b.f 1).toNat : Int), .int .u8 ((x.b.f 2).toNat : Int), .int .u8 ((x.b.f 3).toNat : Int), .int .u8 ((x.b.f 4).toNat : Int), .int .u8 ((x.b.f 5).toNat : Int), .int .u8 ((x.b.f 6).toNat : Int), .int .u8 ((x.b.f 7).toNat : Int)] _ (range_of_row RW.out rfl) Try.underlying22 rfl (by kernel_rfl) ?_)
                    | ((with_reducible refine at_load 22 (.tmp 48) ?_); refine wpList_load_midW rfl 22 (.tmp 48) rfl (w.heap.size) (0) rfl [.int .u8 ((s.id.f 0).toNat : Int), .int .u8 ((s.id.f 1).toNat : Int), .int .u8 ((s.id.f 2).toNat : Int), .int .u8 ((s.id.f 3).toNat : Int), .int .u8 ((s.id.f 4).toNat : Int), .int .u8 ((s.id.f 5).toNat : Int), .int .u8 ((s.id.f 6).toNat : Int), .int .u8 ((s.id.f 7).toNat : Int)] _ (range_of_row R1.out rfl) Try.underlying22 rfl (by kernel_rfl) ?_))
                  go_meet
                  exact ⟨by rw [HV.out], hby⟩
                · have HV : Hid (s.refuses (k : Int) x = (x.p == (k : Int) + 1)) := HRK.out
                  go_wp2_with (first
                    | ((with_reducible refine at_load 22 (.tmp 46) ?_); refine wpList_load_midW rfl 22 (.tmp 46) rfl (w.heap.size + 1) (8) rfl [.int .u8 ((x.b.f 0).toNat : Int), .int .u8 ((x.b.f 1).toNat : Int), .int .u8 ((x.b.f 2).toNat : Int), .int .u8 ((x.b.f 3).toNat : Int), .int .u8 ((x.b.f 4).toNat : Int), .int .u8 ((x.b.f 5).toNat : Int), .int .u8 ((x.b.f 6).toNat : Int), .int .u8 ((x.b.f 7).toNat : Int)] _ (range_of_row RW.out rfl) Try.underlying22 rfl (by kernel_rfl) ?_)
                    | ((with_reducible refine at_load 22 (.tmp 48) ?_); refine wpList_load_midW rfl 22 (.tmp 48) rfl (w.heap.size) (0) rfl [.int .u8 ((s.id.f 0).toNat : Int), .int .u8 ((s.id.f 1).toNat : Int), .int .u8 ((s.id.f 2).toNat : Int), .int .u8 ((s.id.f 3).toNat : Int), .int .u8 ((s.id.f 4).toNat : Int), .int .u8 ((s.id.f 5).toNat : Int), .int .u8 ((s.id.f 6).toNat : Int), .int .u8 ((s.id.f 7).toNat : Int)] _ (range_of_row R1.out rfl) Try.underlying22 rfl (by kernel_rfl) ?_))
                  go_meet
                  exact ⟨by rw [HV.out], hby⟩
  case rest =>
    obtain ⟨rfl, hb2⟩ := hcut
    generalize wc = W2 at *
    have R1 := Lib.hid (R1.out.kept hb2)
    have RW := Lib.hid (RW.out.kept hb2)
    have R2 := Lib.hid (R2.out.kept hb2)
    have hbW := hbW.trans (hb2.mono hbW.size)
    clear hb2 HRa c13 hWs
    have hWs : w.heap.size + 2 < W2.heap.size := R2.out.lt
    cases hrf : s.refuses i x
    rotate_left
    · have HT1 : Hid (s.take i x = (s, [])) := SS.take_no hrf
      clear hrf
      go_wp2_with (first
        | ((with_reducible refine at_load 59 (.tmp 3) ?_); refine wpList_load_midW rfl 59 (.tmp 3) rfl (w.heap.size) (0) rfl [.int .u8 ((s.id.f 0).toNat : Int), .int .u8 ((s.id.f 1).toNat : Int), .int .u8 ((s.id.f 2).toNat : Int), .int .u8 ((s.id.f 3).toNat : Int), .int .u8 ((s.id.f 4).toNat : Int), .int .u8 ((s.id.f 5).toNat : Int), .int .u8 ((s.id.f 6).toNat : Int), .int .u8 ((s.id.f 7).toNat : Int), .int .i64 s.ma, .int .i64 s.he, .int .i64 s.de, .int .i64 s.now, .int .i64 s.chg, (.slice (some ⟨g, 0, none⟩) s.ports.length cap), .int .u8 ((s.best.r.f 0).toNat : Int), .int .u8 ((s.best.r.f 1).toNat : Int), .int .u8 ((s.best.r.f 2).toNat : Int), .int .u8 ((s.best.r.f 3).toNat : Int), .int .u8 ((s.best.r.f 4).toNat : Int), .int .u8 ((s.best.r.f 5).toNat : Int), .int .u8 ((s.best.r.f 6).toNat : Int), .int .u8 ((s.best.r.f 7).toNat : Int), .int .i64 s.best.c, .int .u8 ((s.best.b.f 0).toNat : Int), .int .u8 ((s.best.b.f 1).toNat : Int), .int .u8 ((s.best.b.f 2).toNat : Int), .int .u8 ((s.best.b.f 3).toNat : Int), .int .u8 ((s.best.b.f 4).toNat : Int), .int .u8 ((s.best.b.f 5).toNat : Int), .int .u8 ((s.best.b.f 6).toNat : Int), .int .u8 ((s.best.b.f 7).toNat : Int), .int .i64 s.best.p, .int .i64 s.root] _ (range_of_row R1.out rfl) Try.underlying59 rfl (by kernel_rfl) ?_)
        | ((with_reducible refine at_store 59 (.tmp 6) (.tmp 59) ?_); refine wpList_store_own rfl 59 (.tmp 6) (.tmp 59) rfl (w.heap.size + 2) _ rfl rfl _ _ R2.out (by kernel_rfl) rfl (by simp [Value.oneCell']) (w.heap.size) (by omega) ?_))
      intro we hRe hoe hse hbe
      have HRE : Hid (RowIs we (w.heap.size + 2) 59 #[.int .u8 ((s.id.f 0).toNat : Int), .int .u8 ((s.id.f 1).toNat : Int), .int .u8 ((s.id.f 2).toNat : Int), .int .u8 ((s.id.f 3).toNat : Int), .int .u8 ((s.id.f 4).toNat : Int), .int .u8 ((s.id.f 5).toNat : Int), .int .u8 ((s.id.f 6).toNat : Int), .int .u8 ((s.id.f 7).toNat : Int), .int .i64 s.ma, .int .i64 s.he, .int .i64 s.de, .int .i64 s.now, .int .i64 s.chg, (.slice (some ⟨g, 0, none⟩) s.ports.length cap), .int .u8 ((s.best.r.f 0).toNat : Int), .int .u8 ((s.best.r.f 1).toNat : Int), .int .u8 ((s.best.r.f 2).toNat : Int), .int .u8 ((s.best.r.f 3).toNat : Int), .int .u8 ((s.best.r.f 4).toNat : Int), .int .u8 ((s.best.r.f 5).toNat : Int), .int .u8 ((s.best.r.f 6).toNat : Int), .int .u8 ((s.best.r.f 7).toNat : Int), .int .i64 s.best.c, .int .u8 ((s.best.b.f 0).toNat : Int), .int .u8 ((s.best.b.f 1).toNat : Int), .int .u8 ((s.best.b.f 2).toNat : Int), .int .u8 ((s.best.b.f 3).toNat : Int), .int .u8 ((s.best.b.f 4).toNat : Int), .int .u8 ((s.best.b.f 5).toNat : Int), .int .u8 ((s.best.b.f 6).toNat : Int), .int .u8 ((s.best.b.f 7).toNat : Int), .int .i64 s.best.p, .int .i64 s.root]) := hRe
      have hRA : RAt B g cap we s.ports := (HR.out.later hbW).same (hoe _ (by have := HR.out.lt; omega))
      have hbf := hbW.trans hbe
      clear hRe hoe hse hbe
      go_wp2_with fail
      refine bodyPost_ret (results_row_tmp1 Try.results21 _ _ (w.heap.size + 2) _ _ _ rfl HRE.out Try.underlying59 rfl (by kernel_rfl)) rfl ?_
      refine ⟨g, cap, .slice none 0 0, ?_, ?_, ?_, hbf⟩
      · (rw [HT1.out]; try rfl)
      · rw [HT1.out]; exact hRA
      · rw [HT1.out]; exact rout_nil _ _
    · obtain ⟨k, rfl, hltk, hxr, hxa, hxc⟩ := SS.not_refuses hrf
      have HXR := Lib.hid hxr
      have HXA := Lib.hid hxa
      have HXC := Lib.hid hxc
      have HNR := Lib.hid hrf
      clear hxr hxa hxc hrf
      have HPK0 : Hid (s.ports[k] = s.port k) := s.port_get hltk
      have HSC0 : Hid (0 ≤ (s.port k).since ∧ (s.port k).since ≤ s.now) := HOK.out.since k
      have HPF0 : Hid (s.port k).Fit := HF0.out k
      have HRG0 : Hid (W2.rangeAt g (k * 30) (s.port k).rc) := by
        show World.rangeAt _ _ _ _
        rw [← HPK0.out]
        exact (HR.out.later hbW).range hltk
      cases hpk : s.port k with
      | mk pc up heard pw prole pstate psince =>
      have HPT := Lib.hid hpk
      rw [hpk] at HPK0 HSC0 HPF0 HRG0
      have HPK := HPK0
      have HSC : Hid (0 ≤ psince ∧ psince ≤ s.now) := HSC0
      have HPF : Hid (SP.Fit ⟨pc, up, heard, pw, prole, pstate, psince⟩) := HPF0
      have HRG : Hid (W2.rangeAt g (k * 30) (SP.rc ⟨pc, up, heard, pw, prole, pstate, psince⟩)) := HRG0
      clear HSC0 HPF0 HPK0 HRG0 hpk
      have c13 : W2.cell? ⟨w.heap.size, 13, none⟩ = some (.slice (some ⟨g, 0, none⟩) s.ports.length cap) := R1.out.cell 13
      go_wp2_with (first
        | ((with_reducible refine at_load 75 (.tmp 63) ?_); refine wpList_load_midW rfl 75 (.tmp 63) rfl (g) ((k * 30)) rfl [.int .i64 pc, .int .i64 prole, .int .i64 (pstate), .int .i64 psince, .bool up, .bool heard, .int .u8 ((pw.r.f 0).toNat : Int), .int .u8 ((pw.r.f 1).toNat : Int), .int .u8 ((pw.r.f 2).toNat : Int), .int .u8 ((pw.r.f 3).toNat : Int), .int .u8 ((pw.r.f 4).toNat : Int), .int .u8 ((pw.r.f 5).toNat : Int), .int .u8 ((pw.r.f 6).toNat : Int), .int .u8 ((pw.r.f 7).toNat : Int), .int .u8 ((pw.b.f 0).toNat : Int), .int .u8 ((pw.b.f 1).toNat : Int), .int .u8 ((pw.b.f 2).toNat : Int), .int .u8 ((pw.b.f 3).toNat : Int), .int .u8 ((pw.b.f 4).toNat : Int), .int .u8 ((pw.b.f 5).toNat : Int), .int .u8 ((pw.b.f 6).toNat : Int), .int .u8 ((pw.b.f 7).toNat : Int), .int .i64 pw.c, .int .i64 pw.p, .int .i64 pw.age, .int .i64 pw.ma, .int .i64 pw.he, .int .i64 pw.de, .bool pw.ch, .bool pw.ak] _ HRG.out Try.underlying75 rfl (by kernel_rfl) ?_)
        | ((with_reducible refine at_store 75 (.tmp 8) (.tmp 64) ?_); refine wpList_store_own rfl 75 (.tmp 8) (.tmp 64) rfl (W2.heap.size) _ rfl rfl _ _ (rowIs_new W2 _ _) (by kernel_rfl) rfl (by simp [Value.oneCell']) (W2.heap.size) (Nat.le_refl _) ?_))
      intro w3 hR3 ho3 hs3 hb3
      have hbw : Below W2.heap.size W2 w3 := ((Below.refl _ _).alloc (Nat.le_refl _) _).trans hb3
      have HP : Hid (RowIs w3 W2.heap.size 75 #[.int .i64 pc, .int .i64 prole, .int .i64 (pstate), .int .i64 psince, .bool up, .bool heard, .int .u8 ((pw.r.f 0).toNat : Int), .int .u8 ((pw.r.f 1).toNat : Int), .int .u8 ((pw.r.f 2).toNat : Int), .int .u8 ((pw.r.f 3).toNat : Int), .int .u8 ((pw.r.f 4).toNat : Int), .int .u8 ((pw.r.f 5).toNat : Int), .int .u8 ((pw.r.f 6).toNat : Int), .int .u8 ((pw.r.f 7).toNat : Int), .int .u8 ((pw.b.f 0).toNat : Int), .int .u8 ((pw.b.f 1).toNat : Int), .int .u8 ((pw.b.f 2).toNat : Int), .int .u8 ((pw.b.f 3).toNat : Int), .int .u8 ((pw.b.f 4).toNat : Int), .int .u8 ((pw.b.f 5).toNat : Int), .int .u8 ((pw.b.f 6).toNat : Int), .int .u8 ((pw.b.f 7).toNat : Int), .int .i64 pw.c, .int .i64 pw.p, .int .i64 pw.age, .int .i64 pw.ma, .int .i64 pw.he, .int .i64 pw.de, .bool pw.ch, .bool pw.ak]) := hR3
      have R1 := Lib.hid (R1.out.kept hbw)
      have RW := Lib.hid (RW.out.kept hbw)
      have R2 := Lib.hid (R2.out.kept hbw)
      have hbW3 := hbW.trans (hbw.mono hbW.size)
      clear hR3 ho3 hs3 hb3 c13 HRG hbW hbw
      have p5 := cell_regrown (show w3.cell? ⟨W2.heap.size, 5, none⟩ = some (.bool heard) from HP.out.cell 5)
      have k17 := cell_regrown (show w3.cell? ⟨w.heap.size + 1, 17, none⟩ = some (.int .i64 x.p) from RW.out.cell 17)
      have k23 := cell_regrown (show w3.cell? ⟨W2.heap.size, 23, none⟩ = some (.int .i64 pw.p) from HP.out.cell 23)
      have HH : Hid (SP.hears ⟨pc, up, heard, pw, prole, pstate, psince⟩ x = (!heard || x.v.better pw.v || (decide (x.b = pw.b) && x.p == pw.p))) := rfl
      go_upto_region 4 with fail
      go_cut [91] (fun v wx => v = .bool (!(SP.hears ⟨pc, up, heard, pw, prole, pstate, psince⟩ x)) ∧ Below w3.heap.size w3 wx)
      case first =>
        cases heard
        · have HV : Hid (SP.hears ⟨pc, up, false, pw, prole, pstate, psince⟩ x = true) := HH.out
          refine wp_region_mix 27 (by kernel_rfl) (by kernel_rfl) (by kernel_rfl) ?_
          (refine mix_step (by kernel_rfl) (by kernel_rfl) (fun K hK => ?_); go_simp; (try (simp only [↓IntWalk.iteOmega]; go_simp)); (first | (refine hK _ ?_; clear hK K) | (apply Exists.intro; refine ⟨fun _ => ?_, hK _ ?_⟩; (first | fail); clear hK K)))
          (refine mix_step (by kernel_rfl) (by kernel_rfl) (fun K hK => ?_); go_simp; (try (simp only [↓IntWalk.iteOmega]; go_simp)); (first | (refine hK _ ?_; clear hK K) | (apply Exists.intro; refine ⟨fun _ => ?_, hK _ ?_⟩; (first | fail); clear hK K)))
          (refine mix_step (by kernel_rfl) (by kernel_rfl) (fun K hK => ?_); go_simp; (try (simp only [↓IntWalk.iteOmega]; go_simp)); (first | (refine hK _ ?_; clear hK K) | (apply Exists.intro; refine ⟨fun _ => ?_, hK _ ?_⟩; (first | fail); clear hK K)))
          (refine mix_step (by kernel_rfl) (by kernel_rfl) (fun K hK => ?_); go_simp; (try (simp only [↓IntWalk.iteOmega]; go_simp)); (first | (refine hK _ ?_; clear hK K) | (apply Exists.intro; refine ⟨fun _ => ?_, hK _ ?_⟩; (first | fail); clear hK K)))
          (refine mix_step (by kernel_rfl) (by kernel_rfl) (fun K hK => ?_); go_simp; (try (simp only [↓IntWalk.iteOmega]; go_simp)); (first | (refine hK _ ?_; clear hK K) | (apply Exists.intro; refine ⟨fun _ => ?_, hK _ ?_⟩; (first | fail); clear hK K)))
          (refine mix_step (by kernel_rfl) (by kernel_rfl) (fun K hK => ?_); go_simp; (try (simp only [↓IntWalk.iteOmega]; go_simp)); (first | (refine hK _ ?_; clear hK K) | (apply Exists.intro; refine ⟨fun _ => ?_, hK _ ?_⟩; (first | fail); clear hK K)))
          (refine mix_step (by kernel_rfl) (by kernel_rfl) (fun K hK => ?_); go_simp; (try (simp only [↓IntWalk.iteOmega]; go_simp)); (first | (refine hK _ ?_; clear hK K) | (apply Exists.intro; refine ⟨fun _ => ?_, hK _ ?_⟩; (first | fail); clear hK K)))
          (refine mix_step (by kernel_rfl) (by kernel_rfl) (fun K hK => ?_); go_simp; (try (simp only [↓IntWalk.iteOmega]; go_simp)); (first | (refine hK _ ?_; clear hK K) | (apply Exists.intro; refine ⟨fun _ => ?_, hK _ ?_⟩; (first | fail); clear hK K)))
          (refine mix_step (by kernel_rfl) (by kernel_rfl) (fun K hK => ?_); go_simp; (try (simp only [↓IntWalk.iteOmega]; go_simp)); (first | (refine hK _ ?_; clear hK K) | (apply Exists.intro; refine ⟨fun _ => ?_, hK _ ?_⟩; (first | fail); clear hK K)))
          (refine mix_step (by kernel_rfl) (by kernel_rfl) (fun K hK => ?_); go_simp; (try (simp only [↓IntWalk.iteOmega]; go_simp)); (first | (refine hK _ ?_; clear hK K) | (apply Exists.intro; refine ⟨fun _ => ?_, hK _ ?_⟩; (first | fail); clear hK K)))
          (refine mix_step (by kernel_rfl) (by kernel_rfl) (fun K hK => ?_); go_simp; (try (simp only [↓IntWalk.iteOmega]; go_simp)); (first | (refine hK _ ?_; clear hK K) | (apply Exists.intro; refine ⟨fun _ => ?_, hK _ ?_⟩; (first | fail); clear hK K)))
          (refine mix_step (by kernel_rfl) (by kernel_rfl) (fun K hK => ?_); go_simp; (try (simp only [↓IntWalk.iteOmega]; go_simp)); (first | (refine hK _ ?_; clear hK K) | (apply Exists.intro; refine ⟨fun _ => ?_, hK _ ?_⟩; (first | fail); clear hK K)))
          (refine mix_step (by kernel_rfl) (by kernel_rfl) (fun K hK => ?_); go_simp; (try (simp only [↓IntWalk.iteOmega]; go_simp)); (first | (refine hK _ ?_; clear hK K) | (apply Exists.intro; refine ⟨fun _ => ?_, hK _ ?_⟩; (first | fail); clear hK K)))
          (refine mix_step (by kernel_rfl) (by kernel_rfl) (fun K hK => ?_); go_simp; (try (simp only [↓IntWalk.iteOmega]; go_simp)); (first | (refine hK _ ?_; clear hK K) | (apply Exists.intro; refine ⟨fun _ => ?_, hK _ ?_⟩; (first | fail); clear hK K)))
          (refine mix_step (by kernel_rfl) (by kernel_rfl) (fun K hK => ?_); go_simp; (try (simp only [↓IntWalk.iteOmega]; go_simp)); (first | (refine hK _ ?_; clear hK K) | (apply Exists.intro; refine ⟨fun _ => ?_, hK _ ?_⟩; (first | fail); clear hK K)))
          (refine mix_step (by kernel_rfl) (by kernel_rfl) (fun K hK => ?_); go_simp; (try (simp only [↓IntWalk.iteOmega]; go_simp)); (first | (refine hK _ ?_; clear hK K) | (apply Exists.intro; refine ⟨fun _ => ?_, hK _ ?_⟩; (first | fail); clear hK K)))
          (refine mix_step (by kernel_rfl) (by kernel_rfl) (fun K hK => ?_); go_simp; (try (simp only [↓IntWalk.iteOmega]; go_simp)); (first | (refine hK _ ?_; clear hK K) | (apply Exists.intro; refine ⟨fun _ => ?_, hK _ ?_⟩; (first | fail); clear hK K)))
          (refine mix_step (by kernel_rfl) (by kernel_rfl) (fun K hK => ?_); go_simp; (try (simp only [↓IntWalk.iteOmega]; go_simp)); (first | (refine hK _ ?_; clear hK K) | (apply Exists.intro; refine ⟨fun _ => ?_, hK _ ?_⟩; (first | fail); clear hK K)))
          (refine mix_step (by kernel_rfl) (by kernel_rfl) (fun K hK => ?_); go_simp; (try (simp only [↓IntWalk.iteOmega]; go_simp)); (first | (refine hK _ ?_; clear hK K) | (apply Exists.intro; refine ⟨fun _ => ?_, hK _ ?_⟩; (first | fail); clear hK K)))
          (refine mix_step (by kernel_rfl) (by kernel_rfl) (fun K hK => ?_); go_simp; (try (simp only [↓IntWalk.iteOmega]; go_simp)); (first | (refine hK _ ?_; clear hK K) | (apply Exists.intro; refine ⟨fun _ => ?_, hK _ ?_⟩; (first | fail); clear hK K)))
          (refine mix_step (by kernel_rfl) (by kernel_rfl) (fun K hK => ?_); go_simp; (try (simp only [↓IntWalk.iteOmega]; go_simp)); (first | (refine hK _ ?_; clear hK K) | (apply Exists.intro; refine ⟨fun _ => ?_, hK _ ?_⟩; (first | fail); clear hK K)))
          (refine mix_step (by kernel_rfl) (by kernel_rfl) (fun K hK => ?_); go_simp; (try (simp only [↓IntWalk.iteOmega]; go_simp)); (first | (refine hK _ ?_; clear hK K) | (apply Exists.intro; refine ⟨fun _ => ?_, hK _ ?_⟩; (first | fail); clear hK K)))
          (refine mix_step (by kernel_rfl) (by kernel_rfl) (fun K hK => ?_); go_simp; (try (simp only [↓IntWalk.iteOmega]; go_simp)); (first | (refine hK _ ?_; clear hK K) | (apply Exists.intro; refine ⟨fun _ => ?_, hK _ ?_⟩; (first | fail); clear hK K)))
          (refine mix_step (by kernel_rfl) (by kernel_rfl) (fun K hK => ?_); go_simp; (try (simp only [↓IntWalk.iteOmega]; go_simp)); (first | (refine hK _ ?_; clear hK K) | (apply Exists.intro; refine ⟨fun _ => ?_, hK _ ?_⟩; (first | fail); clear hK K)))
          (refine mix_step (by kernel_rfl) (by kernel_rfl) (fun K hK => ?_); go_simp; (try (simp only [↓IntWalk.iteOmega]; go_simp)); (first | (refine hK _ ?_; clear hK K) | (apply Exists.intro; refine ⟨fun _ => ?_, hK _ ?_⟩; (first | fail); clear hK K)))
          (refine mix_step (by kernel_rfl) (by kernel_rfl) (fun K hK => ?_); go_simp; (try (simp only [↓IntWalk.iteOmega]; go_simp)); (first | (refine hK _ ?_; clear hK K) | (apply Exists.intro; refine ⟨fun _ => ?_, hK _ ?_⟩; (first | fail); clear hK K)))
          (refine mix_step (by kernel_rfl) (by kernel_rfl) (fun K hK => ?_); go_simp; (try (simp only [↓IntWalk.iteOmega]; go_simp)); (first | (refine hK _ ?_; clear hK K) | (apply Exists.intro; refine ⟨fun _ => ?_, hK _ ?_⟩; (first | fail); clear hK K)))
          refine mix_nil ?_
          rintro ⟨dq, osq⟩
          have hbq := below_regrown w3 dq osq
          refine (show wpList _ _ _ _ _ _ from ?_)
          simp only [List.drop, Act.put, List.setIfInBounds_toArray, List.set]
          go_wp2_with fail
          go_meet
          exact ⟨by rw [HV.out]; try first | rfl | (rw [bne, HPP.out]; rfl) | rw [bne, HPP.out], hbq⟩
        · have C1 := Lib.hid (fun (q : Regrown) => refVector_any x (grow (redrawn w3 q.d) q.os))
          have C2 := Lib.hid (fun (q : Regrown) => refVector_any pw (grow (redrawn w3 q.d) q.os))
          have C3 := Lib.hid (fun (q : Regrown) => refBetter_any x.v pw.v (grow (redrawn w3 q.d) q.os))
          have HH : Hid (SP.hears ⟨pc, up, true, pw, prole, pstate, psince⟩ x = (x.v.better pw.v || (decide (x.b = pw.b) && x.p == pw.p))) := HH.out
          have m1 : ∀ w, (Op.equalIn 10000 22 (.agg #[.int .u8 ((x.b.f 0).toNat : Int), .int .u8 ((x.b.f 1).toNat : Int), .int .u8 ((x.b.f 2).toNat : Int), .int .u8 ((x.b.f 3).toNat : Int), .int .u8 ((x.b.f 4).toNat : Int), .int .u8 ((x.b.f 5).toNat : Int), .int .u8 ((x.b.f 6).toNat : Int), .int .u8 ((x.b.f 7).toNat : Int)]) (.agg #[.int .u8 ((pw.b.f 0).toNat : Int), .int .u8 ((pw.b.f 1).toNat : Int), .int .u8 ((pw.b.f 2).toNat : Int), .int .u8 ((pw.b.f 3).toNat : Int), .int .u8 ((pw.b.f 4).toNat : Int), .int .u8 ((pw.b.f 5).toNat : Int), .int .u8 ((pw.b.f 6).toNat : Int), .int .u8 ((pw.b.f 7).toNat : Int)])).run Try.prog w = .ok (decide (x.b = pw.b)) w := fun w => by
            rw [← eqB_id]
            exact run_equalIn_id8 9998 x.b.f pw.b.f w
          generalize x.v.better pw.v = bt at *
          generalize decide (x.b = pw.b) = eb at *
          cases bt
          · have HH : Hid (SP.hears ⟨pc, up, true, pw, prole, pstate, psince⟩ x = (eb && x.p == pw.p)) := HH.out
            cases hpp : (x.p == pw.p)
            · have HPP := Lib.hid hpp
              have HV : Hid (SP.hears ⟨pc, up, true, pw, prole, pstate, psince⟩ x = false) := by show _ = _; rw [HH.out, hpp]; cases eb <;> rfl
              cases eb
              · refine wp_region_mix 27 (by kernel_rfl) (by kernel_rfl) (by kernel_rfl) ?_
                (refine mix_step (by kernel_rfl) (by kernel_rfl) (fun K hK => ?_); go_simp; (try (simp only [↓IntWalk.iteOmega]; go_simp)); (first | (refine hK _ ?_; clear hK K) | (apply Exists.intro; refine ⟨fun _ => ?_, hK _ ?_⟩; (first | fail); clear hK K)))
                (refine mix_step (by kernel_rfl) (by kernel_rfl) (fun K hK => ?_); go_simp; (try (simp only [↓IntWalk.iteOmega]; go_simp)); (first | (refine hK _ ?_; clear hK K) | (apply Exists.intro; refine ⟨fun _ => ?_, hK _ ?_⟩; (first | fail); clear hK K)))
                (refine mix_step (by kernel_rfl) (by kernel_rfl) (fun K hK => ?_); go_simp; (try (simp only [↓IntWalk.iteOmega]; go_simp)); (first | (refine hK _ ?_; clear hK K) | (apply Exists.intro; refine ⟨fun _ => ?_, hK _ ?_⟩; (first | fail); clear hK K)))
                refine mix_exact (.agg #[.int .u8 ((x.r.f 0).toNat : Int), .int .u8 ((x.r.f 1).toNat : Int), .int .u8 ((x.r.f 2).toNat : Int), .int .u8 ((x.r.f 3).toNat : Int), .int .u8 ((x.r.f 4).toNat : Int), .int .u8 ((x.r.f 5).toNat : Int), .int .u8 ((x.r.f 6).toNat : Int), .int .u8 ((x.r.f 7).toNat : Int), .int .u8 ((x.b.f 0).toNat : Int), .int .u8 ((x.b.f 1).toNat : Int), .int .u8 ((x.b.f 2).toNat : Int), .int .u8 ((x.b.f 3).toNat : Int), .int .u8 ((x.b.f 4).toNat : Int), .int .u8 ((x.b.f 5).toNat : Int), .int .u8 ((x.b.f 6).toNat : Int), .int .u8 ((x.b.f 7).toNat : Int), .int .i64 x.c, .int .i64 x.p, .int .i64 x.age, .int .i64 x.ma, .int .i64 x.he, .int .i64 x.de, .bool x.ch, .bool x.ak]) rfl (exact_load_row rfl rfl (by simp) RW.out Try.underlying63 rfl (by kernel_rfl)) ?_
                (refine mix_step (by kernel_rfl) (by kernel_rfl) (fun K hK => ?_); go_simp; (try (simp only [↓IntWalk.iteOmega]; go_simp)); (first | (refine hK _ ?_; clear hK K) | (apply Exists.intro; refine ⟨fun _ => ?_, hK _ ?_⟩; (first | exact C1.out _); clear hK K)))
                (refine mix_step (by kernel_rfl) (by kernel_rfl) (fun K hK => ?_); go_simp; (try (simp only [↓IntWalk.iteOmega]; go_simp)); (first | (refine hK _ ?_; clear hK K) | (apply Exists.intro; refine ⟨fun _ => ?_, hK _ ?_⟩; (first | fail); clear hK K)))
                refine mix_exact (.agg #[.int .u8 ((pw.r.f 0).toNat : Int), .int .u8 ((pw.r.f 1).toNat : Int), .int .u8 ((pw.r.f 2).toNat : Int), .int .u8 ((pw.r.f 3).toNat : Int), .int .u8 ((pw.r.f 4).toNat : Int), .int .u8 ((pw.r.f 5).toNat : Int), .int .u8 ((pw.r.f 6).toNat : Int), .int .u8 ((pw.r.f 7).toNat : Int), .int .u8 ((pw.b.f 0).toNat : Int), .int .u8 ((pw.b.f 1).toNat : Int), .int .u8 ((pw.b.f 2).toNat : Int), .int .u8 ((pw.b.f 3).toNat : Int), .int .u8 ((pw.b.f 4).toNat : Int), .int .u8 ((pw.b.f 5).toNat : Int), .int .u8 ((pw.b.f 6).toNat : Int), .int .u8 ((pw.b.f 7).toNat : Int), .int .i64 pw.c, .int .i64 pw.p, .int .i64 pw.age, .int .i64 pw.ma, .int .i64 pw.he, .int .i64 pw.de, .bool pw.ch, .bool pw.ak]) rfl (exact_load_mid (sub := [.int .u8 ((pw.r.f 0).toNat : Int), .int .u8 ((pw.r.f 1).toNat : Int), .int .u8 ((pw.r.f 2).toNat : Int), .int .u8 ((pw.r.f 3).toNat : Int), .int .u8 ((pw.r.f 4).toNat : Int), .int .u8 ((pw.r.f 5).toNat : Int), .int .u8 ((pw.r.f 6).toNat : Int), .int .u8 ((pw.r.f 7).toNat : Int), .int .u8 ((pw.b.f 0).toNat : Int), .int .u8 ((pw.b.f 1).toNat : Int), .int .u8 ((pw.b.f 2).toNat : Int), .int .u8 ((pw.b.f 3).toNat : Int), .int .u8 ((pw.b.f 4).toNat : Int), .int .u8 ((pw.b.f 5).toNat : Int), .int .u8 ((pw.b.f 6).toNat : Int), .int .u8 ((pw.b.f 7).toNat : Int), .int .i64 pw.c, .int .i64 pw.p, .int .i64 pw.age, .int .i64 pw.ma, .int .i64 pw.he, .int .i64 pw.de, .bool pw.ch, .bool pw.ak]) rfl rfl (by simp) HP.out rfl Try.underlying63 rfl (by kernel_rfl)) ?_
                (refine mix_step (by kernel_rfl) (by kernel_rfl) (fun K hK => ?_); go_simp; (try (simp only [↓IntWalk.iteOmega]; go_simp)); (first | (refine hK _ ?_; clear hK K) | (apply Exists.intro; refine ⟨fun _ => ?_, hK _ ?_⟩; (first | exact C2.out _); clear hK K)))
                (refine mix_step (by kernel_rfl) (by kernel_rfl) (fun K hK => ?_); go_simp; (try (simp only [↓IntWalk.iteOmega]; go_simp)); (first | (refine hK _ ?_; clear hK K) | (apply Exists.intro; refine ⟨fun _ => ?_, hK _ ?_⟩; (first | exact C3.out _); clear hK K)))
                (refine mix_step (by kernel_rfl) (by kernel_rfl) (fun K hK => ?_); go_simp; (try (simp only [↓IntWalk.iteOmega]; go_simp)); (first | (refine hK _ ?_; clear hK K) | (apply Exists.intro; refine ⟨fun _ => ?_, hK _ ?_⟩; (first | fail); clear hK K)))
                (refine mix_step (by kernel_rfl) (by kernel_rfl) (fun K hK => ?_); go_simp; (try (simp only [↓IntWalk.iteOmega]; go_simp)); (first | (refine hK _ ?_; clear hK K) | (apply Exists.intro; refine ⟨fun _ => ?_, hK _ ?_⟩; (first | fail); clear hK K)))
                (refine mix_step (by kernel_rfl) (by kernel_rfl) (fun K hK => ?_); go_simp; (try (simp only [↓IntWalk.iteOmega]; go_simp)); (first | (refine hK _ ?_; clear hK K) | (apply Exists.intro; refine ⟨fun _ => ?_, hK _ ?_⟩; (first | fail); clear hK K)))
                (refine mix_step (by kernel_rfl) (by kernel_rfl) (fun K hK => ?_); go_simp; (try (simp only [↓IntWalk.iteOmega]; go_simp)); (first | (refine hK _ ?_; clear hK K) | (apply Exists.intro; refine ⟨fun _ => ?_, hK _ ?_⟩; (first | fail); clear hK K)))
                refine mix_exact (.agg #[.int .u8 ((x.b.f 0).toNat : Int), .int .u8 ((x.b.f 1).toNat : Int), .int .u8 ((x.b.f 2).toNat : Int), .int .u8 ((x.b.f 3).toNat : Int), .int .u8 ((x.b.f 4).toNat : Int), .int .u8 ((x.b.f 5).toNat : Int), .int .u8 ((x.b.f 6).toNat : Int), .int .u8 ((x.b.f 7).toNat : Int)]) rfl (exact_load_mid (sub := [.int .u8 ((x.b.f 0).toNat : Int), .int .u8 ((x.b.f 1).toNat : Int), .int .u8 ((x.b.f 2).toNat : Int), .int .u8 ((x.b.f 3).toNat : Int), .int .u8 ((x.b.f 4).toNat : Int), .int .u8 ((x.b.f 5).toNat : Int), .int .u8 ((x.b.f 6).toNat : Int), .int .u8 ((x.b.f 7).toNat : Int)]) rfl rfl (by simp) RW.out rfl Try.underlying22 rfl (by kernel_rfl)) ?_
                (refine mix_step (by kernel_rfl) (by kernel_rfl) (fun K hK => ?_); go_simp; (try (simp only [↓IntWalk.iteOmega]; go_simp)); (first | (refine hK _ ?_; clear hK K) | (apply Exists.intro; refine ⟨fun _ => ?_, hK _ ?_⟩; (first | fail); clear hK K)))
                (refine mix_step (by kernel_rfl) (by kernel_rfl) (fun K hK => ?_); go_simp; (try (simp only [↓IntWalk.iteOmega]; go_simp)); (first | (refine hK _ ?_; clear hK K) | (apply Exists.intro; refine ⟨fun _ => ?_, hK _ ?_⟩; (first | fail); clear hK K)))
                refine mix_exact (.agg #[.int .u8 ((pw.b.f 0).toNat : Int), .int .u8 ((pw.b.f 1).toNat : Int), .int .u8 ((pw.b.f 2).toNat : Int), .int .u8 ((pw.b.f 3).toNat : Int), .int .u8 ((pw.b.f 4).toNat : Int), .int .u8 ((pw.b.f 5).toNat : Int), .int .u8 ((pw.b.f 6).toNat : Int), .int .u8 ((pw.b.f 7).toNat : Int)]) rfl (exact_load_mid (sub := [.int .u8 ((pw.b.f 0).toNat : Int), .int .u8 ((pw.b.f 1).toNat : Int), .int .u8 ((pw.b.f 2).toNat : Int), .int .u8 ((pw.b.f 3).toNat : Int), .int .u8 ((pw.b.f 4).toNat : Int), .int .u8 ((pw.b.f 5).toNat : Int), .int .u8 ((pw.b.f 6).toNat : Int), .int .u8 ((pw.b.f 7).toNat : Int)]) rfl rfl (by simp) HP.out rfl Try.underlying22 rfl (by kernel_rfl)) ?_
                (refine mix_step (by kernel_rfl) (by kernel_rfl) (fun K hK => ?_); go_simp; (try (simp only [↓IntWalk.iteOmega]; go_simp)); (first | (refine hK _ ?_; clear hK K) | (apply Exists.intro; refine ⟨fun _ => ?_, hK _ ?_⟩; (first | fail); clear hK K)))
                (refine mix_step (by kernel_rfl) (by kernel_rfl) (fun K hK => ?_); go_simp; (try (simp only [↓IntWalk.iteOmega]; go_simp)); (first | (refine hK _ ?_; clear hK K) | (apply Exists.intro; refine ⟨fun _ => ?_, hK _ ?_⟩; (first | fail); clear hK K)))
                (refine mix_step (by kernel_rfl) (by kernel_rfl) (fun K hK => ?_); go_simp; (try (simp only [↓IntWalk.iteOmega]; go_simp)); (first | (refine hK _ ?_; clear hK K) | (apply Exists.intro; refine ⟨fun _ => ?_, hK _ ?_⟩; (first | fail); clear hK K)))
                (refine mix_step (by kernel_rfl) (by kernel_rfl) (fun K hK => ?_); go_simp; (try (simp only [↓IntWalk.iteOmega]; go_simp)); (first | (refine hK _ ?_; clear hK K) | (apply Exists.intro; refine ⟨fun _ => ?_, hK _ ?_⟩; (first | fail); clear hK K)))
                (refine mix_step (by kernel_rfl) (by kernel_rfl) (fun K hK => ?_); go_simp; (try (simp only [↓IntWalk.iteOmega]; go_simp)); (first | (refine hK _ ?_; clear hK K) | (apply Exists.intro; refine ⟨fun _ => ?_, hK _ ?_⟩; (first | fail); clear hK K)))
                (refine mix_step (by kernel_rfl) (by kernel_rfl) (fun K hK => ?_); go_simp; (try (simp only [↓IntWalk.iteOmega]; go_simp)); (first | (refine hK _ ?_; clear hK K) | (apply Exists.intro; refine ⟨fun _ => ?_, hK _ ?_⟩; (first | fail); clear hK K)))
                (refine mix_step (by kernel_rfl) (by kernel_rfl) (fun K hK => ?_); go_simp; (try (simp only [↓IntWalk.iteOmega]; go_simp)); (first | (refine hK _ ?_; clear hK K) | (apply Exists.intro; refine ⟨fun _ => ?_, hK _ ?_⟩; (first | fail); clear hK K)))
                (refine mix_step (by kernel_rfl) (by kernel_rfl) (fun K hK => ?_); go_simp; (try (simp only [↓IntWalk.iteOmega]; go_simp)); (first | (refine hK _ ?_; clear hK K) | (apply Exists.intro; refine ⟨fun _ => ?_, hK _ ?_⟩; (first | fail); clear hK K)))
                (refine mix_step (by kernel_rfl) (by kernel_rfl) (fun K hK => ?_); go_simp; (try (simp only [↓IntWalk.iteOmega]; go_simp)); (first | (refine hK _ ?_; clear hK K) | (apply Exists.intro; refine ⟨fun _ => ?_, hK _ ?_⟩; (first | fail); clear hK K)))
                (refine mix_step (by kernel_rfl) (by kernel_rfl) (fun K hK => ?_); go_simp; (try (simp only [↓IntWalk.iteOmega]; go_simp)); (first | (refine hK _ ?_; clear hK K) | (apply Exists.intro; refine ⟨fun _ => ?_, hK _ ?_⟩; (first | fail); clear hK K)))
                refine mix_nil ?_
                rintro ⟨dq, osq⟩
                have hbq := below_regrown w3 dq osq
                refine (show wpList _ _ _ _ _ _ from ?_)
                simp only [List.drop, Act.put, List.setIfInBounds_toArray, List.set]
                go_wp2_with fail
                go_meet
                exact ⟨by rw [HV.out]; try first | rfl | (rw [bne, HPP.out]; rfl) | rw [bne, HPP.out], hbq⟩
              · refine wp_region_mix 27 (by kernel_rfl) (by kernel_rfl) (by kernel_rfl) ?_
                (refine mix_step (by kernel_rfl) (by kernel_rfl) (fun K hK => ?_); go_simp; (try (simp only [↓IntWalk.iteOmega]; go_simp)); (first | (refine hK _ ?_; clear hK K) | (apply Exists.intro; refine ⟨fun _ => ?_, hK _ ?_⟩; (first | fail); clear hK K)))
                (refine mix_step (by kernel_rfl) (by kernel_rfl) (fun K hK => ?_); go_simp; (try (simp only [↓IntWalk.iteOmega]; go_simp)); (first | (refine hK _ ?_; clear hK K) | (apply Exists.intro; refine ⟨fun _ => ?_, hK _ ?_⟩; (first | fail); clear hK K)))
                (refine mix_step (by kernel_rfl) (by kernel_rfl) (fun K hK => ?_); go_simp; (try (simp only [↓IntWalk.iteOmega]; go_simp)); (first | (refine hK _ ?_; clear hK K) | (apply Exists.intro; refine ⟨fun _ => ?_, hK _ ?_⟩; (first | fail); clear hK K)))
                refine mix_exact (.agg #[.int .u8 ((x.r.f 0).toNat : Int), .int .u8 ((x.r.f 1).toNat : Int), .int .u8 ((x.r.f 2).toNat : Int), .int .u8 ((x.r.f 3).toNat : Int), .int .u8 ((x.r.f 4).toNat : Int), .int .u8 ((x.r.f 5).toNat : Int), .int .u8 ((x.r.f 6).toNat : Int), .int .u8 ((x.r.f 7).toNat : Int), .int .u8 ((x.b.f 0).toNat : Int), .int .u8 ((x.b.f 1).toNat : Int), .int .u8 ((x.b.f 2).toNat : Int), .int .u8 ((x.b.f 3).toNat : Int), .int .u8 ((x.b.f 4).toNat : Int), .int .u8 ((x.b.f 5).toNat : Int), .int .u8 ((x.b.f 6).toNat : Int), .int .u8 ((x.b.f 7).toNat : Int), .int .i64 x.c, .int .i64 x.p, .int .i64 x.age, .int .i64 x.ma, .int .i64 x.he, .int .i64 x.de, .bool x.ch, .bool x.ak]) rfl (exact_load_row rfl rfl (by simp) RW.out Try.underlying63 rfl (by kernel_rfl)) ?_
                (refine mix_step (by kernel_rfl) (by kernel_rfl) (fun K hK => ?_); go_simp; (try (simp only [↓IntWalk.iteOmega]; go_simp)); (first | (refine hK _ ?_; clear hK K) | (apply Exists.intro; refine ⟨fun _ => ?_, hK _ ?_⟩; (first | exact C1.out _); clear hK K)))
                (refine mix_step (by kernel_rfl) (by kernel_rfl) (fun K hK => ?_); go_simp; (try (simp only [↓IntWalk.iteOmega]; go_simp)); (first | (refine hK _ ?_; clear hK K) | (apply Exists.intro; refine ⟨fun _ => ?_, hK _ ?_⟩; (first | fail); clear hK K)))
                refine mix_exact (.agg #[.int .u8 ((pw.r.f 0).toNat : Int), .int .u8 ((pw.r.f 1).toNat : Int), .int .u8 ((pw.r.f 2).toNat : Int), .int .u8 ((pw.r.f 3).toNat : Int), .int .u8 ((pw.r.f 4).toNat : Int), .int .u8 ((pw.r.f 5).toNat : Int), .int .u8 ((pw.r.f 6).toNat : Int), .int .u8 ((pw.r.f 7).toNat : Int), .int .u8 ((pw.b.f 0).toNat : Int), .int .u8 ((pw.b.f 1).toNat : Int), .int .u8 ((pw.b.f 2).toNat : Int), .int .u8 ((pw.b.f 3).toNat : Int), .int .u8 ((pw.b.f 4).toNat : Int), .int .u8 ((pw.b.f 5).toNat : Int), .int .u8 ((pw.b.f 6).toNat : Int), .int .u8 ((pw.b.f 7).toNat : Int), .int .i64 pw.c, .int .i64 pw.p, .int .i64 pw.age, .int .i64 pw.ma, .int .i64 pw.he, .int .i64 pw.de, .bool pw.ch, .bool pw.ak]) rfl (exact_load_mid (sub := [.int .u8 ((pw.r.f 0).toNat : Int), .int .u8 ((pw.r.f 1).toNat : Int), .int .u8 ((pw.r.f 2).toNat : Int), .int .u8 ((pw.r.f 3).toNat : Int), .int .u8 ((pw.r.f 4).toNat : Int), .int .u8 ((pw.r.f 5).toNat : Int), .int .u8 ((pw.r.f 6).toNat : Int), .int .u8 ((pw.r.f 7).toNat : Int), .int .u8 ((pw.b.f 0).toNat : Int), .int .u8 ((pw.b.f 1).toNat : Int), .int .u8 ((pw.b.f 2).toNat : Int), .int .u8 ((pw.b.f 3).toNat : Int), .int .u8 ((pw.b.f 4).toNat : Int), .int .u8 ((pw.b.f 5).toNat : Int), .int .u8 ((pw.b.f 6).toNat : Int), .int .u8 ((pw.b.f 7).toNat : Int), .int .i64 pw.c, .int .i64 pw.p, .int .i64 pw.age, .int .i64 pw.ma, .int .i64 pw.he, .int .i64 pw.de, .bool pw.ch, .bool pw.ak]) rfl rfl (by simp) HP.out rfl Try.underlying63 rfl (by kernel_rfl)) ?_
                (refine mix_step (by kernel_rfl) (by kernel_rfl) (fun K hK => ?_); go_simp; (try (simp only [↓IntWalk.iteOmega]; go_simp)); (first | (refine hK _ ?_; clear hK K) | (apply Exists.intro; refine ⟨fun _ => ?_, hK _ ?_⟩; (first | exact C2.out _); clear hK K)))
                (refine mix_step (by kernel_rfl) (by kernel_rfl) (fun K hK => ?_); go_simp; (try (simp only [↓IntWalk.iteOmega]; go_simp)); (first | (refine hK _ ?_; clear hK K) | (apply Exists.intro; refine ⟨fun _ => ?_, hK _ ?_⟩; (first | exact C3.out _); clear hK K)))
                (refine mix_step (by kernel_rfl) (by kernel_rfl) (fun K hK => ?_); go_simp; (try (simp only [↓IntWalk.iteOmega]; go_simp)); (first | (refine hK _ ?_; clear hK K) | (apply Exists.intro; refine ⟨fun _ => ?_, hK _ ?_⟩; (first | fail); clear hK K)))
                (refine mix_step (by kernel_rfl) (by kernel_rfl) (fun K hK => ?_); go_simp; (try (simp only [↓IntWalk.iteOmega]; go_simp)); (first | (refine hK _ ?_; clear hK K) | (apply Exists.intro; refine ⟨fun _ => ?_, hK _ ?_⟩; (first | fail); clear hK K)))
                (refine mix_step (by kernel_rfl) (by kernel_rfl) (fun K hK => ?_); go_simp; (try (simp only [↓IntWalk.iteOmega]; go_simp)); (first | (refine hK _ ?_; clear hK K) | (apply Exists.intro; refine ⟨fun _ => ?_, hK _ ?_⟩; (first | fail); clear hK K)))
                (refine mix_step (by kernel_rfl) (by kernel_rfl) (fun K hK => ?_); go_simp; (try (simp only [↓IntWalk.iteOmega]; go_simp)); (first | (refine hK _ ?_; clear hK K) | (apply Exists.intro; refine ⟨fun _ => ?_, hK _ ?_⟩; (first | fail); clear hK K)))
                refine mix_exact (.agg #[.int .u8 ((x.b.f 0).toNat : Int), .int .u8 ((x.b.f 1).toNat : Int), .int .u8 ((x.b.f 2).toNat : Int), .int .u8 ((x.b.f 3).toNat : Int), .int .u8 ((x.b.f 4).toNat : Int), .int .u8 ((x.b.f 5).toNat : Int), .int .u8 ((x.b.f 6).toNat : Int), .int .u8 ((x.b.f 7).toNat : Int)]) rfl (exact_load_mid (sub := [.int .u8 ((x.b.f 0).toNat : Int), .int .u8 ((x.b.f 1).toNat : Int), .int .u8 ((x.b.f 2).toNat : Int), .int .u8 ((x.b.f 3).toNat : Int), .int .u8 ((x.b.f 4).toNat : Int), .int .u8 ((x.b.f 5).toNat : Int), .int .u8 ((x.b.f 6).toNat : Int), .int .u8 ((x.b.f 7).toNat : Int)]) rfl rfl (by simp) RW.out rfl Try.underlying22 rfl (by kernel_rfl)) ?_
                (refine mix_step (by kernel_rfl) (by kernel_rfl) (fun K hK => ?_); go_simp; (try (simp only [↓IntWalk.iteOmega]; go_simp)); (first | (refine hK _ ?_; clear hK K) | (apply Exists.intro; refine ⟨fun _ => ?_, hK _ ?_⟩; (first | fail); clear hK K)))
                (refine mix_step (by kernel_rfl) (by kernel_rfl) (fun K hK => ?_); go_simp; (try (simp only [↓IntWalk.iteOmega]; go_simp)); (first | (refine hK _ ?_; clear hK K) | (apply Exists.intro; refine ⟨fun _ => ?_, hK _ ?_⟩; (first | fail); clear hK K)))
                refine mix_exact (.agg #[.int .u8 ((pw.b.f 0).toNat : Int), .int .u8 ((pw.b.f 1).toNat : Int), .int .u8 ((pw.b.f 2).toNat : Int), .int .u8 ((pw.b.f 3).toNat : Int), .int .u8 ((pw.b.f 4).toNat : Int), .int .u8 ((pw.b.f 5).toNat : Int), .int .u8 ((pw.b.f 6).toNat : Int), .int .u8 ((pw.b.f 7).toNat : Int)]) rfl (exact_load_mid (sub := [.int .u8 ((pw.b.f 0).toNat : Int), .int .u8 ((pw.b.f 1).toNat : Int), .int .u8 ((pw.b.f 2).toNat : Int), .int .u8 ((pw.b.f 3).toNat : Int), .int .u8 ((pw.b.f 4).toNat : Int), .int .u8 ((pw.b.f 5).toNat : Int), .int .u8 ((pw.b.f 6).toNat : Int), .int .u8 ((pw.b.f 7).toNat : Int)]) rfl rfl (by simp) HP.out rfl Try.underlying22 rfl (by kernel_rfl)) ?_
                (refine mix_step (by kernel_rfl) (by kernel_rfl) (fun K hK => ?_); go_simp; (try (simp only [↓IntWalk.iteOmega]; go_simp)); (first | (refine hK _ ?_; clear hK K) | (apply Exists.intro; refine ⟨fun _ => ?_, hK _ ?_⟩; (first | fail); clear hK K)))
                (refine mix_step (by kernel_rfl) (by kernel_rfl) (fun K hK => ?_); go_simp; (try (simp only [↓IntWalk.iteOmega]; go_simp)); (first | (refine hK _ ?_; clear hK K) | (apply Exists.intro; refine ⟨fun _ => ?_, hK _ ?_⟩; (first | fail); clear hK K)))
                (refine mix_step (by kernel_rfl) (by kernel_rfl) (fun K hK => ?_); go_simp; (try (simp only [↓IntWalk.iteOmega]; go_simp)); (first | (refine hK _ ?_; clear hK K) | (apply Exists.intro; refine ⟨fun _ => ?_, hK _ ?_⟩; (first | fail); clear hK K)))
                (refine mix_step (by kernel_rfl) (by kernel_rfl) (fun K hK => ?_); go_simp; (try (simp only [↓IntWalk.iteOmega]; go_simp)); (first | (refine hK _ ?_; clear hK K) | (apply Exists.intro; refine ⟨fun _ => ?_, hK _ ?_⟩; (first | fail); clear hK K)))
                (refine mix_step (by kernel_rfl) (by kernel_rfl) (fun K hK => ?_); go_simp; (try (simp only [↓IntWalk.iteOmega]; go_simp)); (first | (refine hK _ ?_; clear hK K) | (apply Exists.intro; refine ⟨fun _ => ?_, hK _ ?_⟩; (first | fail); clear hK K)))
                (refine mix_step (by kernel_rfl) (by kernel_rfl) (fun K hK => ?_); go_simp; (try (simp only [↓IntWalk.iteOmega]; go_simp)); (first | (refine hK _ ?_; clear hK K) | (apply Exists.intro; refine ⟨fun _ => ?_, hK _ ?_⟩; (first | fail); clear hK K)))
                (refine mix_step (by kernel_rfl) (by kernel_rfl) (fun K hK => ?_); go_simp; (try (simp only [↓IntWalk.iteOmega]; go_simp)); (first | (refine hK _ ?_; clear hK K) | (apply Exists.intro; refine ⟨fun _ => ?_, hK _ ?_⟩; (first | fail); clear hK K)))
                (refine mix_step (by kernel_rfl) (by kernel_rfl) (fun K hK => ?_); go_simp; (try (simp only [↓IntWalk.iteOmega]; go_simp)); (first | (refine hK _ ?_; clear hK K) | (apply Exists.intro; refine ⟨fun _ => ?_, hK _ ?_⟩; (first | fail); clear hK K)))
                (refine mix_step (by kernel_rfl) (by kernel_rfl) (fun K hK => ?_); go_simp; (try (simp only [↓IntWalk.iteOmega]; go_simp)); (first | (refine hK _ ?_; clear hK K) | (apply Exists.intro; refine ⟨fun _ => ?_, hK _ ?_⟩; (first | fail); clear hK K)))
                (refine mix_step (by kernel_rfl) (by kernel_rfl) (fun K hK => ?_); go_simp; (try (simp only [↓IntWalk.iteOmega]; go_simp)); (first | (refine hK _ ?_; clear hK K) | (apply Exists.intro; refine ⟨fun _ => ?_, hK _ ?_⟩; (first | fail); clear hK K)))
                refine mix_nil ?_
                rintro ⟨dq, osq⟩
                have hbq := below_regrown w3 dq osq
                refine (show wpList _ _ _ _ _ _ from ?_)
                simp only [List.drop, Act.put, List.setIfInBounds_toArray, List.set]
                go_wp2_with fail
                go_meet
                exact ⟨by rw [HV.out]; try first | rfl | (rw [bne, HPP.out]; rfl) | rw [bne, HPP.out], hbq⟩
            · have HPP := Lib.hid hpp
              have HV : Hid (SP.hears ⟨pc, up, true, pw, prole, pstate, psince⟩ x = eb) := by show _ = _; rw [HH.out, hpp]; cases eb <;> rfl
              cases eb
              · refine wp_region_mix 27 (by kernel_rfl) (by kernel_rfl) (by kernel_rfl) ?_
                (refine mix_step (by kernel_rfl) (by kernel_rfl) (fun K hK => ?_); go_simp; (try (simp only [↓IntWalk.iteOmega]; go_simp)); (first | (refine hK _ ?_; clear hK K) | (apply Exists.intro; refine ⟨fun _ => ?_, hK _ ?_⟩; (first | fail); clear hK K)))
                (refine mix_step (by kernel_rfl) (by kernel_rfl) (fun K hK => ?_); go_simp; (try (simp only [↓IntWalk.iteOmega]; go_simp)); (first | (refine hK _ ?_; clear hK K) | (apply Exists.intro; refine ⟨fun _ => ?_, hK _ ?_⟩; (first | fail); clear hK K)))
                (refine mix_step (by kernel_rfl) (by kernel_rfl) (fun K hK => ?_); go_simp; (try (simp only [↓IntWalk.iteOmega]; go_simp)); (first | (refine hK _ ?_; clear hK K) | (apply Exists.intro; refine ⟨fun _ => ?_, hK _ ?_⟩; (first | fail); clear hK K)))
                refine mix_exact (.agg #[.int .u8 ((x.r.f 0).toNat : Int), .int .u8 ((x.r.f 1).toNat : Int), .int .u8 ((x.r.f 2).toNat : Int), .int .u8 ((x.r.f 3).toNat : Int), .int .u8 ((x.r.f 4).toNat : Int), .int .u8 ((x.r.f 5).toNat : Int), .int .u8 ((x.r.f 6).toNat : Int), .int .u8 ((x.r.f 7).toNat : Int), .int .u8 ((x.b.f 0).toNat : Int), .int .u8 ((x.b.f 1).toNat : Int), .int .u8 ((x.b.f 2).toNat : Int), .int .u8 ((x.b.f 3).toNat : Int), .int .u8 ((x.b.f 4).toNat : Int), .int .u8 ((x.b.f 5).toNat : Int), .int .u8 ((x.b.f 6).toNat : Int), .int .u8 ((x.b.f 7).toNat : Int), .int .i64 x.c, .int .i64 x.p, .int .i64 x.age, .int .i64 x.ma, .int .i64 x.he, .int .i64 x.de, .bool x.ch, .bool x.ak]) rfl (exact_load_row rfl rfl (by simp) RW.out Try.underlying63 rfl (by kernel_rfl)) ?_
                (refine mix_step (by kernel_rfl) (by kernel_rfl) (fun K hK => ?_); go_simp; (try (simp only [↓IntWalk.iteOmega]; go_simp)); (first | (refine hK _ ?_; clear hK K) | (apply Exists.intro; refine ⟨fun _ => ?_, hK _ ?_⟩; (first | exact C1.out _); clear hK K)))
                (refine mix_step (by kernel_rfl) (by kernel_rfl) (fun K hK => ?_); go_simp; (try (simp only [↓IntWalk.iteOmega]; go_simp)); (first | (refine hK _ ?_; clear hK K) | (apply Exists.intro; refine ⟨fun _ => ?_, hK _ ?_⟩; (first | fail); clear hK K)))
                refine mix_exact (.agg #[.int .u8 ((pw.r.f 0).toNat : Int), .int .u8 ((pw.r.f 1).toNat : Int), .int .u8 ((pw.r.f 2).toNat : Int), .int .u8 ((pw.r.f 3).toNat : Int), .int .u8 ((pw.r.f 4).toNat : Int), .int .u8 ((pw.r.f 5).toNat : Int), .int .u8 ((pw.r.f 6).toNat : Int), .int .u8 ((pw.r.f 7).toNat : Int), .int .u8 ((pw.b.f 0).toNat : Int), .int .u8 ((pw.b.f 1).toNat : Int), .int .u8 ((pw.b.f 2).toNat : Int), .int .u8 ((pw.b.f 3).toNat : Int), .int .u8 ((pw.b.f 4).toNat : Int), .int .u8 ((pw.b.f 5).toNat : Int), .int .u8 ((pw.b.f 6).toNat : Int), .int .u8 ((pw.b.f 7).toNat : Int), .int .i64 pw.c, .int .i64 pw.p, .int .i64 pw.age, .int .i64 pw.ma, .int .i64 pw.he, .int .i64 pw.de, .bool pw.ch, .bool pw.ak]) rfl (exact_load_mid (sub := [.int .u8 ((pw.r.f 0).toNat : Int), .int .u8 ((pw.r.f 1).toNat : Int), .int .u8 ((pw.r.f 2).toNat : Int), .int .u8 ((pw.r.f 3).toNat : Int), .int .u8 ((pw.r.f 4).toNat : Int), .int .u8 ((pw.r.f 5).toNat : Int), .int .u8 ((pw.r.f 6).toNat : Int), .int .u8 ((pw.r.f 7).toNat : Int), .int .u8 ((pw.b.f 0).toNat : Int), .int .u8 ((pw.b.f 1).toNat : Int), .int .u8 ((pw.b.f 2).toNat : Int), .int .u8 ((pw.b.f 3).toNat : Int), .int .u8 ((pw.b.f 4).toNat : Int), .int .u8 ((pw.b.f 5).toNat : Int), .int .u8 ((pw.b.f 6).toNat : Int), .int .u8 ((pw.b.f 7).toNat : Int), .int .i64 pw.c, .int .i64 pw.p, .int .i64 pw.age, .int .i64 pw.ma, .int .i64 pw.he, .int .i64 pw.de, .bool pw.ch, .bool pw.ak]) rfl rfl (by simp) HP.out rfl Try.underlying63 rfl (by kernel_rfl)) ?_
                (refine mix_step (by kernel_rfl) (by kernel_rfl) (fun K hK => ?_); go_simp; (try (simp only [↓IntWalk.iteOmega]; go_simp)); (first | (refine hK _ ?_; clear hK K) | (apply Exists.intro; refine ⟨fun _ => ?_, hK _ ?_⟩; (first | exact C2.out _); clear hK K)))
                (refine mix_step (by kernel_rfl) (by kernel_rfl) (fun K hK => ?_); go_simp; (try (simp only [↓IntWalk.iteOmega]; go_simp)); (first | (refine hK _ ?_; clear hK K) | (apply Exists.intro; refine ⟨fun _ => ?_, hK _ ?_⟩; (first | exact C3.out _); clear hK K)))
                (refine mix_step (by kernel_rfl) (by kernel_rfl) (fun K hK => ?_); go_simp; (try (simp only [↓IntWalk.iteOmega]; go_simp)); (first | (refine hK _ ?_; clear hK K) | (apply Exists.intro; refine ⟨fun _ => ?_, hK _ ?_⟩; (first | fail); clear hK K)))
                (refine mix_step (by kernel_rfl) (by kernel_rfl) (fun K hK => ?_); go_simp; (try (simp only [↓IntWalk.iteOmega]; go_simp)); (first | (refine hK _ ?_; clear hK K) | (apply Exists.intro; refine ⟨fun _ => ?_, hK _ ?_⟩; (first | fail); clear hK K)))
                (refine mix_step (by kernel_rfl) (by kernel_rfl) (fun K hK => ?_); go_simp; (try (simp only [↓IntWalk.iteOmega]; go_simp)); (first | (refine hK _ ?_; clear hK K) | (apply Exists.intro; refine ⟨fun _ => ?_, hK _ ?_⟩; (first | fail); clear hK K)))
                (refine mix_step (by kernel_rfl) (by kernel_rfl) (fun K hK => ?_); go_simp; (try (simp only [↓IntWalk.iteOmega]; go_simp)); (first | (refine hK _ ?_; clear hK K) | (apply Exists.intro; refine ⟨fun _ => ?_, hK _ ?_⟩; (first | fail); clear hK K)))
                refine mix_exact (.agg #[.int .u8 ((x.b.f 0).toNat : Int), .int .u8 ((x.b.f 1).toNat : Int), .int .u8 ((x.b.f 2).toNat : Int), .int .u8 ((x.b.f 3).toNat : Int), .int .u8 ((x.b.f 4).toNat : Int), .int .u8 ((x.b.f 5).toNat : Int), .int .u8 ((x.b.f 6).toNat : Int), .int .u8 ((x.b.f 7).toNat : Int)]) rfl (exact_load_mid (sub := [.int .u8 ((x.b.f 0).toNat : Int), .int .u8 ((x.b.f 1).toNat : Int), .int .u8 ((x.b.f 2).toNat : Int), .int .u8 ((x.b.f 3).toNat : Int), .int .u8 ((x.b.f 4).toNat : Int), .int .u8 ((x.b.f 5).toNat : Int), .int .u8 ((x.b.f 6).toNat : Int), .int .u8 ((x.b.f 7).toNat : Int)]) rfl rfl (by simp) RW.out rfl Try.underlying22 rfl (by kernel_rfl)) ?_
                (refine mix_step (by kernel_rfl) (by kernel_rfl) (fun K hK => ?_); go_simp; (try (simp only [↓IntWalk.iteOmega]; go_simp)); (first | (refine hK _ ?_; clear hK K) | (apply Exists.intro; refine ⟨fun _ => ?_, hK _ ?_⟩; (first | fail); clear hK K)))
                (refine mix_step (by kernel_rfl) (by kernel_rfl) (fun K hK => ?_); go_simp; (try (simp only [↓IntWalk.iteOmega]; go_simp)); (first | (refine hK _ ?_; clear hK K) | (apply Exists.intro; refine ⟨fun _ => ?_, hK _ ?_⟩; (first | fail); clear hK K)))
                refine mix_exact (.agg #[.int .u8 ((pw.b.f 0).toNat : Int), .int .u8 ((pw.b.f 1).toNat : Int), .int .u8 ((pw.b.f 2).toNat : Int), .int .u8 ((pw.b.f 3).toNat : Int), .int .u8 ((pw.b.f 4).toNat : Int), .int .u8 ((pw.b.f 5).toNat : Int), .int .u8 ((pw.b.f 6).toNat : Int), .int .u8 ((pw.b.f 7).toNat : Int)]) rfl (exact_load_mid (sub := [.int .u8 ((pw.b.f 0).toNat : Int), .int .u8 ((pw.b.f 1).toNat : Int), .int .u8 ((pw.b.f 2).toNat : Int), .int .u8 ((pw.b.f 3).toNat : Int), .int .u8 ((pw.b.f 4).toNat : Int), .int .u8 ((pw.b.f 5).toNat : Int), .int .u8 ((pw.b.f 6).toNat : Int), .int .u8 ((pw.b.f 7).toNat : Int)]) rfl rfl (by simp) HP.out rfl Try.underlying22 rfl (by kernel_rfl)) ?_
                (refine mix_step (by kernel_rfl) (by kernel_rfl) (fun K hK => ?_); go_simp; (try (simp only [↓IntWalk.iteOmega]; go_simp)); (first | (refine hK _ ?_; clear hK K) | (apply Exists.intro; refine ⟨fun _ => ?_, hK _ ?_⟩; (first | fail); clear hK K)))
                (refine mix_step (by kernel_rfl) (by kernel_rfl) (fun K hK => ?_); go_simp; (try (simp only [↓IntWalk.iteOmega]; go_simp)); (first | (refine hK _ ?_; clear hK K) | (apply Exists.intro; refine ⟨fun _ => ?_, hK _ ?_⟩; (first | fail); clear hK K)))
                (refine mix_step (by kernel_rfl) (by kernel_rfl) (fun K hK => ?_); go_simp; (try (simp only [↓IntWalk.iteOmega]; go_simp)); (first | (refine hK _ ?_; clear hK K) | (apply Exists.intro; refine ⟨fun _ => ?_, hK _ ?_⟩; (first | fail); clear hK K)))
                (refine mix_step (by kernel_rfl) (by kernel_rfl) (fun K hK => ?_); go_simp; (try (simp only [↓IntWalk.iteOmega]; go_simp)); (first | (refine hK _ ?_; clear hK K) | (apply Exists.intro; refine ⟨fun _ => ?_, hK _ ?_⟩; (first | fail); clear hK K)))
                (refine mix_step (by kernel_rfl) (by kernel_rfl) (fun K hK => ?_); go_simp; (try (simp only [↓IntWalk.iteOmega]; go_simp)); (first | (refine hK _ ?_; clear hK K) | (apply Exists.intro; refine ⟨fun _ => ?_, hK _ ?_⟩; (first | fail); clear hK K)))
                (refine mix_step (by kernel_rfl) (by kernel_rfl) (fun K hK => ?_); go_simp; (try (simp only [↓IntWalk.iteOmega]; go_simp)); (first | (refine hK _ ?_; clear hK K) | (apply Exists.intro; refine ⟨fun _ => ?_, hK _ ?_⟩; (first | fail); clear hK K)))
                (refine mix_step (by kernel_rfl) (by kernel_rfl) (fun K hK => ?_); go_simp; (try (simp only [↓IntWalk.iteOmega]; go_simp)); (first | (refine hK _ ?_; clear hK K) | (apply Exists.intro; refine ⟨fun _ => ?_, hK _ ?_⟩; (first | fail); clear hK K)))
                (refine mix_step (by kernel_rfl) (by kernel_rfl) (fun K hK => ?_); go_simp; (try (simp only [↓IntWalk.iteOmega]; go_simp)); (first | (refine hK _ ?_; clear hK K) | (apply Exists.intro; refine ⟨fun _ => ?_, hK _ ?_⟩; (first | fail); clear hK K)))
                (refine mix_step (by kernel_rfl) (by kernel_rfl) (fun K hK => ?_); go_simp; (try (simp only [↓IntWalk.iteOmega]; go_simp)); (first | (refine hK _ ?_; clear hK K) | (apply Exists.intro; refine ⟨fun _ => ?_, hK _ ?_⟩; (first | fail); clear hK K)))
                (refine mix_step (by kernel_rfl) (by kernel_rfl) (fun K hK => ?_); go_simp; (try (simp only [↓IntWalk.iteOmega]; go_simp)); (first | (refine hK _ ?_; clear hK K) | (apply Exists.intro; refine ⟨fun _ => ?_, hK _ ?_⟩; (first | fail); clear hK K)))
                refine mix_nil ?_
                rintro ⟨dq, osq⟩
                have hbq := below_regrown w3 dq osq
                refine (show wpList _ _ _ _ _ _ from ?_)
                simp only [List.drop, Act.put, List.setIfInBounds_toArray, List.set]
                go_wp2_with fail
                go_meet
                exact ⟨by rw [HV.out]; try first | rfl | (rw [bne, HPP.out]; rfl) | rw [bne, HPP.out], hbq⟩
              · refine wp_region_mix 27 (by kernel_rfl) (by kernel_rfl) (by kernel_rfl) ?_
                (refine mix_step (by kernel_rfl) (by kernel_rfl) (fun K hK => ?_); go_simp; (try (simp only [↓IntWalk.iteOmega]; go_simp)); (first | (refine hK _ ?_; clear hK K) | (apply Exists.intro; refine ⟨fun _ => ?_, hK _ ?_⟩; (first | fail); clear hK K)))
                (refine mix_step (by kernel_rfl) (by kernel_rfl) (fun K hK => ?_); go_simp; (try (simp only [↓IntWalk.iteOmega]; go_simp)); (first | (refine hK _ ?_; clear hK K) | (apply Exists.intro; refine ⟨fun _ => ?_, hK _ ?_⟩; (first | fail); clear hK K)))
                (refine mix_step (by kernel_rfl) (by kernel_rfl) (fun K hK => ?_); go_simp; (try (simp only [↓IntWalk.iteOmega]; go_simp)); (first | (refine hK _ ?_; clear hK K) | (apply Exists.intro; refine ⟨fun _ => ?_, hK _ ?_⟩; (first | fail); clear hK K)))
                refine mix_exact (.agg #[.int .u8 ((x.r.f 0).toNat : Int), .int .u8 ((x.r.f 1).toNat : Int), .int .u8 ((x.r.f 2).toNat : Int), .int .u8 ((x.r.f 3).toNat : Int), .int .u8 ((x.r.f 4).toNat : Int), .int .u8 ((x.r.f 5).toNat : Int), .int .u8 ((x.r.f 6).toNat : Int), .int .u8 ((x.r.f 7).toNat : Int), .int .u8 ((x.b.f 0).toNat : Int), .int .u8 ((x.b.f 1).toNat : Int), .int .u8 ((x.b.f 2).toNat : Int), .int .u8 ((x.b.f 3).toNat : Int), .int .u8 ((x.b.f 4).toNat : Int), .int .u8 ((x.b.f 5).toNat : Int), .int .u8 ((x.b.f 6).toNat : Int), .int .u8 ((x.b.f 7).toNat : Int), .int .i64 x.c, .int .i64 x.p, .int .i64 x.age, .int .i64 x.ma, .int .i64 x.he, .int .i64 x.de, .bool x.ch, .bool x.ak]) rfl (exact_load_row rfl rfl (by simp) RW.out Try.underlying63 rfl (by kernel_rfl)) ?_
                (refine mix_step (by kernel_rfl) (by kernel_rfl) (fun K hK => ?_); go_simp; (try (simp only [↓IntWalk.iteOmega]; go_simp)); (first | (refine hK _ ?_; clear hK K) | (apply Exists.intro; refine ⟨fun _ => ?_, hK _ ?_⟩; (first | exact C1.out _); clear hK K)))
                (refine mix_step (by kernel_rfl) (by kernel_rfl) (fun K hK => ?_); go_simp; (try (simp only [↓IntWalk.iteOmega]; go_simp)); (first | (refine hK _ ?_; clear hK K) | (apply Exists.intro; refine ⟨fun _ => ?_, hK _ ?_⟩; (first | fail); clear hK K)))
                refine mix_exact (.agg #[.int .u8 ((pw.r.f 0).toNat : Int), .int .u8 ((pw.r.f 1).toNat : Int), .int .u8 ((pw.r.f 2).toNat : Int), .int .u8 ((pw.r.f 3).toNat : Int), .int .u8 ((pw.r.f 4).toNat : Int), .int .u8 ((pw.r.f 5).toNat : Int), .int .u8 ((pw.r.f 6).toNat : Int), .int .u8 ((pw.r.f 7).toNat : Int), .int .u8 ((pw.b.f 0).toNat : Int), .int .u8 ((pw.b.f 1).toNat : Int), .int .u8 ((pw.b.f 2).toNat : Int), .int .u8 ((pw.b.f 3).toNat : Int), .int .u8 ((pw.b.f 4).toNat : Int), .int .u8 ((pw.b.f 5).toNat : Int), .int .u8 ((pw.b.f 6).toNat : Int), .int .u8 ((pw.b.f 7).toNat : Int), .int .i64 pw.c, .int .i64 pw.p, .int .i64 pw.age, .int .i64 pw.ma, .int .i64 pw.he, .int .i64 pw.de, .bool pw.ch, .bool pw.ak]) rfl (exact_load_mid (sub := [.int .u8 ((pw.r.f 0).toNat : Int), .int .u8 ((pw.r.f 1).toNat : Int), .int .u8 ((pw.r.f 2).toNat : Int), .int .u8 ((pw.r.f 3).toNat : Int), .int .u8 ((pw.r.f 4).toNat : Int), .int .u8 ((pw.r.f 5).toNat : Int), .int .u8 ((pw.r.f 6).toNat : Int), .int .u8 ((pw.r.f 7).toNat : Int), .int .u8 ((pw.b.f 0).toNat : Int), .int .u8 ((pw.b.f 1).toNat : Int), .int .u8 ((pw.b.f 2).toNat : Int), .int .u8 ((pw.b.f 3).toNat : Int), .int .u8 ((pw.b.f 4).toNat : Int), .int .u8 ((pw.b.f 5).toNat : Int), .int .u8 ((pw.b.f 6).toNat : Int), .int .u8 ((pw.b.f 7).toNat : Int), .int .i64 pw.c, .int .i64 pw.p, .int .i64 pw.age, .int .i64 pw.ma, .int .i64 pw.he, .int .i64 pw.de, .bool pw.ch, .bool pw.ak]) rfl rfl (by simp) HP.out rfl Try.underlying63 rfl (by kernel_rfl)) ?_
                (refine mix_step (by kernel_rfl) (by kernel_rfl) (fun K hK => ?_); go_simp; (try (simp only [↓IntWalk.iteOmega]; go_simp)); (first | (refine hK _ ?_; clear hK K) | (apply Exists.intro; refine ⟨fun _ => ?_, hK _ ?_⟩; (first | exact C2.out _); clear hK K)))
                (refine mix_step (by kernel_rfl) (by kernel_rfl) (fun K hK => ?_); go_simp; (try (simp only [↓IntWalk.iteOmega]; go_simp)); (first | (refine hK _ ?_; clear hK K) | (apply Exists.intro; refine ⟨fun _ => ?_, hK _ ?_⟩; (first | exact C3.out _); clear hK K)))
                (refine mix_step (by kernel_rfl) (by kernel_rfl) (fun K hK => ?_); go_simp; (try (simp only [↓IntWalk.iteOmega]; go_simp)); (first | (refine hK _ ?_; clear hK K) | (apply Exists.intro; refine ⟨fun _ => ?_, hK _ ?_⟩; (first | fail); clear hK K)))
                (refine mix_step (by kernel_rfl) (by kernel_rfl) (fun K hK => ?_); go_simp; (try (simp only [↓IntWalk.iteOmega]; go_simp)); (first | (refine hK _ ?_; clear hK K) | (apply Exists.intro; refine ⟨fun _ => ?_, hK _ ?_⟩; (first | fail); clear hK K)))
                (refine mix_step (by kernel_rfl) (by kernel_rfl) (fun K hK => ?_); go_simp; (try (simp only [↓IntWalk.iteOmega]; go_simp)); (first | (refine hK _ ?_; clear hK K) | (apply Exists.intro; refine ⟨fun _ => ?_, hK _ ?_⟩; (first | fail); clear hK K)))
                (refine mix_step (by kernel_rfl) (by kernel_rfl) (fun K hK => ?_); go_simp; (try (simp only [↓IntWalk.iteOmega]; go_simp)); (first | (refine hK _ ?_; clear hK K) | (apply Exists.intro; refine ⟨fun _ => ?_, hK _ ?_⟩; (first | fail); clear hK K)))
                refine mix_exact (.agg #[.int .u8 ((x.b.f 0).toNat : Int), .int .u8 ((x.b.f 1).toNat : Int), .int .u8 ((x.b.f 2).toNat : Int), .int .u8 ((x.b.f 3).toNat : Int), .int .u8 ((x.b.f 4).toNat : Int), .int .u8 ((x.b.f 5).toNat : Int), .int .u8 ((x.b.f 6).toNat : Int), .int .u8 ((x.b.f 7).toNat : Int)]) rfl (exact_load_mid (sub := [.int .u8 ((x.b.f 0).toNat : Int), .int .u8 ((x.b.f 1).toNat : Int), .int .u8 ((x.b.f 2).toNat : Int), .int .u8 ((x.b.f 3).toNat : Int), .int .u8 ((x.b.f 4).toNat : Int), .int .u8 ((x.b.f 5).toNat : Int), .int .u8 ((x.b.f 6).toNat : Int), .int .u8 ((x.b.f 7).toNat : Int)]) rfl rfl (by simp) RW.out rfl Try.underlying22 rfl (by kernel_rfl)) ?_
                (refine mix_step (by kernel_rfl) (by kernel_rfl) (fun K hK => ?_); go_simp; (try (simp only [↓IntWalk.iteOmega]; go_simp)); (first | (refine hK _ ?_; clear hK K) | (apply Exists.intro; refine ⟨fun _ => ?_, hK _ ?_⟩; (first | fail); clear hK K)))
                (refine mix_step (by kernel_rfl) (by kernel_rfl) (fun K hK => ?_); go_simp; (try (simp only [↓IntWalk.iteOmega]; go_simp)); (first | (refine hK _ ?_; clear hK K) | (apply Exists.intro; refine ⟨fun _ => ?_, hK _ ?_⟩; (first | fail); clear hK K)))
                refine mix_exact (.agg #[.int .u8 ((pw.b.f 0).toNat : Int), .int .u8 ((pw.b.f 1).toNat : Int), .int .u8 ((pw.b.f 2).toNat : Int), .int .u8 ((pw.b.f 3).toNat : Int), .int .u8 ((pw.b.f 4).toNat : Int), .int .u8 ((pw.b.f 5).toNat : Int), .int .u8 ((pw.b.f 6).toNat : Int), .int .u8 ((pw.b.f 7).toNat : Int)]) rfl (exact_load_mid (sub := [.int .u8 ((pw.b.f 0).toNat : Int), .int .u8 ((pw.b.f 1).toNat : Int), .int .u8 ((pw.b.f 2).toNat : Int), .int .u8 ((pw.b.f 3).toNat : Int), .int .u8 ((pw.b.f 4).toNat : Int), .int .u8 ((pw.b.f 5).toNat : Int), .int .u8 ((pw.b.f 6).toNat : Int), .int .u8 ((pw.b.f 7).toNat : Int)]) rfl rfl (by simp) HP.out rfl Try.underlying22 rfl (by kernel_rfl)) ?_
                (refine mix_step (by kernel_rfl) (by kernel_rfl) (fun K hK => ?_); go_simp; (try (simp only [↓IntWalk.iteOmega]; go_simp)); (first | (refine hK _ ?_; clear hK K) | (apply Exists.intro; refine ⟨fun _ => ?_, hK _ ?_⟩; (first | fail); clear hK K)))
                (refine mix_step (by kernel_rfl) (by kernel_rfl) (fun K hK => ?_); go_simp; (try (simp only [↓IntWalk.iteOmega]; go_simp)); (first | (refine hK _ ?_; clear hK K) | (apply Exists.intro; refine ⟨fun _ => ?_, hK _ ?_⟩; (first | fail); clear hK K)))
                (refine mix_step (by kernel_rfl) (by kernel_rfl) (fun K hK => ?_); go_simp; (try (simp only [↓IntWalk.iteOmega]; go_simp)); (first | (refine hK _ ?_; clear hK K) | (apply Exists.intro; refine ⟨fun _ => ?_, hK _ ?_⟩; (first | fail); clear hK K)))
                (refine mix_step (by kernel_rfl) (by kernel_rfl) (fun K hK => ?_); go_simp; (try (simp only [↓IntWalk.iteOmega]; go_simp)); (first | (refine hK _ ?_; clear hK K) | (apply Exists.intro; refine ⟨fun _ => ?_, hK _ ?_⟩; (first | fail); clear hK K)))
                (refine mix_step (by kernel_rfl) (by kernel_rfl) (fun K hK => ?_); go_simp; (try (simp only [↓IntWalk.iteOmega]; go_simp)); (first | (refine hK _ ?_; clear hK K) | (apply Exists.intro; refine ⟨fun _ => ?_, hK _ ?_⟩; (first | fail); clear hK K)))
                (refine mix_step (by kernel_rfl) (by kernel_rfl) (fun K hK => ?_); go_simp; (try (simp only [↓IntWalk.iteOmega]; go_simp)); (first | (refine hK _ ?_; clear hK K) | (apply Exists.intro; refine ⟨fun _ => ?_, hK _ ?_⟩; (first | fail); clear hK K)))
                (refine mix_step (by kernel_rfl) (by kernel_rfl) (fun K hK => ?_); go_simp; (try (simp only [↓IntWalk.iteOmega]; go_simp)); (first | (refine hK _ ?_; clear hK K) | (apply Exists.intro; refine ⟨fun _ => ?_, hK _ ?_⟩; (first | fail); clear hK K)))
                (refine mix_step (by kernel_rfl) (by kernel_rfl) (fun K hK => ?_); go_simp; (try (simp only [↓IntWalk.iteOmega]; go_simp)); (first | (refine hK _ ?_; clear hK K) | (apply Exists.intro; refine ⟨fun _ => ?_, hK _ ?_⟩; (first | fail); clear hK K)))
                (refine mix_step (by kernel_rfl) (by kernel_rfl) (fun K hK => ?_); go_simp; (try (simp only [↓IntWalk.iteOmega]; go_simp)); (first | (refine hK _ ?_; clear hK K) | (apply Exists.intro; refine ⟨fun _ => ?_, hK _ ?_⟩; (first | fail); clear hK K)))
                (refine mix_step (by kernel_rfl) (by kernel_rfl) (fun K hK => ?_); go_simp; (try (simp only [↓IntWalk.iteOmega]; go_simp)); (first | (refine hK _ ?_; clear hK K) | (apply Exists.intro; refine ⟨fun _ => ?_, hK _ ?_⟩; (first | fail); clear hK K)))
                refine mix_nil ?_
                rintro ⟨dq, osq⟩
                have hbq := below_regrown w3 dq osq
                refine (show wpList _ _ _ _ _ _ from ?_)
                simp only [List.drop, Act.put, List.setIfInBounds_toArray, List.set]
                go_wp2_with fail
                go_meet
                exact ⟨by rw [HV.out]; try first | rfl | (rw [bne, HPP.out]; rfl) | rw [bne, HPP.out], hbq⟩
          · have HV : Hid (SP.hears ⟨pc, up, true, pw, prole, pstate, psince⟩ x = true) := HH.out
            refine wp_region_mix 27 (by kernel_rfl) (by kernel_rfl) (by kernel_rfl) ?_
            (refine mix_step (by kernel_rfl) (by kernel_rfl) (fun K hK => ?_); go_simp; (try (simp only [↓IntWalk.iteOmega]; go_simp)); (first | (refine hK _ ?_; clear hK K) | (apply Exists.intro; refine ⟨fun _ => ?_, hK _ ?_⟩; (first | fail); clear hK K)))
            (refine mix_step (by kernel_rfl) (by kernel_rfl) (fun K hK => ?_); go_simp; (try (simp only [↓IntWalk.iteOmega]; go_simp)); (first | (refine hK _ ?_; clear hK K) | (apply Exists.intro; refine ⟨fun _ => ?_, hK _ ?_⟩; (first | fail); clear hK K)))
            (refine mix_step (by kernel_rfl) (by kernel_rfl) (fun K hK => ?_); go_simp; (try (simp only [↓IntWalk.iteOmega]; go_simp)); (first | (refine hK _ ?_; clear hK K) | (apply Exists.intro; refine ⟨fun _ => ?_, hK _ ?_⟩; (first | fail); clear hK K)))
            refine mix_exact (.agg #[.int .u8 ((x.r.f 0).toNat : Int), .int .u8 ((x.r.f 1).toNat : Int), .int .u8 ((x.r.f 2).toNat : Int), .int .u8 ((x.r.f 3).toNat : Int), .int .u8 ((x.r.f 4).toNat : Int), .int .u8 ((x.r.f 5).toNat : Int), .int .u8 ((x.r.f 6).toNat : Int), .int .u8 ((x.r.f 7).toNat : Int), .int .u8 ((x.b.f 0).toNat : Int), .int .u8 ((x.b.f 1).toNat : Int), .int .u8 ((x.b.f 2).toNat : Int), .int .u8 ((x.b.f 3).toNat : Int), .int .u8 ((x.b.f 4).toNat : Int), .int .u8 ((x.b.f 5).toNat : Int), .int .u8 ((x.b.f 6).toNat : Int), .int .u8 ((x.b.f 7).toNat : Int), .int .i64 x.c, .int .i64 x.p, .int .i64 x.age, .int .i64 x.ma, .int .i64 x.he, .int .i64 x.de, .bool x.ch, .bool x.ak]) rfl (exact_load_row rfl rfl (by simp) RW.out Try.underlying63 rfl (by kernel_rfl)) ?_
            (refine mix_step (by kernel_rfl) (by kernel_rfl) (fun K hK => ?_); go_simp; (try (simp only [↓IntWalk.iteOmega]; go_simp)); (first | (refine hK _ ?_; clear hK K) | (apply Exists.intro; refine ⟨fun _ => ?_, hK _ ?_⟩; (first | exact C1.out _); clear hK K)))
            (refine mix_step (by kernel_rfl) (by kernel_rfl) (fun K hK => ?_); go_simp; (try (simp only [↓IntWalk.iteOmega]; go_simp)); (first | (refine hK _ ?_; clear hK K) | (apply Exists.intro; refine ⟨fun _ => ?_, hK _ ?_⟩; (first | fail); clear hK K)))
            refine mix_exact (.agg #[.int .u8 ((pw.r.f 0).toNat : Int), .int .u8 ((pw.r.f 1).toNat : Int), .int .u8 ((pw.r.f 2).toNat : Int), .int .u8 ((pw.r.f 3).toNat : Int), .int .u8 ((pw.r.f 4).toNat : Int), .int .u8 ((pw.r.f 5).toNat : Int), .int .u8 ((pw.r.f 6).toNat : Int), .int .u8 ((pw.r.f 7).toNat : Int), .int .u8 ((pw.b.f 0).toNat : Int), .int .u8 ((pw.b.f 1).toNat : Int), .int .u8 ((pw.b.f 2).toNat : Int), .int .u8 ((pw.b.f 3).toNat : Int), .int .u8 ((pw.b.f 4).toNat : Int), .int .u8 ((pw.b.f 5).toNat : Int), .int .u8 ((pw.b.f 6).toNat : Int), .int .u8 ((pw.b.f 7).toNat : Int), .int .i64 pw.c, .int .i64 pw.p, .int .i64 pw.age, .int .i64 pw.ma, .int .i64 pw.he, .int .i64 pw.de, .bool pw.ch, .bool pw.ak]) rfl (exact_load_mid (sub := [.int .u8 ((pw.r.f 0).toNat : Int), .int .u8 ((pw.r.f 1).toNat : Int), .int .u8 ((pw.r.f 2).toNat : Int), .int .u8 ((pw.r.f 3).toNat : Int), .int .u8 ((pw.r.f 4).toNat : Int), .int .u8 ((pw.r.f 5).toNat : Int), .int .u8 ((pw.r.f 6).toNat : Int), .int .u8 ((pw.r.f 7).toNat : Int), .int .u8 ((pw.b.f 0).toNat : Int), .int .u8 ((pw.b.f 1).toNat : Int), .int .u8 ((pw.b.f 2).toNat : Int), .int .u8 ((pw.b.f 3).toNat : Int), .int .u8 ((pw.b.f 4).toNat : Int), .int .u8 ((pw.b.f 5).toNat : Int), .int .u8 ((pw.b.f 6).toNat : Int), .int .u8 ((pw.b.f 7).toNat : Int), .int .i64 pw.c, .int .i64 pw.p, .int .i64 pw.age, .int .i64 pw.ma, .int .i64 pw.he, .int .i64 pw.de, .bool pw.ch, .bool pw.ak]) rfl rfl (by simp) HP.out rfl Try.underlying63 rfl (by kernel_rfl)) ?_
            (refine mix_step (by kernel_rfl) (by kernel_rfl) (fun K hK => ?_); go_simp; (try (simp only [↓IntWalk.iteOmega]; go_simp)); (first | (refine hK _ ?_; clear hK K) | (apply Exists.intro; refine ⟨fun _ => ?_, hK _ ?_⟩; (first | exact C2.out _); clear hK K)))
            (refine mix_step (by kernel_rfl) (by kernel_rfl) (fun K hK => ?_); go_simp; (try (simp only [↓IntWalk.iteOmega]; go_simp)); (first | (refine hK _ ?_; clear hK K) | (apply Exists.intro; refine ⟨fun _ => ?_, hK _ ?_⟩; (first | exact C3.out _); clear hK K)))
            (refine mix_step (by kernel_rfl) (by kernel_rfl) (fun K hK => ?_); go_simp; (try (simp only [↓IntWalk.iteOmega]; go_simp)); (first | (refine hK _ ?_; clear hK K) | (apply Exists.intro; refine ⟨fun _ => ?_, hK _ ?_⟩; (first | fail); clear hK K)))
            (refine mix_step (by kernel_rfl) (by kernel_rfl) (fun K hK => ?_); go_simp; (try (simp only [↓IntWalk.iteOmega]; go_simp)); (first | (refine hK _ ?_; clear hK K) | (apply Exists.intro; refine ⟨fun _ => ?_, hK _ ?_⟩; (first | fail); clear hK K)))
            (refine mix_step (by kernel_rfl) (by kernel_rfl) (fun K hK => ?_); go_simp; (try (simp only [↓IntWalk.iteOmega]; go_simp)); (first | (refine hK _ ?_; clear hK K) | (apply Exists.intro; refine ⟨fun _ => ?_, hK _ ?_⟩; (first | fail); clear hK K)))
            (refine mix_step (by kernel_rfl) (by kernel_rfl) (fun K hK => ?_); go_simp; (try (simp only [↓IntWalk.iteOmega]; go_simp)); (first | (refine hK _ ?_; clear hK K) | (apply Exists.intro; refine ⟨fun _ => ?_, hK _ ?_⟩; (first | fail); clear hK K)))
            (refine mix_step (by kernel_rfl) (by kernel_rfl) (fun K hK => ?_); go_simp; (try (simp only [↓IntWalk.iteOmega]; go_simp)); (first | (refine hK _ ?_; clear hK K) | (apply Exists.intro; refine ⟨fun _ => ?_, hK _ ?_⟩; (first | fail); clear hK K)))
            (refine mix_step (by kernel_rfl) (by kernel_rfl) (fun K hK => ?_); go_simp; (try (simp only [↓IntWalk.iteOmega]; go_simp)); (first | (refine hK _ ?_; clear hK K) | (apply Exists.intro; refine ⟨fun _ => ?_, hK _ ?_⟩; (first | fail); clear hK K)))
            (refine mix_step (by kernel_rfl) (by kernel_rfl) (fun K hK => ?_); go_simp; (try (simp only [↓IntWalk.iteOmega]; go_simp)); (first | (refine hK _ ?_; clear hK K) | (apply Exists.intro; refine ⟨fun _ => ?_, hK _ ?_⟩; (first | fail); clear hK K)))
            (refine mix_step (by kernel_rfl) (by kernel_rfl) (fun K hK => ?_); go_simp; (try (simp only [↓IntWalk.iteOmega]; go_simp)); (first | (refine hK _ ?_; clear hK K) | (apply Exists.intro; refine ⟨fun _ => ?_, hK _ ?_⟩; (first | fail); clear hK K)))
            (refine mix_step (by kernel_rfl) (by kernel_rfl) (fun K hK => ?_); go_simp; (try (simp only [↓IntWalk.iteOmega]; go_simp)); (first | (refine hK _ ?_; clear hK K) | (apply Exists.intro; refine ⟨fun _ => ?_, hK _ ?_⟩; (first | fail); clear hK K)))
            (refine mix_step (by kernel_rfl) (by kernel_rfl) (fun K hK => ?_); go_simp; (try (simp only [↓IntWalk.iteOmega]; go_simp)); (first | (refine hK _ ?_; clear hK K) | (apply Exists.intro; refine ⟨fun _ => ?_, hK _ ?_⟩; (first | fail); clear hK K)))
            (refine mix_step (by kernel_rfl) (by kernel_rfl) (fun K hK => ?_); go_simp; (try (simp only [↓IntWalk.iteOmega]; go_simp)); (first | (refine hK _ ?_; clear hK K) | (apply Exists.intro; refine ⟨fun _ => ?_, hK _ ?_⟩; (first | fail); clear hK K)))
            (refine mix_step (by kernel_rfl) (by kernel_rfl) (fun K hK => ?_); go_simp; (try (simp only [↓IntWalk.iteOmega]; go_simp)); (first | (refine hK _ ?_; clear hK K) | (apply Exists.intro; refine ⟨fun _ => ?_, hK _ ?_⟩; (first | fail); clear hK K)))
            (refine mix_step (by kernel_rfl) (by kernel_rfl) (fun K hK => ?_); go_simp; (try (simp only [↓IntWalk.iteOmega]; go_simp)); (first | (refine hK _ ?_; clear hK K) | (apply Exists.intro; refine ⟨fun _ => ?_, hK _ ?_⟩; (first | fail); clear hK K)))
            (refine mix_step (by kernel_rfl) (by kernel_rfl) (fun K hK => ?_); go_simp; (try (simp only [↓IntWalk.iteOmega]; go_simp)); (first | (refine hK _ ?_; clear hK K) | (apply Exists.intro; refine ⟨fun _ => ?_, hK _ ?_⟩; (first | fail); clear hK K)))
            (refine mix_step (by kernel_rfl) (by kernel_rfl) (fun K hK => ?_); go_simp; (try (simp only [↓IntWalk.iteOmega]; go_simp)); (first | (refine hK _ ?_; clear hK K) | (apply Exists.intro; refine ⟨fun _ => ?_, hK _ ?_⟩; (first | fail); clear hK K)))
            (refine mix_step (by kernel_rfl) (by kernel_rfl) (fun K hK => ?_); go_simp; (try (simp only [↓IntWalk.iteOmega]; go_simp)); (first | (refine hK _ ?_; clear hK K) | (apply Exists.intro; refine ⟨fun _ => ?_, hK _ ?_⟩; (first | fail); clear hK K)))
            (refine mix_step (by kernel_rfl) (by kernel_rfl) (fun K hK => ?_); go_simp; (try (simp only [↓IntWalk.iteOmega]; go_simp)); (first | (refine hK _ ?_; clear hK K) | (apply Exists.intro; refine ⟨fun _ => ?_, hK _ ?_⟩; (first | fail); clear hK K)))
            (refine mix_step (by kernel_rfl) (by kernel_rfl) (fun K hK => ?_); go_simp; (try (simp only [↓IntWalk.iteOmega]; go_simp)); (first | (refine hK _ ?_; clear hK K) | (apply Exists.intro; refine ⟨fun _ => ?_, hK _ ?_⟩; (first | fail); clear hK K)))
            refine mix_nil ?_
            rintro ⟨dq, osq⟩
            have hbq := below_regrown w3 dq osq
            refine (show wpList _ _ _ _ _ _ from ?_)
            simp only [List.drop, Act.put, List.setIfInBounds_toArray, List.set]
            go_wp2_with fail
            go_meet
            exact ⟨by rw [HV.out]; try first | rfl | (rw [bne, HPP.out]; rfl) | rw [bne, HPP.out], hbq⟩
      case rest =>
       obtain ⟨rfl, hb4⟩ := hcut
       generalize wc = w4 at *
       have R1 := Lib.hid (R1.out.kept hb4)
       have RW := Lib.hid (RW.out.kept hb4)
       have R2 := Lib.hid (R2.out.kept hb4)
       have hbW4 := hbW3.trans (hb4.mono hbW3.size)
       have hWs : w.heap.size + 2 < w4.heap.size := R2.out.lt
       clear hb4 p5 k17 k23 HP HH hbW3
       cases hhe : SP.hears ⟨pc, up, heard, pw, prole, pstate, psince⟩ x
       · have HT1 : Hid (s.take (k : Int) x = (s, s.tells (fun j => decide ((j : Int) = (k : Int))))) := by
           show _ = _
           rw [SS.take_yes HNR.out, Int.toNat_natCast, HPT.out, if_neg (by rw [hhe]; decide)]
         clear hhe
         have hbW3 := hbW4
         have HT : Hid (∀ w', Below w4.heap.size w4 w' → Calls Try.prog 40 #[.agg #[.int .u8 ((s.id.f 0).toNat : Int), .int .u8 ((s.id.f 1).toNat : Int), .int .u8 ((s.id.f 2).toNat : Int), .int .u8 ((s.id.f 3).toNat : Int), .int .u8 ((s.id.f 4).toNat : Int), .int .u8 ((s.id.f 5).toNat : Int), .int .u8 ((s.id.f 6).toNat : Int), .int .u8 ((s.id.f 7).toNat : Int), .int .i64 s.ma, .int .i64 s.he, .int .i64 s.de, .int .i64 s.now, .int .i64 s.chg, (.slice (some ⟨g, 0, none⟩) s.ports.length cap), .int .u8 ((s.best.r.f 0).toNat : Int), .int .u8 ((s.best.r.f 1).toNat : Int), .int .u8 ((s.best.r.f 2).toNat : Int), .int .u8 ((s.best.r.f 3).toNat : Int), .int .u8 ((s.best.r.f 4).toNat : Int), .int .u8 ((s.best.r.f 5).toNat : Int), .int .u8 ((s.best.r.f 6).toNat : Int), .int .u8 ((s.best.r.f 7).toNat : Int), .int .i64 s.best.c, .int .u8 ((s.best.b.f 0).toNat : Int), .int .u8 ((s.best.b.f 1).toNat : Int), .int .u8 ((s.best.b.f 2).toNat : Int), .int .u8 ((s.best.b.f 3).toNat : Int), .int .u8 ((s.best.b.f 4).toNat : Int), .int .u8 ((s.best.b.f 5).toNat : Int), .int .u8 ((s.best.b.f 6).toNat : Int), .int .u8 ((s.best.b.f 7).toNat : Int), .int .i64 s.best.p, .int .i64 s.root], .int .i64 (k : Int)] w' fun e w'' => ∃ v, e = .returned v ∧ ROutAt w'' w'.heap.size v (s.tells (fun j => decide ((j : Int) = (k : Int)))) ∧ Below w'.heap.size w' w'') := fun w' hb => by
           have h0 := refTells_n B g cap s (k : Int) w' rfl ((HR.out.later hbW3).later hb) hl HOK.out.root HOK.out.ages HOK.out.ma.1
           rw [SS.tells_only] at h0
           exact h0
         go_upto_region 5 with fail
         refine wp_region_mix 4 (by kernel_rfl) (by kernel_rfl) (by kernel_rfl) ?_
         refine mix_exact (.agg #[.int .u8 ((s.id.f 0).toNat : Int), .int .u8 ((s.id.f 1).toNat : Int), .int .u8 ((s.id.f 2).toNat : Int), .int .u8 ((s.id.f 3).toNat : Int), .int .u8 ((s.id.f 4).toNat : Int), .int .u8 ((s.id.f 5).toNat : Int), .int .u8 ((s.id.f 6).toNat : Int), .int .u8 ((s.id.f 7).toNat : Int), .int .i64 s.ma, .int .i64 s.he, .int .i64 s.de, .int .i64 s.now, .int .i64 s.chg, (.slice (some ⟨g, 0, none⟩) s.ports.length cap), .int .u8 ((s.best.r.f 0).toNat : Int), .int .u8 ((s.best.r.f 1).toNat : Int), .int .u8 ((s.best.r.f 2).toNat : Int), .int .u8 ((s.best.r.f 3).toNat : Int), .int .u8 ((s.best.r.f 4).toNat : Int), .int .u8 ((s.best.r.f 5).toNat : Int), .int .u8 ((s.best.r.f 6).toNat : Int), .int .u8 ((s.best.r.f 7).toNat : Int), .int .i64 s.best.c, .int .u8 ((s.best.b.f 0).toNat : Int), .int .u8 ((s.best.b.f 1).toNat : Int), .int .u8 ((s.best.b.f 2).toNat : Int), .int .u8 ((s.best.b.f 3).toNat : Int), .int .u8 ((s.best.b.f 4).toNat : Int), .int .u8 ((s.best.b.f 5).toNat : Int), .int .u8 ((s.best.b.f 6).toNat : Int), .int .u8 ((s.best.b.f 7).toNat : Int), .int .i64 s.best.p, .int .i64 s.root]) rfl (exact_load_row rfl rfl (by simp) R1.out Try.underlying59 rfl (by kernel_rfl)) ?_
         refine mix_exact (.agg #[.int .u8 ((s.id.f 0).toNat : Int), .int .u8 ((s.id.f 1).toNat : Int), .int .u8 ((s.id.f 2).toNat : Int), .int .u8 ((s.id.f 3).toNat : Int), .int .u8 ((s.id.f 4).toNat : Int), .int .u8 ((s.id.f 5).toNat : Int), .int .u8 ((s.id.f 6).toNat : Int), .int .u8 ((s.id.f 7).toNat : Int), .int .i64 s.ma, .int .i64 s.he, .int .i64 s.de, .int .i64 s.now, .int .i64 s.chg, (.slice (some ⟨g, 0, none⟩) s.ports.length cap), .int .u8 ((s.best.r.f 0).toNat : Int), .int .u8 ((s.best.r.f 1).toNat : Int), .int .u8 ((s.best.r.f 2).toNat : Int), .int .u8 ((s.best.r.f 3).toNat : Int), .int .u8 ((s.best.r.f 4).toNat : Int), .int .u8 ((s.best.r.f 5).toNat : Int), .int .u8 ((s.best.r.f 6).toNat : Int), .int .u8 ((s.best.r.f 7).toNat : Int), .int .i64 s.best.c, .int .u8 ((s.best.b.f 0).toNat : Int), .int .u8 ((s.best.b.f 1).toNat : Int), .int .u8 ((s.best.b.f 2).toNat : Int), .int .u8 ((s.best.b.f 3).toNat : Int), .int .u8 ((s.best.b.f 4).toNat : Int), .int .u8 ((s.best.b.f 5).toNat : Int), .int .u8 ((s.best.b.f 6).toNat : Int), .int .u8 ((s.best.b.f 7).toNat : Int), .int .i64 s.best.p, .int .i64 s.root]) rfl (exact_load_row rfl rfl (by simp) R1.out Try.underlying59 rfl (by kernel_rfl)) ?_
         (refine mix_step (by kernel_rfl) (by kernel_rfl) (fun K hK => ?_); go_simp; (try (simp only [↓IntWalk.iteOmega]; go_simp)); (first | (refine hK _ ?_; clear hK K) | (apply Exists.intro; refine ⟨fun _ => ?_, hK _ ?_⟩; (first | fail); clear hK K)))
         refine mix_special (TellAt w4.heap.size (s.tells (fun j => decide ((j : Int) = (k : Int))))) 95 rfl rfl (stable_tell _ _) (owes_callO (xs := [.tmp 93, .tmp 94]) (vs := [.agg #[.int .u8 ((s.id.f 0).toNat : Int), .int .u8 ((s.id.f 1).toNat : Int), .int .u8 ((s.id.f 2).toNat : Int), .int .u8 ((s.id.f 3).toNat : Int), .int .u8 ((s.id.f 4).toNat : Int), .int .u8 ((s.id.f 5).toNat : Int), .int .u8 ((s.id.f 6).toNat : Int), .int .u8 ((s.id.f 7).toNat : Int), .int .i64 s.ma, .int .i64 s.he, .int .i64 s.de, .int .i64 s.now, .int .i64 s.chg, (.slice (some ⟨g, 0, none⟩) s.ports.length cap), .int .u8 ((s.best.r.f 0).toNat : Int), .int .u8 ((s.best.r.f 1).toNat : Int), .int .u8 ((s.best.r.f 2).toNat : Int), .int .u8 ((s.best.r.f 3).toNat : Int), .int .u8 ((s.best.r.f 4).toNat : Int), .int .u8 ((s.best.r.f 5).toNat : Int), .int .u8 ((s.best.r.f 6).toNat : Int), .int .u8 ((s.best.r.f 7).toNat : Int), .int .i64 s.best.c, .int .u8 ((s.best.b.f 0).toNat : Int), .int .u8 ((s.best.b.f 1).toNat : Int), .int .u8 ((s.best.b.f 2).toNat : Int), .int .u8 ((s.best.b.f 3).toNat : Int), .int .u8 ((s.best.b.f 4).toNat : Int), .int .u8 ((s.best.b.f 5).toNat : Int), .int .u8 ((s.best.b.f 6).toNat : Int), .int .u8 ((s.best.b.f 7).toNat : Int), .int .i64 s.best.p, .int .i64 s.root], .int .i64 (k : Int)]) rfl (by simp) rfl Try.func40 (by kernel_rfl) (by kernel_rfl) ?hc) ?_
         case hc => exact fun w' hb => (HT.out w' hb).mono (by
           rintro e w'' ⟨u, rfl, ho, hbb⟩
           exact ⟨u, rfl, hbb, ROutAt.lower ho hb.size⟩)
         refine mix_nil ?_
         rintro ⟨dr, osr⟩
         have hb8 := below_regrown w4 dr osr
         intro u1 f1
         have F1 : Hid (ROutAt _ w4.heap.size u1 (s.tells (fun j => decide ((j : Int) = (k : Int))))) := f1
         have R1 := Lib.hid (R1.out.kept hb8)
         have R2 := Lib.hid (R2.out.kept hb8)
         have hbz := hbW3.trans (hb8.mono hbW3.size)
         clear f1
         generalize grow (redrawn w4 dr) osr = wz at *
         refine (show wpList _ _ _ _ _ _ from ?_)
         simp only [List.drop, Act.put, List.setIfInBounds_toArray, List.set]
         go_wp2_with ((with_reducible refine at_store 59 (.tmp 6) (.tmp 92) ?_); refine wpList_store_own rfl 59 (.tmp 6) (.tmp 92) rfl (w.heap.size + 2) _ rfl rfl _ _ R2.out (by kernel_rfl) rfl (by simp [Value.oneCell']) (w.heap.size) (by omega) ?_)
         intro we hRe hoe hse hbe
         have HRE : Hid (RowIs we (w.heap.size + 2) 59 #[.int .u8 ((s.id.f 0).toNat : Int), .int .u8 ((s.id.f 1).toNat : Int), .int .u8 ((s.id.f 2).toNat : Int), .int .u8 ((s.id.f 3).toNat : Int), .int .u8 ((s.id.f 4).toNat : Int), .int .u8 ((s.id.f 5).toNat : Int), .int .u8 ((s.id.f 6).toNat : Int), .int .u8 ((s.id.f 7).toNat : Int), .int .i64 s.ma, .int .i64 s.he, .int .i64 s.de, .int .i64 s.now, .int .i64 s.chg, (.slice (some ⟨g, 0, none⟩) s.ports.length cap), .int .u8 ((s.best.r.f 0).toNat : Int), .int .u8 ((s.best.r.f 1).toNat : Int), .int .u8 ((s.best.r.f 2).toNat : Int), .int .u8 ((s.best.r.f 3).toNat : Int), .int .u8 ((s.best.r.f 4).toNat : Int), .int .u8 ((s.best.r.f 5).toNat : Int), .int .u8 ((s.best.r.f 6).toNat : Int), .int .u8 ((s.best.r.f 7).toNat : Int), .int .i64 s.best.c, .int .u8 ((s.best.b.f 0).toNat : Int), .int .u8 ((s.best.b.f 1).toNat : Int), .int .u8 ((s.best.b.f 2).toNat : Int), .int .u8 ((s.best.b.f 3).toNat : Int), .int .u8 ((s.best.b.f 4).toNat : Int), .int .u8 ((s.best.b.f 5).toNat : Int), .int .u8 ((s.best.b.f 6).toNat : Int), .int .u8 ((s.best.b.f 7).toNat : Int), .int .i64 s.best.p, .int .i64 s.root]) := hRe
         have hRA : RAt B g cap we s.ports := (HR.out.later hbz).same (hoe _ (by have := HR.out.lt; omega))
         have hbf := hbz.trans hbe
         have hOF := ROutAt.lower (ROutAt.same F1.out (fun m hm => hoe m (by omega))) hbW3.size
         clear hRe hoe hse hbe
         go_wp2_with fail
         refine bodyPost_ret (results_row_tmp1 Try.results21 _ _ (w.heap.size + 2) _ _ _ rfl HRE.out Try.underlying59 rfl (by kernel_rfl)) rfl ?_
         refine ⟨g, cap, u1, ?_, ?_, ?_, hbf⟩
         · (rw [HT1.out]; try rfl)
         · rw [HT1.out]; exact hRA
         · rw [HT1.out]; exact hOF
       · have HHE := Lib.hid hhe
         clear hhe
         have HC := Lib.hid (refCopied_any B g cap s w4 (HR.out.later hbW4) hl)
         go_wp2_with ((with_reducible refine at_load 59 (.tmp 3) ?_); refine wpList_load_midW rfl 59 (.tmp 3) rfl (w.heap.size) (0) rfl [.int .u8 ((s.id.f 0).toNat : Int), .int .u8 ((s.id.f 1).toNat : Int), .int .u8 ((s.id.f 2).toNat : Int), .int .u8 ((s.id.f 3).toNat : Int), .int .u8 ((s.id.f 4).toNat : Int), .int .u8 ((s.id.f 5).toNat : Int), .int .u8 ((s.id.f 6).toNat : Int), .int .u8 ((s.id.f 7).toNat : Int), .int .i64 s.ma, .int .i64 s.he, .int .i64 s.de, .int .i64 s.now, .int .i64 s.chg, (.slice (some ⟨g, 0, none⟩) s.ports.length cap), .int .u8 ((s.best.r.f 0).toNat : Int), .int .u8 ((s.best.r.f 1).toNat : Int), .int .u8 ((s.best.r.f 2).toNat : Int), .int .u8 ((s.best.r.f 3).toNat : Int), .int .u8 ((s.best.r.f 4).toNat : Int), .int .u8 ((s.best.r.f 5).toNat : Int), .int .u8 ((s.best.r.f 6).toNat : Int), .int .u8 ((s.best.r.f 7).toNat : Int), .int .i64 s.best.c, .int .u8 ((s.best.b.f 0).toNat : Int), .int .u8 ((s.best.b.f 1).toNat : Int), .int .u8 ((s.best.b.f 2).toNat : Int), .int .u8 ((s.best.b.f 3).toNat : Int), .int .u8 ((s.best.b.f 4).toNat : Int), .int .u8 ((s.best.b.f 5).toNat : Int), .int .u8 ((s.best.b.f 6).toNat : Int), .int .u8 ((s.best.b.f 7).toNat : Int), .int .i64 s.best.p, .int .i64 s.root] _ (range_of_row R1.out rfl) Try.underlying59 rfl (by kernel_rfl) ?_)
         refine HC.out.mono ?_
         rintro e w5 ⟨g1, cap1, rfl, hR1, hb1⟩
         have R1 := Lib.hid (R1.out.kept hb1)
         have R2 := Lib.hid (R2.out.kept hb1)
         have RW := Lib.hid (RW.out.kept hb1)
         have hg1 : w4.heap.size ≤ g1 := hR1.hB
         clear HC
         go_wp2_with ((with_reducible refine at_store 59 (.tmp 3) (.tmp 97) ?_); refine wpList_store_own rfl 59 (.tmp 3) (.tmp 97) rfl (w.heap.size) _ rfl rfl _ _ R1.out (by kernel_rfl) rfl (by simp [Value.oneCell']) (w.heap.size) (Nat.le_refl _) ?_)
         intro w6 hR2 ho2 hs2 hb2
         have HA : Hid (BAt g1 cap1 s.ports.length w.heap.size (w.heap.size + 2) w w6 s) := ⟨hR2, rowIs_same R2.out (ho2 _ (by omega)), (hR1.same (ho2 _ (by omega))).lower hbW4.size, rfl, by omega, by omega, by omega, Nat.le_refl _, by omega, (hbW4.trans (hb1.mono hbW4.size)).trans hb2⟩
         have RW : Hid (RowIs w6 (w.heap.size + 1) 63 #[.int .u8 ((x.r.f 0).toNat : Int), .int .u8 ((x.r.f 1).toNat : Int), .int .u8 ((x.r.f 2).toNat : Int), .int .u8 ((x.r.f 3).toNat : Int), .int .u8 ((x.r.f 4).toNat : Int), .int .u8 ((x.r.f 5).toNat : Int), .int .u8 ((x.r.f 6).toNat : Int), .int .u8 ((x.r.f 7).toNat : Int), .int .u8 ((x.b.f 0).toNat : Int), .int .u8 ((x.b.f 1).toNat : Int), .int .u8 ((x.b.f 2).toNat : Int), .int .u8 ((x.b.f 3).toNat : Int), .int .u8 ((x.b.f 4).toNat : Int), .int .u8 ((x.b.f 5).toNat : Int), .int .u8 ((x.b.f 6).toNat : Int), .int .u8 ((x.b.f 7).toNat : Int), .int .i64 x.c, .int .i64 x.p, .int .i64 x.age, .int .i64 x.ma, .int .i64 x.he, .int .i64 x.de, .bool x.ch, .bool x.ak]) := rowIs_same RW.out (ho2 _ (by omega))
         have hgx : g1 ≠ w.heap.size + 1 := by omega
         clear hR2 ho2 hs2 hb2 R1 R2 hR1 hb1 hg1 hbW4 HR
         go_wp2_with (first
           | ((with_reducible refine at_load 57 (.tmp 98) ?_); refine wpList_load_midW rfl 57 (.tmp 98) rfl (w.heap.size) (14) rfl [.int .u8 ((s.best.r.f 0).toNat : Int), .int .u8 ((s.best.r.f 1).toNat : Int), .int .u8 ((s.best.r.f 2).toNat : Int), .int .u8 ((s.best.r.f 3).toNat : Int), .int .u8 ((s.best.r.f 4).toNat : Int), .int .u8 ((s.best.r.f 5).toNat : Int), .int .u8 ((s.best.r.f 6).toNat : Int), .int .u8 ((s.best.r.f 7).toNat : Int), .int .i64 s.best.c, .int .u8 ((s.best.b.f 0).toNat : Int), .int .u8 ((s.best.b.f 1).toNat : Int), .int .u8 ((s.best.b.f 2).toNat : Int), .int .u8 ((s.best.b.f 3).toNat : Int), .int .u8 ((s.best.b.f 4).toNat : Int), .int .u8 ((s.best.b.f 5).toNat : Int), .int .u8 ((s.best.b.f 6).toNat : Int), .int .u8 ((s.best.b.f 7).toNat : Int), .int .i64 s.best.p] _ (range_of_row HA.out.box rfl) Try.underlying57 rfl (by kernel_rfl) ?_)
           | ((with_reducible refine at_store 57 (.tmp 9) (.tmp 99) ?_); refine wpList_store_own rfl 57 (.tmp 9) (.tmp 99) rfl (w6.heap.size) _ rfl rfl _ _ (rowIs_new w6 _ _) (by kernel_rfl) rfl (by simp [Value.oneCell']) (w6.heap.size) (Nat.le_refl _) ?_))
         intro w7 hR7 ho7 hs7 hb7
         have hbw : Below w6.heap.size w6 w7 := ((Below.refl _ _).alloc (Nat.le_refl _) _).trans hb7
         have HB : Hid (RowIs w7 w6.heap.size 57 #[.int .u8 ((s.best.r.f 0).toNat : Int), .int .u8 ((s.best.r.f 1).toNat : Int), .int .u8 ((s.best.r.f 2).toNat : Int), .int .u8 ((s.best.r.f 3).toNat : Int), .int .u8 ((s.best.r.f 4).toNat : Int), .int .u8 ((s.best.r.f 5).toNat : Int), .int .u8 ((s.best.r.f 6).toNat : Int), .int .u8 ((s.best.r.f 7).toNat : Int), .int .i64 s.best.c, .int .u8 ((s.best.b.f 0).toNat : Int), .int .u8 ((s.best.b.f 1).toNat : Int), .int .u8 ((s.best.b.f 2).toNat : Int), .int .u8 ((s.best.b.f 3).toNat : Int), .int .u8 ((s.best.b.f 4).toNat : Int), .int .u8 ((s.best.b.f 5).toNat : Int), .int .u8 ((s.best.b.f 6).toNat : Int), .int .u8 ((s.best.b.f 7).toNat : Int), .int .i64 s.best.p]) := hR7
         have hb9g : w6.heap.size ≠ g1 := Nat.ne_of_gt HA.out.ports.lt
         have hb9b : w6.heap.size ≠ w.heap.size := Nat.ne_of_gt HA.out.box.lt
         have HA := Lib.hid (HA.out.later hbw)
         have RW := Lib.hid (RW.out.kept hbw)
         clear hR7 ho7 hs7 hb7 hbw
         generalize w6.heap.size = b9 at *
         have c13 : w7.cell? ⟨w.heap.size, 13, none⟩ = some (.slice (some ⟨g1, 0, none⟩) s.ports.length cap1) := HA.out.box.cell 13
         go_wp2_with ((with_reducible refine at_store 4 (.tmp 104) (.const (.bool true)) ?_); refine wpList_store_rp1 rfl 4 (.tmp 104) (.const (.bool true)) rfl g1 (k * 30 + 5) k 5 (.bool true) rfl rfl HA.out.ports hltk rfl (show 5 + 1 ≤ 30 from by decide) (by kernel_rfl) rfl (⟨pc, up, true, pw, prole, pstate, psince⟩ : SP) (by rw [HPK.out]; rfl) w.heap.size HA.out.ports.hB ?_)
         intro w8 hRx hox hsx hbx
         have RW : Hid (RowIs w8 (w.heap.size + 1) 63 #[.int .u8 ((x.r.f 0).toNat : Int), .int .u8 ((x.r.f 1).toNat : Int), .int .u8 ((x.r.f 2).toNat : Int), .int .u8 ((x.r.f 3).toNat : Int), .int .u8 ((x.r.f 4).toNat : Int), .int .u8 ((x.r.f 5).toNat : Int), .int .u8 ((x.r.f 6).toNat : Int), .int .u8 ((x.r.f 7).toNat : Int), .int .u8 ((x.b.f 0).toNat : Int), .int .u8 ((x.b.f 1).toNat : Int), .int .u8 ((x.b.f 2).toNat : Int), .int .u8 ((x.b.f 3).toNat : Int), .int .u8 ((x.b.f 4).toNat : Int), .int .u8 ((x.b.f 5).toNat : Int), .int .u8 ((x.b.f 6).toNat : Int), .int .u8 ((x.b.f 7).toNat : Int), .int .i64 x.c, .int .i64 x.p, .int .i64 x.age, .int .i64 x.ma, .int .i64 x.he, .int .i64 x.de, .bool x.ch, .bool x.ak]) := rowIs_same RW.out (hox _ hgx.symm)
         have HB : Hid (RowIs w8 b9 57 #[.int .u8 ((s.best.r.f 0).toNat : Int), .int .u8 ((s.best.r.f 1).toNat : Int), .int .u8 ((s.best.r.f 2).toNat : Int), .int .u8 ((s.best.r.f 3).toNat : Int), .int .u8 ((s.best.r.f 4).toNat : Int), .int .u8 ((s.best.r.f 5).toNat : Int), .int .u8 ((s.best.r.f 6).toNat : Int), .int .u8 ((s.best.r.f 7).toNat : Int), .int .i64 s.best.c, .int .u8 ((s.best.b.f 0).toNat : Int), .int .u8 ((s.best.b.f 1).toNat : Int), .int .u8 ((s.best.b.f 2).toNat : Int), .int .u8 ((s.best.b.f 3).toNat : Int), .int .u8 ((s.best.b.f 4).toNat : Int), .int .u8 ((s.best.b.f 5).toNat : Int), .int .u8 ((s.best.b.f 6).toNat : Int), .int .u8 ((s.best.b.f 7).toNat : Int), .int .i64 s.best.p]) := rowIs_same HB.out (hox _ hb9g)
         have HA : Hid (BAt g1 cap1 s.ports.length w.heap.size (w.heap.size + 2) w w8 (s.put k (⟨pc, up, true, pw, prole, pstate, psince⟩ : SP))) := HA.out.putSet hRx hox hbx
         clear hRx hox hsx hbx
         have c13 : w8.cell? ⟨w.heap.size, 13, none⟩ = some (.slice (some ⟨g1, 0, none⟩) s.ports.length cap1) := HA.out.box.cell 13
         have hltp : ∀ q, k < (s.put k q).ports.length := fun q => by rw [SS.put_len]; exact hltk
         go_wp2_with (first
           | ((with_reducible refine at_load 63 (.tmp 5) ?_); refine wpList_load_midW rfl 63 (.tmp 5) rfl (w.heap.size + 1) (0) rfl [.int .u8 ((x.r.f 0).toNat : Int), .int .u8 ((x.r.f 1).toNat : Int), .int .u8 ((x.r.f 2).toNat : Int), .int .u8 ((x.r.f 3).toNat : Int), .int .u8 ((x.r.f 4).toNat : Int), .int .u8 ((x.r.f 5).toNat : Int), .int .u8 ((x.r.f 6).toNat : Int), .int .u8 ((x.r.f 7).toNat : Int), .int .u8 ((x.b.f 0).toNat : Int), .int .u8 ((x.b.f 1).toNat : Int), .int .u8 ((x.b.f 2).toNat : Int), .int .u8 ((x.b.f 3).toNat : Int), .int .u8 ((x.b.f 4).toNat : Int), .int .u8 ((x.b.f 5).toNat : Int), .int .u8 ((x.b.f 6).toNat : Int), .int .u8 ((x.b.f 7).toNat : Int), .int .i64 x.c, .int .i64 x.p, .int .i64 x.age, .int .i64 x.ma, .int .i64 x.he, .int .i64 x.de, .bool x.ch, .bool x.ak] _ (range_of_row RW.out rfl) Try.underlying63 rfl (by kernel_rfl) ?_)
           | ((with_reducible refine at_store 63 (.tmp 110) (.tmp 108) ?_); refine wpList_store_rp rfl 63 (.tmp 110) (.tmp 108) rfl g1 (k * 30 + 6) k 6 #[.int .u8 ((x.r.f 0).toNat : Int), .int .u8 ((x.r.f 1).toNat : Int), .int .u8 ((x.r.f 2).toNat : Int), .int .u8 ((x.r.f 3).toNat : Int), .int .u8 ((x.r.f 4).toNat : Int), .int .u8 ((x.r.f 5).toNat : Int), .int .u8 ((x.r.f 6).toNat : Int), .int .u8 ((x.r.f 7).toNat : Int), .int .u8 ((x.b.f 0).toNat : Int), .int .u8 ((x.b.f 1).toNat : Int), .int .u8 ((x.b.f 2).toNat : Int), .int .u8 ((x.b.f 3).toNat : Int), .int .u8 ((x.b.f 4).toNat : Int), .int .u8 ((x.b.f 5).toNat : Int), .int .u8 ((x.b.f 6).toNat : Int), .int .u8 ((x.b.f 7).toNat : Int), .int .i64 x.c, .int .i64 x.p, .int .i64 x.age, .int .i64 x.ma, .int .i64 x.he, .int .i64 x.de, .bool x.ch, .bool x.ak] rfl rfl HA.out.ports (hltp _) rfl (show 6 + 24 ≤ 30 from by decide) (by kernel_rfl) (by simp [Value.oneCell']) (⟨pc, up, true, x, prole, pstate, psince⟩ : SP) (by simp only [SS.put, List.getElem_set_self]; rfl) w.heap.size HA.out.ports.hB ?_))
         intro w9 hRx hox hsx hbx
         have RW : Hid (RowIs w9 (w.heap.size + 1) 63 #[.int .u8 ((x.r.f 0).toNat : Int), .int .u8 ((x.r.f 1).toNat : Int), .int .u8 ((x.r.f 2).toNat : Int), .int .u8 ((x.r.f 3).toNat : Int), .int .u8 ((x.r.f 4).toNat : Int), .int .u8 ((x.r.f 5).toNat : Int), .int .u8 ((x.r.f 6).toNat : Int), .int .u8 ((x.r.f 7).toNat : Int), .int .u8 ((x.b.f 0).toNat : Int), .int .u8 ((x.b.f 1).toNat : Int), .int .u8 ((x.b.f 2).toNat : Int), .int .u8 ((x.b.f 3).toNat : Int), .int .u8 ((x.b.f 4).toNat : Int), .int .u8 ((x.b.f 5).toNat : Int), .int .u8 ((x.b.f 6).toNat : Int), .int .u8 ((x.b.f 7).toNat : Int), .int .i64 x.c, .int .i64 x.p, .int .i64 x.age, .int .i64 x.ma, .int .i64 x.he, .int .i64 x.de, .bool x.ch, .bool x.ak]) := rowIs_same RW.out (hox _ hgx.symm)
         have HB : Hid (RowIs w9 b9 57 #[.int .u8 ((s.best.r.f 0).toNat : Int), .int .u8 ((s.best.r.f 1).toNat : Int), .int .u8 ((s.best.r.f 2).toNat : Int), .int .u8 ((s.best.r.f 3).toNat : Int), .int .u8 ((s.best.r.f 4).toNat : Int), .int .u8 ((s.best.r.f 5).toNat : Int), .int .u8 ((s.best.r.f 6).toNat : Int), .int .u8 ((s.best.r.f 7).toNat : Int), .int .i64 s.best.c, .int .u8 ((s.best.b.f 0).toNat : Int), .int .u8 ((s.best.b.f 1).toNat : Int), .int .u8 ((s.best.b.f 2).toNat : Int), .int .u8 ((s.best.b.f 3).toNat : Int), .int .u8 ((s.best.b.f 4).toNat : Int), .int .u8 ((s.best.b.f 5).toNat : Int), .int .u8 ((s.best.b.f 6).toNat : Int), .int .u8 ((s.best.b.f 7).toNat : Int), .int .i64 s.best.p]) := rowIs_same HB.out (hox _ hb9g)
         have HA : Hid (BAt g1 cap1 s.ports.length w.heap.size (w.heap.size + 2) w w9 (s.put k (⟨pc, up, true, x, prole, pstate, psince⟩ : SP))) := by
           have h0 := HA.out.putSet hRx hox hbx
           rw [SS.put_put] at h0
           exact h0
         clear hRx hox hsx hbx
         clear c13 hltp
         have HT2 : Hid (s.take (k : Int) x = ((s.put k (⟨pc, up, true, x, prole, pstate, psince⟩ : SP)).found.1, s.tellsK (s.put k (⟨pc, up, true, x, prole, pstate, psince⟩ : SP)).found.1 k)) := by
           show _ = _
           rw [SS.take_yes HNR.out, Int.toNat_natCast, HPT.out, if_pos HHE.out]
           unfold SS.takeF
           rw [HPT.out]
           rfl
         have HOK2 : Hid ((s.put k (⟨pc, up, true, x, prole, pstate, psince⟩ : SP)).Ok n0) := HOK.out.put k _ hltk HSC.out ⟨(SW.right_age HXR.out).1, (show x.age ≤ 1000 from by have := HXA.out; have := HOK.out.ma; omega)⟩
         have HF2 : Hid (s.put k (⟨pc, up, true, x, prole, pstate, psince⟩ : SP)).Fit := SS.Fit.put HF0.out k _ ⟨⟨SW.right_c HXR.out, HXC.out⟩, HPF.out.2⟩
         have HC2 : Hid (0 ≤ (s.put k (⟨pc, up, true, x, prole, pstate, psince⟩ : SP)).chg ∧ (s.put k (⟨pc, up, true, x, prole, pstate, psince⟩ : SP)).chg ≤ 999990000) := by have := HOK2.out.chg; show _ ∧ _; omega
         clear HOK HF0 HSC HPF HPT HPK HXR HXA HXC HHE HNR
         generalize hgen : (s.put k (⟨pc, up, true, x, prole, pstate, psince⟩ : SP)) = s2 at *
         clear hgen
         have HC := Lib.hid (refFound_n w.heap.size g1 cap1 s2 w9 HA.out.len HA.out.ports hl HF2.out HC2.out)
         go_wp2_with ((with_reducible refine at_load 59 (.tmp 3) ?_); refine wpList_load_midW rfl 59 (.tmp 3) rfl (w.heap.size) (0) rfl [.int .u8 ((s2.id.f 0).toNat : Int), .int .u8 ((s2.id.f 1).toNat : Int), .int .u8 ((s2.id.f 2).toNat : Int), .int .u8 ((s2.id.f 3).toNat : Int), .int .u8 ((s2.id.f 4).toNat : Int), .int .u8 ((s2.id.f 5).toNat : Int), .int .u8 ((s2.id.f 6).toNat : Int), .int .u8 ((s2.id.f 7).toNat : Int), .int .i64 s2.ma, .int .i64 s2.he, .int .i64 s2.de, .int .i64 s2.now, .int .i64 s2.chg, (.slice (some ⟨g1, 0, none⟩) s.ports.length cap1), .int .u8 ((s2.best.r.f 0).toNat : Int), .int .u8 ((s2.best.r.f 1).toNat : Int), .int .u8 ((s2.best.r.f 2).toNat : Int), .int .u8 ((s2.best.r.f 3).toNat : Int), .int .u8 ((s2.best.r.f 4).toNat : Int), .int .u8 ((s2.best.r.f 5).toNat : Int), .int .u8 ((s2.best.r.f 6).toNat : Int), .int .u8 ((s2.best.r.f 7).toNat : Int), .int .i64 s2.best.c, .int .u8 ((s2.best.b.f 0).toNat : Int), .int .u8 ((s2.best.b.f 1).toNat : Int), .int .u8 ((s2.best.b.f 2).toNat : Int), .int .u8 ((s2.best.b.f 3).toNat : Int), .int .u8 ((s2.best.b.f 4).toNat : Int), .int .u8 ((s2.best.b.f 5).toNat : Int), .int .u8 ((s2.best.b.f 6).toNat : Int), .int .u8 ((s2.best.b.f 7).toNat : Int), .int .i64 s2.best.p, .int .i64 s2.root] _ (range_of_row HA.out.box rfl) Try.underlying59 rfl (by kernel_rfl) ?_)
         refine HC.out.mono ?_
         rintro e wm ⟨rfl, hR4, hb4, ho4⟩
         have HB : Hid (RowIs wm b9 57 #[.int .u8 ((s.best.r.f 0).toNat : Int), .int .u8 ((s.best.r.f 1).toNat : Int), .int .u8 ((s.best.r.f 2).toNat : Int), .int .u8 ((s.best.r.f 3).toNat : Int), .int .u8 ((s.best.r.f 4).toNat : Int), .int .u8 ((s.best.r.f 5).toNat : Int), .int .u8 ((s.best.r.f 6).toNat : Int), .int .u8 ((s.best.r.f 7).toNat : Int), .int .i64 s.best.c, .int .u8 ((s.best.b.f 0).toNat : Int), .int .u8 ((s.best.b.f 1).toNat : Int), .int .u8 ((s.best.b.f 2).toNat : Int), .int .u8 ((s.best.b.f 3).toNat : Int), .int .u8 ((s.best.b.f 4).toNat : Int), .int .u8 ((s.best.b.f 5).toNat : Int), .int .u8 ((s.best.b.f 6).toNat : Int), .int .u8 ((s.best.b.f 7).toNat : Int), .int .i64 s.best.p]) := rowIs_same HB.out (ho4.2 _ HB.out.lt (by simpa using hb9g))
         have HA := Lib.hid (HA.out.portsSet hR4 (by rw [SS.found_len]; exact HA.out.len) ho4 hb4)
         clear HC hR4 ho4 hb4
         go_wp2_with ((with_reducible refine at_store 59 (.tmp 3) (.tmp 114) ?_); refine wpList_store_own rfl 59 (.tmp 3) (.tmp 114) rfl (w.heap.size) _ rfl rfl _ _ HA.out.box (by kernel_rfl) rfl (by simp [Value.oneCell']) (w.heap.size) (Nat.le_refl _) ?_)
         intro wq hR5 ho5 hs5 hb5
         have HB : Hid (RowIs wq b9 57 #[.int .u8 ((s.best.r.f 0).toNat : Int), .int .u8 ((s.best.r.f 1).toNat : Int), .int .u8 ((s.best.r.f 2).toNat : Int), .int .u8 ((s.best.r.f 3).toNat : Int), .int .u8 ((s.best.r.f 4).toNat : Int), .int .u8 ((s.best.r.f 5).toNat : Int), .int .u8 ((s.best.r.f 6).toNat : Int), .int .u8 ((s.best.r.f 7).toNat : Int), .int .i64 s.best.c, .int .u8 ((s.best.b.f 0).toNat : Int), .int .u8 ((s.best.b.f 1).toNat : Int), .int .u8 ((s.best.b.f 2).toNat : Int), .int .u8 ((s.best.b.f 3).toNat : Int), .int .u8 ((s.best.b.f 4).toNat : Int), .int .u8 ((s.best.b.f 5).toNat : Int), .int .u8 ((s.best.b.f 6).toNat : Int), .int .u8 ((s.best.b.f 7).toNat : Int), .int .i64 s.best.p]) := rowIs_same HB.out (ho5 _ hb9b)
         have HA : Hid (BAt g1 cap1 s.ports.length w.heap.size (w.heap.size + 2) w wq s2.found.1) := HA.out.boxSet (s' := s2.found.1) rfl hR5 ho5 hb5
         clear hR5 ho5 hs5 hb5
         have HOKF := Lib.hid HOK2.out.found
         clear HOK2 HF2 HC2 RW
         rw [SS.tellsK_eq] at HT2
         generalize s2.found = f3 at *
         obtain ⟨sf, ch⟩ := f3
         have HA : Hid (BAt g1 cap1 s.ports.length w.heap.size (w.heap.size + 2) w wq sf) := HA
         have HOKF : Hid (sf.Ok (n0 + 100)) := HOKF
         have HWQ : Hid (w.heap.size ≤ wq.heap.size) := HA.out.below.size
         have HRL : Hid (w.heap.size + 2 < wq.heap.size) := HA.out.ret.lt
         have c32 : wq.cell? ⟨w.heap.size, 32, none⟩ = some (.int .i64 sf.root) := HA.out.box.cell 32
         have HT2 : Hid (s.take (k : Int) x = (sf, if ((k : Int) == sf.root || !decide (s.best = sf.best)) = true then sf.tells (fun _ => true) else sf.tells (fun j => decide ((j : Int) = (k : Int))))) := HT2
         go_upto_region 11 with fail
         go_cut [125] (fun v wx => v = .bool ((k : Int) == sf.root || !decide (s.best = sf.best)) ∧ wq = wx)
         case first =>
           clear HT2
           have m1 : ∀ w, (Op.equalIn 10000 57 (.agg #[.int .u8 ((s.best.r.f 0).toNat : Int), .int .u8 ((s.best.r.f 1).toNat : Int), .int .u8 ((s.best.r.f 2).toNat : Int), .int .u8 ((s.best.r.f 3).toNat : Int), .int .u8 ((s.best.r.f 4).toNat : Int), .int .u8 ((s.best.r.f 5).toNat : Int), .int .u8 ((s.best.r.f 6).toNat : Int), .int .u8 ((s.best.r.f 7).toNat : Int), .int .i64 s.best.c, .int .u8 ((s.best.b.f 0).toNat : Int), .int .u8 ((s.best.b.f 1).toNat : Int), .int .u8 ((s.best.b.f 2).toNat : Int), .int .u8 ((s.best.b.f 3).toNat : Int), .int .u8 ((s.best.b.f 4).toNat : Int), .int .u8 ((s.best.b.f 5).toNat : Int), .int .u8 ((s.best.b.f 6).toNat : Int), .int .u8 ((s.best.b.f 7).toNat : Int), .int .i64 s.best.p]) (.agg #[.int .u8 ((sf.best.r.f 0).toNat : Int), .int .u8 ((sf.best.r.f 1).toNat : Int), .int .u8 ((sf.best.r.f 2).toNat : Int), .int .u8 ((sf.best.r.f 3).toNat : Int), .int .u8 ((sf.best.r.f 4).toNat : Int), .int .u8 ((sf.best.r.f 5).toNat : Int), .int .u8 ((sf.best.r.f 6).toNat : Int), .int .u8 ((sf.best.r.f 7).toNat : Int), .int .i64 sf.best.c, .int .u8 ((sf.best.b.f 0).toNat : Int), .int .u8 ((sf.best.b.f 1).toNat : Int), .int .u8 ((sf.best.b.f 2).toNat : Int), .int .u8 ((sf.best.b.f 3).toNat : Int), .int .u8 ((sf.best.b.f 4).toNat : Int), .int .u8 ((sf.best.b.f 5).toNat : Int), .int .u8 ((sf.best.b.f 6).toNat : Int), .int .u8 ((sf.best.b.f 7).toNat : Int), .int .i64 sf.best.p])).run Try.prog w = .ok (decide (s.best = sf.best)) w := run_equalIn_rv 9997 s.best sf.best
           generalize decide (s.best = sf.best) = dq at *
           cases hrr : ((k : Int) == sf.root)
           · have H1 := Lib.hid hrr
             cases dq
             · go_wp2_with (first
                 | ((with_reducible refine at_load 57 (.tmp 9) ?_); refine wpList_load_midW rfl 57 (.tmp 9) rfl (b9) (0) rfl [.int .u8 ((s.best.r.f 0).toNat : Int), .int .u8 ((s.best.r.f 1).toNat : Int), .int .u8 ((s.best.r.f 2).toNat : Int), .int .u8 ((s.best.r.f 3).toNat : Int), .int .u8 ((s.best.r.f 4).toNat : Int), .int .u8 ((s.best.r.f 5).toNat : Int), .int .u8 ((s.best.r.f 6).toNat : Int), .int .u8 ((s.best.r.f 7).toNat : Int), .int .i64 s.best.c, .int .u8 ((s.best.b.f 0).toNat : Int), .int .u8 ((s.best.b.f 1).toNat : Int), .int .u8 ((s.best.b.f 2).toNat : Int), .int .u8 ((s.best.b.f 3).toNat : Int), .int .u8 ((s.best.b.f 4).toNat : Int), .int .u8 ((s.best.b.f 5).toNat : Int), .int .u8 ((s.best.b.f 6).toNat : Int), .int .u8 ((s.best.b.f 7).toNat : Int), .int .i64 s.best.p] _ (range_of_row HB.out rfl) Try.underlying57 rfl (by kernel_rfl) ?_)
                 | ((with_reducible refine at_load 57 (.tmp 122) ?_); refine wpList_load_midW rfl 57 (.tmp 122) rfl (w.heap.size) (14) rfl [.int .u8 ((sf.best.r.f 0).toNat : Int), .int .u8 ((sf.best.r.f 1).toNat : Int), .int .u8 ((sf.best.r.f 2).toNat : Int), .int .u8 ((sf.best.r.f 3).toNat : Int), .int .u8 ((sf.best.r.f 4).toNat : Int), .int .u8 ((sf.best.r.f 5).toNat : Int), .int .u8 ((sf.best.r.f 6).toNat : Int), .int .u8 ((sf.best.r.f 7).toNat : Int), .int .i64 sf.best.c, .int .u8 ((sf.best.b.f 0).toNat : Int), .int .u8 ((sf.best.b.f 1).toNat : Int), .int .u8 ((sf.best.b.f 2).toNat : Int), .int .u8 ((sf.best.b.f 3).toNat : Int), .int .u8 ((sf.best.b.f 4).toNat : Int), .int .u8 ((sf.best.b.f 5).toNat : Int), .int .u8 ((sf.best.b.f 6).toNat : Int), .int .u8 ((sf.best.b.f 7).toNat : Int), .int .i64 sf.best.p] _ (range_of_row HA.out.box rfl) Try.underlying57 rfl (by kernel_rfl) ?_))
               go_meet
               exact ⟨by rw [H1.out]; rfl, rfl⟩
             · go_wp2_with (first
                 | ((with_reducible refine at_load 57 (.tmp 9) ?_); refine wpList_load_midW rfl 57 (.tmp 9) rfl (b9) (0) rfl [.int .u8 ((s.best.r.f 0).toNat : Int), .int .u8 ((s.best.r.f 1).toNat : Int), .int .u8 ((s.best.r.f 2).toNat : Int), .int .u8 ((s.best.r.f 3).toNat : Int), .int .u8 ((s.best.r.f 4).toNat : Int), .int .u8 ((s.best.r.f 5).toNat : Int), .int .u8 ((s.best.r.f 6).toNat : Int), .int .u8 ((s.best.r.f 7).toNat : Int), .int .i64 s.best.c, .int .u8 ((s.best.b.f 0).toNat : Int), .int .u8 ((s.best.b.f 1).toNat : Int), .int .u8 ((s.best.b.f 2).toNat : Int), .int .u8 ((s.best.b.f 3).toNat : Int), .int .u8 ((s.best.b.f 4).toNat : Int), .int .u8 ((s.best.b.f 5).toNat : Int), .int .u8 ((s.best.b.f 6).toNat : Int), .int .u8 ((s.best.b.f 7).toNat : Int), .int .i64 s.best.p] _ (range_of_row HB.out rfl) Try.underlying57 rfl (by kernel_rfl) ?_)
                 | ((with_reducible refine at_load 57 (.tmp 122) ?_); refine wpList_load_midW rfl 57 (.tmp 122) rfl (w.heap.size) (14) rfl [.int .u8 ((sf.best.r.f 0).toNat : Int), .int .u8 ((sf.best.r.f 1).toNat : Int), .int .u8 ((sf.best.r.f 2).toNat : Int), .int .u8 ((sf.best.r.f 3).toNat : Int), .int .u8 ((sf.best.r.f 4).toNat : Int), .int .u8 ((sf.best.r.f 5).toNat : Int), .int .u8 ((sf.best.r.f 6).toNat : Int), .int .u8 ((sf.best.r.f 7).toNat : Int), .int .i64 sf.best.c, .int .u8 ((sf.best.b.f 0).toNat : Int), .int .u8 ((sf.best.b.f 1).toNat : Int), .int .u8 ((sf.best.b.f 2).toNat : Int), .int .u8 ((sf.best.b.f 3).toNat : Int), .int .u8 ((sf.best.b.f 4).toNat : Int), .int .u8 ((sf.best.b.f 5).toNat : Int), .int .u8 ((sf.best.b.f 6).toNat : Int), .int .u8 ((sf.best.b.f 7).toNat : Int), .int .i64 sf.best.p] _ (range_of_row HA.out.box rfl) Try.underlying57 rfl (by kernel_rfl) ?_))
               go_meet
               exact ⟨by rw [H1.out]; rfl, rfl⟩
           · have H1 := Lib.hid hrr
             go_wp2_with fail
             go_meet
             exact ⟨by rw [H1.out]; rfl, rfl⟩
         case rest =>
           obtain ⟨rfl, rfl⟩ := hcut
           clear c32 HB
           generalize hcc : ((k : Int) == sf.root || !decide (s.best = sf.best)) = cc
           rw [hcc] at HT2
           clear hcc
           cases cc
           · have HT1 : Hid (s.take (k : Int) x = (sf, sf.tells (fun j => decide ((j : Int) = (k : Int))))) := HT2.out
             clear HT2
             have HT : Hid (∀ w', Below wq.heap.size wq w' → Calls Try.prog 40 #[.agg #[.int .u8 ((sf.id.f 0).toNat : Int), .int .u8 ((sf.id.f 1).toNat : Int), .int .u8 ((sf.id.f 2).toNat : Int), .int .u8 ((sf.id.f 3).toNat : Int), .int .u8 ((sf.id.f 4).toNat : Int), .int .u8 ((sf.id.f 5).toNat : Int), .int .u8 ((sf.id.f 6).toNat : Int), .int .u8 ((sf.id.f 7).toNat : Int), .int .i64 sf.ma, .int .i64 sf.he, .int .i64 sf.de, .int .i64 sf.now, .int .i64 sf.chg, (.slice (some ⟨g1, 0, none⟩) s.ports.length cap1), .int .u8 ((sf.best.r.f 0).toNat : Int), .int .u8 ((sf.best.r.f 1).toNat : Int), .int .u8 ((sf.best.r.f 2).toNat : Int), .int .u8 ((sf.best.r.f 3).toNat : Int), .int .u8 ((sf.best.r.f 4).toNat : Int), .int .u8 ((sf.best.r.f 5).toNat : Int), .int .u8 ((sf.best.r.f 6).toNat : Int), .int .u8 ((sf.best.r.f 7).toNat : Int), .int .i64 sf.best.c, .int .u8 ((sf.best.b.f 0).toNat : Int), .int .u8 ((sf.best.b.f 1).toNat : Int), .int .u8 ((sf.best.b.f 2).toNat : Int), .int .u8 ((sf.best.b.f 3).toNat : Int), .int .u8 ((sf.best.b.f 4).toNat : Int), .int .u8 ((sf.best.b.f 5).toNat : Int), .int .u8 ((sf.best.b.f 6).toNat : Int), .int .u8 ((sf.best.b.f 7).toNat : Int), .int .i64 sf.best.p, .int .i64 sf.root], .int .i64 (k : Int)] w' fun e w'' => ∃ v, e = .returned v ∧ ROutAt w'' w'.heap.size v (sf.tells (fun j => decide ((j : Int) = (k : Int)))) ∧ Below w'.heap.size w' w'') := fun w' hb => by
               have h0 := refTells_n w.heap.size g1 cap1 sf (k : Int) w' HA.out.len (HA.out.ports.later hb) hl HOKF.out.root HOKF.out.ages HOKF.out.ma.1
               rw [SS.tells_only] at h0
               exact h0
             go_upto_region 13 with fail
             refine wp_region_mix 4 (by kernel_rfl) (by kernel_rfl) (by kernel_rfl) ?_
             refine mix_exact (.agg #[.int .u8 ((sf.id.f 0).toNat : Int), .int .u8 ((sf.id.f 1).toNat : Int), .int .u8 ((sf.id.f 2).toNat : Int), .int .u8 ((sf.id.f 3).toNat : Int), .int .u8 ((sf.id.f 4).toNat : Int), .int .u8 ((sf.id.f 5).toNat : Int), .int .u8 ((sf.id.f 6).toNat : Int), .int .u8 ((sf.id.f 7).toNat : Int), .int .i64 sf.ma, .int .i64 sf.he, .int .i64 sf.de, .int .i64 sf.now, .int .i64 sf.chg, (.slice (some ⟨g1, 0, none⟩) s.ports.length cap1), .int .u8 ((sf.best.r.f 0).toNat : Int), .int .u8 ((sf.best.r.f 1).toNat : Int), .int .u8 ((sf.best.r.f 2).toNat : Int), .int .u8 ((sf.best.r.f 3).toNat : Int), .int .u8 ((sf.best.r.f 4).toNat : Int), .int .u8 ((sf.best.r.f 5).toNat : Int), .int .u8 ((sf.best.r.f 6).toNat : Int), .int .u8 ((sf.best.r.f 7).toNat : Int), .int .i64 sf.best.c, .int .u8 ((sf.best.b.f 0).toNat : Int), .int .u8 ((sf.best.b.f 1).toNat : Int), .int .u8 ((sf.best.b.f 2).toNat : Int), .int .u8 ((sf.best.b.f 3).toNat : Int), .int .u8 ((sf.best.b.f 4).toNat : Int), .int .u8 ((sf.best.b.f 5).toNat : Int), .int .u8 ((sf.best.b.f 6).toNat : Int), .int .u8 ((sf.best.b.f 7).toNat : Int), .int .i64 sf.best.p, .int .i64 sf.root]) rfl (exact_load_row rfl rfl (by simp) HA.out.box Try.underlying59 rfl (by kernel_rfl)) ?_
             refine mix_exact (.agg #[.int .u8 ((sf.id.f 0).toNat : Int), .int .u8 ((sf.id.f 1).toNat : Int), .int .u8 ((sf.id.f 2).toNat : Int), .int .u8 ((sf.id.f 3).toNat : Int), .int .u8 ((sf.id.f 4).toNat : Int), .int .u8 ((sf.id.f 5).toNat : Int), .int .u8 ((sf.id.f 6).toNat : Int), .int .u8 ((sf.id.f 7).toNat : Int), .int .i64 sf.ma, .int .i64 sf.he, .int .i64 sf.de, .int .i64 sf.now, .int .i64 sf.chg, (.slice (some ⟨g1, 0, none⟩) s.ports.length cap1), .int .u8 ((sf.best.r.f 0).toNat : Int), .int .u8 ((sf.best.r.f 1).toNat : Int), .int .u8 ((sf.best.r.f 2).toNat : Int), .int .u8 ((sf.best.r.f 3).toNat : Int), .int .u8 ((sf.best.r.f 4).toNat : Int), .int .u8 ((sf.best.r.f 5).toNat : Int), .int .u8 ((sf.best.r.f 6).toNat : Int), .int .u8 ((sf.best.r.f 7).toNat : Int), .int .i64 sf.best.c, .int .u8 ((sf.best.b.f 0).toNat : Int), .int .u8 ((sf.best.b.f 1).toNat : Int), .int .u8 ((sf.best.b.f 2).toNat : Int), .int .u8 ((sf.best.b.f 3).toNat : Int), .int .u8 ((sf.best.b.f 4).toNat : Int), .int .u8 ((sf.best.b.f 5).toNat : Int), .int .u8 ((sf.best.b.f 6).toNat : Int), .int .u8 ((sf.best.b.f 7).toNat : Int), .int .i64 sf.best.p, .int .i64 sf.root]) rfl (exact_load_row rfl rfl (by simp) HA.out.box Try.underlying59 rfl (by kernel_rfl)) ?_
             (refine mix_step (by kernel_rfl) (by kernel_rfl) (fun K hK => ?_); go_simp; (try (simp only [↓IntWalk.iteOmega]; go_simp)); (first | (refine hK _ ?_; clear hK K) | (apply Exists.intro; refine ⟨fun _ => ?_, hK _ ?_⟩; (first | fail); clear hK K)))
             refine mix_special (TellAt wq.heap.size (sf.tells (fun j => decide ((j : Int) = (k : Int))))) 132 rfl rfl (stable_tell _ _) (owes_callO (xs := [.tmp 130, .tmp 131]) (vs := [.agg #[.int .u8 ((sf.id.f 0).toNat : Int), .int .u8 ((sf.id.f 1).toNat : Int), .int .u8 ((sf.id.f 2).toNat : Int), .int .u8 ((sf.id.f 3).toNat : Int), .int .u8 ((sf.id.f 4).toNat : Int), .int .u8 ((sf.id.f 5).toNat : Int), .int .u8 ((sf.id.f 6).toNat : Int), .int .u8 ((sf.id.f 7).toNat : Int), .int .i64 sf.ma, .int .i64 sf.he, .int .i64 sf.de, .int .i64 sf.now, .int .i64 sf.chg, (.slice (some ⟨g1, 0, none⟩) s.ports.length cap1), .int .u8 ((sf.best.r.f 0).toNat : Int), .int .u8 ((sf.best.r.f 1).toNat : Int), .int .u8 ((sf.best.r.f 2).toNat : Int), .int .u8 ((sf.best.r.f 3).toNat : Int), .int .u8 ((sf.best.r.f 4).toNat : Int), .int .u8 ((sf.best.r.f 5).toNat : Int), .int .u8 ((sf.best.r.f 6).toNat : Int), .int .u8 ((sf.best.r.f 7).toNat : Int), .int .i64 sf.best.c, .int .u8 ((sf.best.b.f 0).toNat : Int), .int .u8 ((sf.best.b.f 1).toNat : Int), .int .u8 ((sf.best.b.f 2).toNat : Int), .int .u8 ((sf.best.b.f 3).toNat : Int), .int .u8 ((sf.best.b.f 4).toNat : Int), .int .u8 ((sf.best.b.f 5).toNat : Int), .int .u8 ((sf.best.b.f 6).toNat : Int), .int .u8 ((sf.best.b.f 7).toNat : Int), .int .i64 sf.best.p, .int .i64 sf.root], .int .i64 (k : Int)]) rfl (by simp) rfl Try.func40 (by kernel_rfl) (by kernel_rfl) ?hc) ?_
             case hc => exact fun w' hb => (HT.out w' hb).mono (by
               rintro e w'' ⟨u, rfl, ho, hbb⟩
               exact ⟨u, rfl, hbb, ROutAt.lower ho hb.size⟩)
             refine mix_nil ?_
             rintro ⟨dr, osr⟩
             have hb8 := below_regrown wq dr osr
             intro u1 f1
             have F1 : Hid (ROutAt _ wq.heap.size u1 (sf.tells (fun j => decide ((j : Int) = (k : Int))))) := f1
             have HA := Lib.hid (HA.out.later hb8)
             clear f1
             generalize grow (redrawn wq dr) osr = wz at *
             refine (show wpList _ _ _ _ _ _ from ?_)
             simp only [List.drop, Act.put, List.setIfInBounds_toArray, List.set]
             go_wp2_with ((with_reducible refine at_store 59 (.tmp 6) (.tmp 129) ?_); refine wpList_store_own rfl 59 (.tmp 6) (.tmp 129) rfl (w.heap.size + 2) _ rfl rfl _ _ HA.out.ret (by kernel_rfl) rfl (by simp [Value.oneCell']) (w.heap.size) HA.out.hr ?_)
             intro we hRe hoe hse hbe
             have HRE : Hid (RowIs we (w.heap.size + 2) 59 #[.int .u8 ((sf.id.f 0).toNat : Int), .int .u8 ((sf.id.f 1).toNat : Int), .int .u8 ((sf.id.f 2).toNat : Int), .int .u8 ((sf.id.f 3).toNat : Int), .int .u8 ((sf.id.f 4).toNat : Int), .int .u8 ((sf.id.f 5).toNat : Int), .int .u8 ((sf.id.f 6).toNat : Int), .int .u8 ((sf.id.f 7).toNat : Int), .int .i64 sf.ma, .int .i64 sf.he, .int .i64 sf.de, .int .i64 sf.now, .int .i64 sf.chg, (.slice (some ⟨g1, 0, none⟩) s.ports.length cap1), .int .u8 ((sf.best.r.f 0).toNat : Int), .int .u8 ((sf.best.r.f 1).toNat : Int), .int .u8 ((sf.best.r.f 2).toNat : Int), .int .u8 ((sf.best.r.f 3).toNat : Int), .int .u8 ((sf.best.r.f 4).toNat : Int), .int .u8 ((sf.best.r.f 5).toNat : Int), .int .u8 ((sf.best.r.f 6).toNat : Int), .int .u8 ((sf.best.r.f 7).toNat : Int), .int .i64 sf.best.c, .int .u8 ((sf.best.b.f 0).toNat : Int), .int .u8 ((sf.best.b.f 1).toNat : Int), .int .u8 ((sf.best.b.f 2).toNat : Int), .int .u8 ((sf.best.b.f 3).toNat : Int), .int .u8 ((sf.best.b.f 4).toNat : Int), .int .u8 ((sf.best.b.f 5).toNat : Int), .int .u8 ((sf.best.b.f 6).toNat : Int), .int .u8 ((sf.best.b.f 7).toNat : Int), .int .i64 sf.best.p, .int .i64 sf.root]) := hRe
             have hRA : RAt w.heap.size g1 cap1 we sf.ports := HA.out.ports.same (hoe _ HA.out.gr)
             have hbf := HA.out.below.trans hbe
             have hOF := ROutAt.lower (ROutAt.same F1.out (fun m hm => hoe m (by have := HRL.out; omega))) HWQ.out
             clear hRe hoe hse hbe HA
             go_wp2_with fail
             refine bodyPost_ret (results_row_tmp1 Try.results21 _ _ (w.heap.size + 2) _ _ _ rfl HRE.out Try.underlying59 rfl (by kernel_rfl)) rfl ?_
             refine ⟨g1, cap1, u1, ?_, ?_, ?_, hbf⟩
             · (rw [HT1.out]; try rfl)
             · rw [HT1.out]; exact hRA.lower HBW.out
             · rw [HT1.out]; exact hOF
           · have HT1 : Hid (s.take (k : Int) x = (sf, sf.tells (fun _ => true))) := HT2.out
             clear HT2
             have HT : Hid (∀ w', Below wq.heap.size wq w' → Calls Try.prog 40 #[.agg #[.int .u8 ((sf.id.f 0).toNat : Int), .int .u8 ((sf.id.f 1).toNat : Int), .int .u8 ((sf.id.f 2).toNat : Int), .int .u8 ((sf.id.f 3).toNat : Int), .int .u8 ((sf.id.f 4).toNat : Int), .int .u8 ((sf.id.f 5).toNat : Int), .int .u8 ((sf.id.f 6).toNat : Int), .int .u8 ((sf.id.f 7).toNat : Int), .int .i64 sf.ma, .int .i64 sf.he, .int .i64 sf.de, .int .i64 sf.now, .int .i64 sf.chg, (.slice (some ⟨g1, 0, none⟩) s.ports.length cap1), .int .u8 ((sf.best.r.f 0).toNat : Int), .int .u8 ((sf.best.r.f 1).toNat : Int), .int .u8 ((sf.best.r.f 2).toNat : Int), .int .u8 ((sf.best.r.f 3).toNat : Int), .int .u8 ((sf.best.r.f 4).toNat : Int), .int .u8 ((sf.best.r.f 5).toNat : Int), .int .u8 ((sf.best.r.f 6).toNat : Int), .int .u8 ((sf.best.r.f 7).toNat : Int), .int .i64 sf.best.c, .int .u8 ((sf.best.b.f 0).toNat : Int), .int .u8 ((sf.best.b.f 1).toNat : Int), .int .u8 ((sf.best.b.f 2).toNat : Int), .int .u8 ((sf.best.b.f 3).toNat : Int), .int .u8 ((sf.best.b.f 4).toNat : Int), .int .u8 ((sf.best.b.f 5).toNat : Int), .int .u8 ((sf.best.b.f 6).toNat : Int), .int .u8 ((sf.best.b.f 7).toNat : Int), .int .i64 sf.best.p, .int .i64 sf.root], .int .i64 (-1)] w' fun e w'' => ∃ v, e = .returned v ∧ ROutAt w'' w'.heap.size v (sf.tells (fun _ => true)) ∧ Below w'.heap.size w' w'') := fun w' hb => refTells_n w.heap.size g1 cap1 sf (-1) w' HA.out.len (HA.out.ports.later hb) hl HOKF.out.root HOKF.out.ages HOKF.out.ma.1
             go_upto_region 12 with fail
             refine wp_region_mix 3 (by kernel_rfl) (by kernel_rfl) (by kernel_rfl) ?_
             refine mix_exact (.agg #[.int .u8 ((sf.id.f 0).toNat : Int), .int .u8 ((sf.id.f 1).toNat : Int), .int .u8 ((sf.id.f 2).toNat : Int), .int .u8 ((sf.id.f 3).toNat : Int), .int .u8 ((sf.id.f 4).toNat : Int), .int .u8 ((sf.id.f 5).toNat : Int), .int .u8 ((sf.id.f 6).toNat : Int), .int .u8 ((sf.id.f 7).toNat : Int), .int .i64 sf.ma, .int .i64 sf.he, .int .i64 sf.de, .int .i64 sf.now, .int .i64 sf.chg, (.slice (some ⟨g1, 0, none⟩) s.ports.length cap1), .int .u8 ((sf.best.r.f 0).toNat : Int), .int .u8 ((sf.best.r.f 1).toNat : Int), .int .u8 ((sf.best.r.f 2).toNat : Int), .int .u8 ((sf.best.r.f 3).toNat : Int), .int .u8 ((sf.best.r.f 4).toNat : Int), .int .u8 ((sf.best.r.f 5).toNat : Int), .int .u8 ((sf.best.r.f 6).toNat : Int), .int .u8 ((sf.best.r.f 7).toNat : Int), .int .i64 sf.best.c, .int .u8 ((sf.best.b.f 0).toNat : Int), .int .u8 ((sf.best.b.f 1).toNat : Int), .int .u8 ((sf.best.b.f 2).toNat : Int), .int .u8 ((sf.best.b.f 3).toNat : Int), .int .u8 ((sf.best.b.f 4).toNat : Int), .int .u8 ((sf.best.b.f 5).toNat : Int), .int .u8 ((sf.best.b.f 6).toNat : Int), .int .u8 ((sf.best.b.f 7).toNat : Int), .int .i64 sf.best.p, .int .i64 sf.root]) rfl (exact_load_row rfl rfl (by simp) HA.out.box Try.underlying59 rfl (by kernel_rfl)) ?_
             refine mix_exact (.agg #[.int .u8 ((sf.id.f 0).toNat : Int), .int .u8 ((sf.id.f 1).toNat : Int), .int .u8 ((sf.id.f 2).toNat : Int), .int .u8 ((sf.id.f 3).toNat : Int), .int .u8 ((sf.id.f 4).toNat : Int), .int .u8 ((sf.id.f 5).toNat : Int), .int .u8 ((sf.id.f 6).toNat : Int), .int .u8 ((sf.id.f 7).toNat : Int), .int .i64 sf.ma, .int .i64 sf.he, .int .i64 sf.de, .int .i64 sf.now, .int .i64 sf.chg, (.slice (some ⟨g1, 0, none⟩) s.ports.length cap1), .int .u8 ((sf.best.r.f 0).toNat : Int), .int .u8 ((sf.best.r.f 1).toNat : Int), .int .u8 ((sf.best.r.f 2).toNat : Int), .int .u8 ((sf.best.r.f 3).toNat : Int), .int .u8 ((sf.best.r.f 4).toNat : Int), .int .u8 ((sf.best.r.f 5).toNat : Int), .int .u8 ((sf.best.r.f 6).toNat : Int), .int .u8 ((sf.best.r.f 7).toNat : Int), .int .i64 sf.best.c, .int .u8 ((sf.best.b.f 0).toNat : Int), .int .u8 ((sf.best.b.f 1).toNat : Int), .int .u8 ((sf.best.b.f 2).toNat : Int), .int .u8 ((sf.best.b.f 3).toNat : Int), .int .u8 ((sf.best.b.f 4).toNat : Int), .int .u8 ((sf.best.b.f 5).toNat : Int), .int .u8 ((sf.best.b.f 6).toNat : Int), .int .u8 ((sf.best.b.f 7).toNat : Int), .int .i64 sf.best.p, .int .i64 sf.root]) rfl (exact_load_row rfl rfl (by simp) HA.out.box Try.underlying59 rfl (by kernel_rfl)) ?_
             refine mix_special (TellAt wq.heap.size (sf.tells (fun _ => true))) 128 rfl rfl (stable_tell _ _) (owes_callO (xs := [.tmp 127, .const (.int .i64 (-1))]) (vs := [.agg #[.int .u8 ((sf.id.f 0).toNat : Int), .int .u8 ((sf.id.f 1).toNat : Int), .int .u8 ((sf.id.f 2).toNat : Int), .int .u8 ((sf.id.f 3).toNat : Int), .int .u8 ((sf.id.f 4).toNat : Int), .int .u8 ((sf.id.f 5).toNat : Int), .int .u8 ((sf.id.f 6).toNat : Int), .int .u8 ((sf.id.f 7).toNat : Int), .int .i64 sf.ma, .int .i64 sf.he, .int .i64 sf.de, .int .i64 sf.now, .int .i64 sf.chg, (.slice (some ⟨g1, 0, none⟩) s.ports.length cap1), .int .u8 ((sf.best.r.f 0).toNat : Int), .int .u8 ((sf.best.r.f 1).toNat : Int), .int .u8 ((sf.best.r.f 2).toNat : Int), .int .u8 ((sf.best.r.f 3).toNat : Int), .int .u8 ((sf.best.r.f 4).toNat : Int), .int .u8 ((sf.best.r.f 5).toNat : Int), .int .u8 ((sf.best.r.f 6).toNat : Int), .int .u8 ((sf.best.r.f 7).toNat : Int), .int .i64 sf.best.c, .int .u8 ((sf.best.b.f 0).toNat : Int), .int .u8 ((sf.best.b.f 1).toNat : Int), .int .u8 ((sf.best.b.f 2).toNat : Int), .int .u8 ((sf.best.b.f 3).toNat : Int), .int .u8 ((sf.best.b.f 4).toNat : Int), .int .u8 ((sf.best.b.f 5).toNat : Int), .int .u8 ((sf.best.b.f 6).toNat : Int), .int .u8 ((sf.best.b.f 7).toNat : Int), .int .i64 sf.best.p, .int .i64 sf.root], .int .i64 (-1)]) rfl (by simp) rfl Try.func40 (by kernel_rfl) (by kernel_rfl) ?hc) ?_
             case hc => exact fun w' hb => (HT.out w' hb).mono (by
               rintro e w'' ⟨u, rfl, ho, hbb⟩
               exact ⟨u, rfl, hbb, ROutAt.lower ho hb.size⟩)
             refine mix_nil ?_
             rintro ⟨dr, osr⟩
             have hb8 := below_regrown wq dr osr
             intro u1 f1
             have F1 : Hid (ROutAt _ wq.heap.size u1 (sf.tells (fun _ => true))) := f1
             have HA := Lib.hid (HA.out.later hb8)
             clear f1
             generalize grow (redrawn wq dr) osr = wz at *
             refine (show wpList _ _ _ _ _ _ from ?_)
             simp only [List.drop, Act.put, List.setIfInBounds_toArray, List.set]
             go_wp2_with ((with_reducible refine at_store 59 (.tmp 6) (.tmp 126) ?_); refine wpList_store_own rfl 59 (.tmp 6) (.tmp 126) rfl (w.heap.size + 2) _ rfl rfl _ _ HA.out.ret (by kernel_rfl) rfl (by simp [Value.oneCell']) (w.heap.size) HA.out.hr ?_)
             intro we hRe hoe hse hbe
             have HRE : Hid (RowIs we (w.heap.size + 2) 59 #[.int .u8 ((sf.id.f 0).toNat : Int), .int .u8 ((sf.id.f 1).toNat : Int), .int .u8 ((sf.id.f 2).toNat : Int), .int .u8 ((sf.id.f 3).toNat : Int), .int .u8 ((sf.id.f 4).toNat : Int), .int .u8 ((sf.id.f 5).toNat : Int), .int .u8 ((sf.id.f 6).toNat : Int), .int .u8 ((sf.id.f 7).toNat : Int), .int .i64 sf.ma, .int .i64 sf.he, .int .i64 sf.de, .int .i64 sf.now, .int .i64 sf.chg, (.slice (some ⟨g1, 0, none⟩) s.ports.length cap1), .int .u8 ((sf.best.r.f 0).toNat : Int), .int .u8 ((sf.best.r.f 1).toNat : Int), .int .u8 ((sf.best.r.f 2).toNat : Int), .int .u8 ((sf.best.r.f 3).toNat : Int), .int .u8 ((sf.best.r.f 4).toNat : Int), .int .u8 ((sf.best.r.f 5).toNat : Int), .int .u8 ((sf.best.r.f 6).toNat : Int), .int .u8 ((sf.best.r.f 7).toNat : Int), .int .i64 sf.best.c, .int .u8 ((sf.best.b.f 0).toNat : Int), .int .u8 ((sf.best.b.f 1).toNat : Int), .int .u8 ((sf.best.b.f 2).toNat : Int), .int .u8 ((sf.best.b.f 3).toNat : Int), .int .u8 ((sf.best.b.f 4).toNat : Int), .int .u8 ((sf.best.b.f 5).toNat : Int), .int .u8 ((sf.best.b.f 6).toNat : Int), .int .u8 ((sf.best.b.f 7).toNat : Int), .int .i64 sf.best.p, .int .i64 sf.root]) := hRe
             have hRA : RAt w.heap.size g1 cap1 we sf.ports := HA.out.ports.same (hoe _ HA.out.gr)
             have hbf := HA.out.below.trans hbe
             have hOF := ROutAt.lower (ROutAt.same F1.out (fun m hm => hoe m (by have := HRL.out; omega))) HWQ.out
             clear hRe hoe hse hbe HA
             go_wp2_with fail
             refine bodyPost_ret (results_row_tmp1 Try.results21 _ _ (w.heap.size + 2) _ _ _ rfl HRE.out Try.underlying59 rfl (by kernel_rfl)) rfl ?_
             refine ⟨g1, cap1, u1, ?_, ?_, ?_, hbf⟩
             · (rw [HT1.out]; try rfl)
             · rw [HT1.out]; exact hRA.lower HBW.out
             · rw [HT1.out]; exact hOF
end Go.Proofs.Ytdhiaidbpjjljaa
