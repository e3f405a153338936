/- causeyref17: tells. By an AI agent. -/
import Derived.Test.YtdhiaidbpjjljaaRSpan2
import Derived.Maps.AppendAt
namespace Go.Proofs.Ytdhiaidbpjjljaa
open Go.RowKit Go.WideShapes Go.Sort Grow

theorem info_rout : ∃ i z, Try.prog.info? 72 = some i ∧ i.zero = some z ∧ i.size = 25 ∧ i.bytes = 80 ∧ z.cells.size = 25 := by
  have h : (Try.prog.info? 72).map (fun i => (i.zero.map (·.cells.size), i.size, i.bytes)) = some (some 25, 25, 80) := by kernel_rfl
  obtain ⟨i, hi, h⟩ := Option.map_eq_some_iff.1 h
  simp only [Prod.mk.injEq] at h
  obtain ⟨z, hz, h18⟩ := Option.map_eq_some_iff.1 h.1
  exact ⟨i, z, hi, hz, h.2.1, h.2.2, h18⟩

/-- what is told, as a slice -/
def ROutAt (w : World) (base : Nat) (v : Value) (outs : List SO) : Prop := ∃ la lc, v = .slice la outs.length lc ∧ w.ownsRow base 72 25 (.slice la outs.length lc) outs.length (outs.flatMap SO.cells)
theorem rout_nil (w : World) (base : Nat) : ROutAt w base (.slice none 0 0) [] := ⟨none, 0, rfl, World.ownsRow_nil _ _ _ _⟩
theorem ROutAt.later {w w' : World} {base : Nat} {v : Value} {outs : List SO} (h : ROutAt w base v outs) (hb : Below w.heap.size w w') : ROutAt w' base v outs := by
  obtain ⟨la, lc, e, h⟩ := h
  exact ⟨la, lc, e, ownsLater' h hb⟩
theorem rout_app {w : World} {base : Nat} {v : Value} {outs : List SO} {x : SO} (h : w.ownsRow base 72 25 v (outs.length + 1) (outs.flatMap SO.cells ++ x.cells)) : ROutAt w base v (outs ++ [x]) := by
  obtain ⟨la, lc, rfl⟩ : ∃ la lc, v = .slice la (outs.length + 1) lc := by
    rcases h.2 with ⟨_, e0⟩ | ⟨g', c', _, e', _⟩
    · omega
    · exact ⟨_, _, e'⟩
  refine ⟨la, lc, by simp, ?_⟩
  rw [List.flatMap_append, List.length_append]
  simpa using h

theorem ROutAt.lower {w : World} {base base' : Nat} {v : Value} {outs : List SO} (h : ROutAt w base v outs) (hb : base' ≤ base) : ROutAt w base' v outs := by
  obtain ⟨la, lc, e, h1, h2⟩ := h
  refine ⟨la, lc, e, h1, ?_⟩
  rcases h2 with h2 | ⟨g', cap', cur, a1, a2, a3⟩
  · exact .inl h2
  · exact .inr ⟨g', cap', cur, a1, Nat.le_trans hb a2, a3⟩

set_option maxRecDepth 20000 in
set_option maxHeartbeats 8000000 in
theorem refTells_any (B g cap : Nat) (s : SS) (only : Int) (w : World) (hR : RAt B g cap w s.ports) (hl : s.ports.length ≤ 1000) (hr : s.RootOk) (ha : s.AgesOk) (hma : 1 ≤ s.ma) :
    Calls Try.prog 40 #[.agg #[.int .u8 ((s.id.f 0).toNat : Int), .int .u8 ((s.id.f 1).toNat : Int), .int .u8 ((s.id.f 2).toNat : Int), .int .u8 ((s.id.f 3).toNat : Int), .int .u8 ((s.id.f 4).toNat : Int), .int .u8 ((s.id.f 5).toNat : Int), .int .u8 ((s.id.f 6).toNat : Int), .int .u8 ((s.id.f 7).toNat : Int), .int .i64 s.ma, .int .i64 s.he, .int .i64 s.de, .int .i64 s.now, .int .i64 s.chg, (.slice (some ⟨g, 0, none⟩) s.ports.length cap), .int .u8 ((s.best.r.f 0).toNat : Int), .int .u8 ((s.best.r.f 1).toNat : Int), .int .u8 ((s.best.r.f 2).toNat : Int), .int .u8 ((s.best.r.f 3).toNat : Int), .int .u8 ((s.best.r.f 4).toNat : Int), .int .u8 ((s.best.r.f 5).toNat : Int), .int .u8 ((s.best.r.f 6).toNat : Int), .int .u8 ((s.best.r.f 7).toNat : Int), .int .i64 s.best.c, .int .u8 ((s.best.b.f 0).toNat : Int), .int .u8 ((s.best.b.f 1).toNat : Int), .int .u8 ((s.best.b.f 2).toNat : Int), .int .u8 ((s.best.b.f 3).toNat : Int), .int .u8 ((s.best.b.f 4).toNat : Int), .int .u8 ((s.best.b.f 5).toNat : Int), .int .u8 ((s.best.b.f 6).toNat : Int), .int .u8 ((s.best.b.f 7).toNat : Int), .int .i64 s.best.p, .int .i64 s.root], .int .i64 only] w fun e w' => ∃ v, e = .returned v ∧ ROutAt w' w.heap.size v (s.tells (fun k => decide (only < 0) || (only == (k : Int)))) ∧ Below w.heap.size w w' := by
  have HR := Lib.hid hR
  obtain ⟨ti, tz, hti, htz, hz1, hz2, hz3⟩ := info_rout
  have HI := Lib.hid hti
  have HZ := Lib.hid htz
  clear hR hti htz
  go_enter Try.func40, Try.ntmps40
  go_upto_region 1 with fail
  generalize hW : w.alloc _ = W
  have hbW : Below w.heap.size w W := by rw [← hW]; exact (Below.refl _ _).alloc (Nat.le_refl _) _
  have HX : Hid (RowIs W w.heap.size 59 #[.int .u8 ((s.id.f 0).toNat : Int), .int .u8 ((s.id.f 1).toNat : Int), .int .u8 ((s.id.f 2).toNat : Int), .int .u8 ((s.id.f 3).toNat : Int), .int .u8 ((s.id.f 4).toNat : Int), .int .u8 ((s.id.f 5).toNat : Int), .int .u8 ((s.id.f 6).toNat : Int), .int .u8 ((s.id.f 7).toNat : Int), .int .i64 s.ma, .int .i64 s.he, .int .i64 s.de, .int .i64 s.now, .int .i64 s.chg, (.slice (some ⟨g, 0, none⟩) s.ports.length cap), .int .u8 ((s.best.r.f 0).toNat : Int), .int .u8 ((s.best.r.f 1).toNat : Int), .int .u8 ((s.best.r.f 2).toNat : Int), .int .u8 ((s.best.r.f 3).toNat : Int), .int .u8 ((s.best.r.f 4).toNat : Int), .int .u8 ((s.best.r.f 5).toNat : Int), .int .u8 ((s.best.r.f 6).toNat : Int), .int .u8 ((s.best.r.f 7).toNat : Int), .int .i64 s.best.c, .int .u8 ((s.best.b.f 0).toNat : Int), .int .u8 ((s.best.b.f 1).toNat : Int), .int .u8 ((s.best.b.f 2).toNat : Int), .int .u8 ((s.best.b.f 3).toNat : Int), .int .u8 ((s.best.b.f 4).toNat : Int), .int .u8 ((s.best.b.f 5).toNat : Int), .int .u8 ((s.best.b.f 6).toNat : Int), .int .u8 ((s.best.b.f 7).toNat : Int), .int .i64 s.best.p, .int .i64 s.root]) := by subst hW; exact rowIs_new w _ _
  have hlW : w.heap.size < W.heap.size := HX.out.lt
  clear hW
  have HRW := Lib.hid (HR.out.later hbW)
  have c13 : W.cell? ⟨w.heap.size, 13, none⟩ = some (.slice (some ⟨g, 0, none⟩) s.ports.length cap) := HX.out.cell 13
  have c32 : W.cell? ⟨w.heap.size, 32, none⟩ = some (.int .i64 s.root) := HX.out.cell 32
  have HE : Hid (s.age = if s.root < 0 then (0, true) else ((s.port s.root.toNat).w.age + 1, decide ((s.port s.root.toNat).w.age + 1 < s.ma))) := rfl
  have HF : Hid (s.tells (fun k => decide (only < 0) || (only == (k : Int))) = if s.age.2 then s.tellsF (fun k => decide (only < 0) || (only == (k : Int))) s.age.1 s.ports.length else []) := rfl
  have HA : Hid (0 ≤ s.age.1 ∧ s.age.1 ≤ 100001 ∧ s.age.2 = decide (s.age.1 < s.ma)) := by
    show _ ∧ _ ∧ _
    rw [HE.out]
    split
    · exact ⟨by decide, by decide, by simp; omega⟩
    · have := ha s.root.toNat
      exact ⟨by show (0 : Int) ≤ _ + 1; omega, by show _ + 1 ≤ (100001 : Int); omega, rfl⟩
  go_upto_if 10 with fail
  go_cut [5] (fun v wx => v = .int .i64 s.age.1 ∧ W = wx)
  case first =>
    rcases hr with hr | ⟨k, hk, hkl⟩
    · have HE : Hid (s.age = (0, true)) := by show _ = _; rw [HE.out, if_pos hr]
      have hneg : ¬ (0 ≤ s.root) := by omega
      go_wp2_with fail
      go_meet
      exact ⟨by rw [HE.out], rfl⟩
    · have HE : Hid (s.age = ((s.port k).w.age + 1, decide ((s.port k).w.age + 1 < s.ma))) := by show _ = _; rw [HE.out, if_neg (by omega), hk, Int.toNat_natCast]
      have hak := ha k
      rw [hk] at c32
      have cag : W.cell? ⟨g, k * 30 + 24, none⟩ = some (.int .i64 (s.port k).w.age) := by
        have h1 := HRW.out.range hkl 24 (.int .i64 (s.port k).w.age) (by rw [SS.port_get s hkl]; rfl)
        exact h1
      have hge : (0 : Int) ≤ s.root := by omega
      have wa : IntKind.i64.wrap ((s.port k).w.age + 1) = (s.port k).w.age + 1 := IntWalk.i64_in _ (by omega)
      clear ha hk
      go_wp2_with fail
      go_meet
      exact ⟨by rw [HE.out], rfl⟩
  case rest =>
    obtain ⟨rfl, rfl⟩ := hcut
    clear HE c32
    have hag := HA.out
    clear HA ha hr
    generalize s.age = ag at *
    obtain ⟨ag, ok⟩ := ag
    simp only at HF hag
    go_upto_region 6 with fail
    clear c13
    go_loopw [6, 7] (fun v6 v7 wr => ∃ i : Nat, i ≤ s.ports.length ∧ v7 = .int .i64 i ∧ Hid (ok = false → i = 0) ∧ Hid (ROutAt wr (w.heap.size + 1) v6 (s.tellsF (fun k => decide (only < 0) || (only == (k : Int))) ag i)) ∧ Below w.heap.size w wr ∧ Hid (RowIs wr w.heap.size 59 #[.int .u8 ((s.id.f 0).toNat : Int), .int .u8 ((s.id.f 1).toNat : Int), .int .u8 ((s.id.f 2).toNat : Int), .int .u8 ((s.id.f 3).toNat : Int), .int .u8 ((s.id.f 4).toNat : Int), .int .u8 ((s.id.f 5).toNat : Int), .int .u8 ((s.id.f 6).toNat : Int), .int .u8 ((s.id.f 7).toNat : Int), .int .i64 s.ma, .int .i64 s.he, .int .i64 s.de, .int .i64 s.now, .int .i64 s.chg, (.slice (some ⟨g, 0, none⟩) s.ports.length cap), .int .u8 ((s.best.r.f 0).toNat : Int), .int .u8 ((s.best.r.f 1).toNat : Int), .int .u8 ((s.best.r.f 2).toNat : Int), .int .u8 ((s.best.r.f 3).toNat : Int), .int .u8 ((s.best.r.f 4).toNat : Int), .int .u8 ((s.best.r.f 5).toNat : Int), .int .u8 ((s.best.r.f 6).toNat : Int), .int .u8 ((s.best.r.f 7).toNat : Int), .int .i64 s.best.c, .int .u8 ((s.best.b.f 0).toNat : Int), .int .u8 ((s.best.b.f 1).toNat : Int), .int .u8 ((s.best.b.f 2).toNat : Int), .int .u8 ((s.best.b.f 3).toNat : Int), .int .u8 ((s.best.b.f 4).toNat : Int), .int .u8 ((s.best.b.f 5).toNat : Int), .int .u8 ((s.best.b.f 6).toNat : Int), .int .u8 ((s.best.b.f 7).toNat : Int), .int .i64 s.best.p, .int .i64 s.root])) (fun _ v7 _ => s.ports.length - (intOf v7).toNat)
    case atStart => exact ⟨0, Nat.zero_le _, rfl, fun _ => rfl, rout_nil _ _, hbW, HX⟩
    case round =>
      clear HX HRW hlW hbW
      rename World => wr
      obtain ⟨i, hi, rfl, H0, HOUT, hbR, HX⟩ := hrel
      have c13 : wr.cell? ⟨w.heap.size, 13, none⟩ = some (.slice (some ⟨g, 0, none⟩) s.ports.length cap) := HX.out.cell 13
      have c8 : wr.cell? ⟨w.heap.size, 8, none⟩ = some (.int .i64 s.ma) := HX.out.cell 8
      by_cases hlt : i < s.ports.length
      · cases ok
        · have h0 := H0.out rfl
          subst h0
          have hmn : ¬ (ag < s.ma) := by have := hag.2.2; simp at this; omega
          clear hag
          have HF : Hid (s.tells (fun k => decide (only < 0) || (only == (k : Int))) = []) := HF.out
          go_wp2_with fail
          go_ret
          exact ⟨_, rfl, by rw [HF.out]; exact HOUT.out.lower (Nat.le_succ _), hbR⟩
        · have hmn : ag < s.ma := by have := hag.2.2; simpa using this.symm
          clear hag
          have HRW := Lib.hid (HR.out.later hbR)
          have crl : wr.cell? ⟨g, i * 30 + 1, none⟩ = some (.int .i64 (s.port i).role) := by
            have h1 := HRW.out.range hlt 1 (.int .i64 (s.port i).role) (by rw [SS.port_get s hlt]; rfl)
            exact h1
          have HN : Hid (s.tellsF (fun k => decide (only < 0) || (only == (k : Int))) ag (i + 1) = s.tellsF (fun k => decide (only < 0) || (only == (k : Int))) ag i ++ (if ((s.port i).role == 2 && (decide (only < 0) || (only == (i : Int)))) = true then [⟨i, s.word i ag⟩] else [])) := rfl
          have hkl := s.tellsF_len (fun k => decide (only < 0) || (only == (k : Int))) ag i
          have hpk : (decide (only < 0) || (only == (i : Int))) = true ∨ (decide (only < 0) || (only == (i : Int))) = false := by cases (decide (only < 0) || (only == (i : Int))) <;> simp
          generalize s.tellsF (fun k => decide (only < 0) || (only == (k : Int))) ag i = outs at *
          go_upto_region 8 with fail
          go_cut [48] (fun v wx => v = .bool ((s.port i).role == 2 && (decide (only < 0) || (only == (i : Int)))) ∧ wr = wx)
          case first =>
            clear HN
            cases hrl : ((s.port i).role == 2)
            · have H1 := Lib.hid hrl
              go_wp2_with fail
              go_meet
              exact ⟨by rw [H1.out]; rfl, rfl⟩
            · have H1 := Lib.hid hrl
              cases h1 : decide (only < 0)
              · have H2 := Lib.hid h1
                cases h2 : (only == (i : Int))
                · have H3 := Lib.hid h2
                  go_wp2_with fail
                  go_meet
                  exact ⟨by rw [H1.out, H2.out, H3.out]; rfl, rfl⟩
                · have H3 := Lib.hid h2
                  go_wp2_with fail
                  go_meet
                  exact ⟨by rw [H1.out, H2.out, H3.out]; rfl, rfl⟩
              · have H2 := Lib.hid h1
                go_wp2_with fail
                go_meet
                exact ⟨by rw [H1.out, H2.out]; rfl, rfl⟩
          case rest =>
            obtain ⟨rfl, rfl⟩ := hcut
            cases hc : ((s.port i).role == 2 && (decide (only < 0) || (only == (i : Int))))
            · rw [hc] at HN
              have HN : Hid (s.tellsF (fun k => decide (only < 0) || (only == (k : Int))) ag (i + 1) = outs ++ []) := HN.out
              clear crl
              go_wp2_with fail
              refine ⟨⟨i + 1, by omega, by go_num, fun h => absurd h (by decide), by rw [HN.out, List.append_nil]; exact HOUT, hbR, HX⟩, by simp [intOf]; omega⟩
            · rw [hc] at HN
              have HN : Hid (s.tellsF (fun k => decide (only < 0) || (only == (k : Int))) ag (i + 1) = outs ++ [⟨i, s.word i ag⟩]) := HN.out
              have HXC : Hid ((⟨i, s.word i ag⟩ : SO).cells = [.int .i64 (i : Nat), .int .u8 ((s.best.r.f 0).toNat : Int), .int .u8 ((s.best.r.f 1).toNat : Int), .int .u8 ((s.best.r.f 2).toNat : Int), .int .u8 ((s.best.r.f 3).toNat : Int), .int .u8 ((s.best.r.f 4).toNat : Int), .int .u8 ((s.best.r.f 5).toNat : Int), .int .u8 ((s.best.r.f 6).toNat : Int), .int .u8 ((s.best.r.f 7).toNat : Int), .int .u8 ((s.id.f 0).toNat : Int), .int .u8 ((s.id.f 1).toNat : Int), .int .u8 ((s.id.f 2).toNat : Int), .int .u8 ((s.id.f 3).toNat : Int), .int .u8 ((s.id.f 4).toNat : Int), .int .u8 ((s.id.f 5).toNat : Int), .int .u8 ((s.id.f 6).toNat : Int), .int .u8 ((s.id.f 7).toNat : Int), .int .i64 s.best.c, .int .i64 ((i : Int) + 1), .int .i64 ag, .int .i64 s.ma, .int .i64 s.he, .int .i64 s.de, .bool false, .bool false]) := rfl
              have HXL : Hid (∀ u ∈ (⟨i, s.word i ag⟩ : SO).cells, u.oneCell' = true) := by
                show ∀ u ∈ _, _
                rw [HXC.out]
                simp [Value.oneCell']
              generalize (⟨i, s.word i ag⟩ : SO) = x at *
              obtain ⟨la, lc, rfl, HO⟩ := HOUT.out
              have c22 : wr.cell? ⟨w.heap.size, 22, none⟩ = some (.int .i64 s.best.c) := HX.out.cell 22
              have c9 : wr.cell? ⟨w.heap.size, 9, none⟩ = some (.int .i64 s.he) := HX.out.cell 9
              have c10 : wr.cell? ⟨w.heap.size, 10, none⟩ = some (.int .i64 s.de) := HX.out.cell 10
              have wi : IntKind.i64.wrap ((i : Int) + 1) = (i : Int) + 1 := IntWalk.i64_in _ (by omega)
              have hbase : w.heap.size + 1 ≤ wr.heap.size := HX.out.lt
              obtain ⟨NB, hNB⟩ : ∃ NB, NB = wr.alloc (.cells #[.int .i64 (i : Nat), .int .u8 ((s.best.r.f 0).toNat : Int), .int .u8 ((s.best.r.f 1).toNat : Int), .int .u8 ((s.best.r.f 2).toNat : Int), .int .u8 ((s.best.r.f 3).toNat : Int), .int .u8 ((s.best.r.f 4).toNat : Int), .int .u8 ((s.best.r.f 5).toNat : Int), .int .u8 ((s.best.r.f 6).toNat : Int), .int .u8 ((s.best.r.f 7).toNat : Int), .int .u8 ((s.id.f 0).toNat : Int), .int .u8 ((s.id.f 1).toNat : Int), .int .u8 ((s.id.f 2).toNat : Int), .int .u8 ((s.id.f 3).toNat : Int), .int .u8 ((s.id.f 4).toNat : Int), .int .u8 ((s.id.f 5).toNat : Int), .int .u8 ((s.id.f 6).toNat : Int), .int .u8 ((s.id.f 7).toNat : Int), .int .i64 s.best.c, .int .i64 ((i : Int) + 1), .int .i64 ag, .int .i64 s.ma, .int .i64 s.he, .int .i64 s.de, .bool false, .bool false] 72) := ⟨_, rfl⟩
              have hbN : Below wr.heap.size wr NB := by rw [hNB]; exact (Below.refl _ _).alloc (Nat.le_refl _) _
              have R70 : Hid (RowIs NB wr.heap.size 72 #[.int .i64 (i : Nat), .int .u8 ((s.best.r.f 0).toNat : Int), .int .u8 ((s.best.r.f 1).toNat : Int), .int .u8 ((s.best.r.f 2).toNat : Int), .int .u8 ((s.best.r.f 3).toNat : Int), .int .u8 ((s.best.r.f 4).toNat : Int), .int .u8 ((s.best.r.f 5).toNat : Int), .int .u8 ((s.best.r.f 6).toNat : Int), .int .u8 ((s.best.r.f 7).toNat : Int), .int .u8 ((s.id.f 0).toNat : Int), .int .u8 ((s.id.f 1).toNat : Int), .int .u8 ((s.id.f 2).toNat : Int), .int .u8 ((s.id.f 3).toNat : Int), .int .u8 ((s.id.f 4).toNat : Int), .int .u8 ((s.id.f 5).toNat : Int), .int .u8 ((s.id.f 6).toNat : Int), .int .u8 ((s.id.f 7).toNat : Int), .int .i64 s.best.c, .int .i64 ((i : Int) + 1), .int .i64 ag, .int .i64 s.ma, .int .i64 s.he, .int .i64 s.de, .bool false, .bool false]) := by rw [hNB]; exact rowIs_new wr _ _
              have HO6 := Lib.hid (ownsLater' HO hbN)
              have hbR6 := hbR.trans (hbN.mono hbR.size)
              clear HO HOUT hc crl
              subst hNB
              go_wp2_with (first
                | ((with_reducible refine at_load 22 (.tmp 52) ?_); refine wpList_load_midW rfl 22 (.tmp 52) rfl (w.heap.size) (14) rfl [.int .u8 ((s.best.r.f 0).toNat : Int), .int .u8 ((s.best.r.f 1).toNat : Int), .int .u8 ((s.best.r.f 2).toNat : Int), .int .u8 ((s.best.r.f 3).toNat : Int), .int .u8 ((s.best.r.f 4).toNat : Int), .int .u8 ((s.best.r.f 5).toNat : Int), .int .u8 ((s.best.r.f 6).toNat : Int), .int .u8 ((s.best.r.f 7).toNat : Int)] _ (range_of_row HX.out rfl) Try.underlying22 rfl (by kernel_rfl) ?_)
                | ((with_reducible refine at_load 22 (.tmp 57) ?_); refine wpList_load_midW rfl 22 (.tmp 57) rfl (w.heap.size) (0) rfl [.int .u8 ((s.id.f 0).toNat : Int), .int .u8 ((s.id.f 1).toNat : Int), .int .u8 ((s.id.f 2).toNat : Int), .int .u8 ((s.id.f 3).toNat : Int), .int .u8 ((s.id.f 4).toNat : Int), .int .u8 ((s.id.f 5).toNat : Int), .int .u8 ((s.id.f 6).toNat : Int), .int .u8 ((s.id.f 7).toNat : Int)] _ (range_of_row HX.out rfl) Try.underlying22 rfl (by kernel_rfl) ?_)
                | (at_builtin; refine wpList_append_own _ rfl (.tmp 49) (.tmp 70) 66 rfl (w.heap.size + 1) 72 ti tz 25 80 Try.underlying66 HI.out HZ.out hz1 hz2 hz3 (by decide) _ outs.length _ rfl HO6.out ⟨wr.heap.size, 0, none⟩ 1 1 x.cells rfl ?c0 ?c1 ?c2 ?c3 ?c4 ?c5 ?_))
              case c0 => rw [HXC.out]; rfl
              case c1 =>
                intro j u hj
                rw [HXC.out] at hj
                first
                  | exact hj
                  | (rw [addr_add, R70.out.cell j, ← Array.getElem?_toList]; exact hj)
              case c2 => exact HXL.out
              case c3 => simp [maxLen]; omega
              case c4 => omega
              case c5 => first | exact hbase | omega | (simp; omega)
              intro v' w7 ho7 hg7 _
              have HO7 := Lib.hid (rout_app ho7)
              have hbAP : Below (w.heap.size + 1) _ w7 := (Below.refl _ _).grown hg7 (by first | exact hbase | exact Nat.le_trans hbase hbN.size | (trace_state; omega)) (fun k e1 => (HO6.out.lt k e1).1)
              have HX7 : Hid (RowIs w7 w.heap.size 59 #[.int .u8 ((s.id.f 0).toNat : Int), .int .u8 ((s.id.f 1).toNat : Int), .int .u8 ((s.id.f 2).toNat : Int), .int .u8 ((s.id.f 3).toNat : Int), .int .u8 ((s.id.f 4).toNat : Int), .int .u8 ((s.id.f 5).toNat : Int), .int .u8 ((s.id.f 6).toNat : Int), .int .u8 ((s.id.f 7).toNat : Int), .int .i64 s.ma, .int .i64 s.he, .int .i64 s.de, .int .i64 s.now, .int .i64 s.chg, (.slice (some ⟨g, 0, none⟩) s.ports.length cap), .int .u8 ((s.best.r.f 0).toNat : Int), .int .u8 ((s.best.r.f 1).toNat : Int), .int .u8 ((s.best.r.f 2).toNat : Int), .int .u8 ((s.best.r.f 3).toNat : Int), .int .u8 ((s.best.r.f 4).toNat : Int), .int .u8 ((s.best.r.f 5).toNat : Int), .int .u8 ((s.best.r.f 6).toNat : Int), .int .u8 ((s.best.r.f 7).toNat : Int), .int .i64 s.best.c, .int .u8 ((s.best.b.f 0).toNat : Int), .int .u8 ((s.best.b.f 1).toNat : Int), .int .u8 ((s.best.b.f 2).toNat : Int), .int .u8 ((s.best.b.f 3).toNat : Int), .int .u8 ((s.best.b.f 4).toNat : Int), .int .u8 ((s.best.b.f 5).toNat : Int), .int .u8 ((s.best.b.f 6).toNat : Int), .int .u8 ((s.best.b.f 7).toNat : Int), .int .i64 s.best.p, .int .i64 s.root]) := (HX.out.kept hbN).below hbAP (Nat.lt_succ_self _)
              have hbR7 := hbR6.trans (hbAP.mono (Nat.le_succ _))
              clear ho7 hg7 hbAP hbR6 HO6 HXC HXL HI HZ
              go_wp2_with fail
              refine ⟨⟨i + 1, by omega, by go_num, fun h => absurd h (by decide), by rw [HN.out]; exact HO7, hbR7, HX7⟩, by simp [intOf]; omega⟩
      · obtain rfl : i = s.ports.length := by omega
        have HFE : Hid (s.tells (fun k => decide (only < 0) || (only == (k : Int))) = s.tellsF (fun k => decide (only < 0) || (only == (k : Int))) ag s.ports.length) := by
          show _ = _
          rw [HF.out]
          cases ok
          · have h0 := H0.out rfl
            rw [h0]
            rfl
          · rfl
        go_wp2_with fail
        go_ret
        exact ⟨_, rfl, by rw [HFE.out]; exact HOUT.out.lower (Nat.le_succ _), hbR⟩
end Go.Proofs.Ytdhiaidbpjjljaa
