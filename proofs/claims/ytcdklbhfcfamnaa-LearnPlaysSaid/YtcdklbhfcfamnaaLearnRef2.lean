/- The document's table: Without, Older, Put. By an AI agent. -/
import Derived.Test.YtcdklbhfcfamnaaLearnRef
namespace Go.Proofs.Ytcdklbhfcfamnaa
open Go.RowKit Go.MapKept Go.Maps Go.WideShapes Go.Sort Grow

theorem info_rentry : ∃ i z, Try.prog.info? 51 = some i ∧ i.zero = some z ∧ i.size = 10 ∧ i.bytes = 32 ∧ z.cells.size = 10 := by
  have h : (Try.prog.info? 51).map (fun i => (i.zero.map (·.cells.size), i.size, i.bytes)) = some (some 10, 10, 32) := by kernel_rfl
  obtain ⟨i, hi, h⟩ := Option.map_eq_some_iff.1 h
  simp only [Prod.mk.injEq] at h
  obtain ⟨z, hz, h18⟩ := Option.map_eq_some_iff.1 h.1
  exact ⟨i, z, hi, hz, h.2.1, h.2.2, h18⟩
theorem info_rentrys : (Try.prog.info? 51).map (·.size) = some 10 := by kernel_rfl

/-- what is built so far -/
def OutAt (w : World) (base : Nat) (v : Value) (outs : List Ent) : Prop := ∃ la lc, v = .slice la outs.length lc ∧ w.ownsRow base 51 10 (.slice la outs.length lc) outs.length (outs.flatMap encE)
theorem out_nil (w : World) (base : Nat) : OutAt w base (.slice none 0 0) [] := ⟨none, 0, rfl, World.ownsRow_nil _ _ _ _⟩
theorem OutAt.later {w w' : World} {base : Nat} {v : Value} {outs : List Ent} (h : OutAt w base v outs) (hb : Below w.heap.size w w') : OutAt w' base v outs := by
  obtain ⟨la, lc, e, h⟩ := h
  exact ⟨la, lc, e, ownsLater' h hb⟩
theorem out_app {w : World} {base : Nat} {v : Value} {outs : List Ent} {x : Ent} (h : w.ownsRow base 51 10 v (outs.length + 1) (outs.flatMap encE ++ encE x)) : OutAt w base v (outs ++ [x]) := by
  obtain ⟨la, lc, rfl⟩ : ∃ la lc, v = .slice la (outs.length + 1) lc := by
    rcases h.2 with ⟨_, e0⟩ | ⟨g', c', _, e', _⟩
    · omega
    · exact ⟨_, _, e'⟩
  refine ⟨la, lc, by simp, ?_⟩
  rw [List.flatMap_append, List.length_append]
  simpa using h
theorem out_many {w : World} {base : Nat} {v : Value} {outs : List Ent} (h : OutAt w base v outs) : ∃ ao cap, v = .slice ao outs.length cap ∧ ManyAt w ao encE 10 outs := by
  obtain ⟨la, lc, rfl, h⟩ := h
  refine ⟨la, lc, rfl, ?_⟩
  rcases h.2 with ⟨_, e0⟩ | ⟨g, c', cur, e1, hB', hgr, hle, hm, hcs, ht⟩
  · exact .inl (List.eq_nil_of_length_eq_zero e0)
  · simp only [Value.slice.injEq] at e1
    refine .inr ⟨g, 0, e1.1, (Array.getElem?_eq_some_iff.1 hgr).1, fun i hi j v hj => ?_⟩
    have hj10 : j < 10 := (List.getElem?_eq_some_iff.1 hj).1
    have hR : RowIs w g 51 cur := hgr
    have ht2 : i * 10 + j < outs.length * 10 := by omega
    rw [Nat.zero_add, hR.cell]
    have h1 := flat_get (ds := outs) (i * 10 + j) ht2
    rw [← ht, List.getElem?_take_of_lt ht2, Array.getElem?_toList] at h1
    rw [h1, show (i * 10 + j) / 10 = i from by omega, show (i * 10 + j) % 10 = j from by omega, getElem!_pos outs i hi, ← hj, List.getElem!_eq_getElem?_getD, hj]
    rfl
theorem take_filter {α : Type} (f : α → Bool) (ds : List α) (i : Nat) (hi : i < ds.length) : (ds.take (i + 1)).filter f = (ds.take i).filter f ++ (if f ds[i] then [ds[i]] else []) := by
  rw [List.take_add_one, List.getElem?_eq_getElem hi, List.filter_append]
  congr 1
  show List.filter f [ds[i]] = _
  cases hk : f ds[i] <;> simp [hk]
theorem take_snoc {α : Type} (ds : List α) (i : Nat) (hi : i < ds.length) : ds.take (i + 1) = ds.take i ++ [ds[i]] := by
  rw [List.take_add_one, List.getElem?_eq_getElem hi]
  rfl

/-- what stays, by the document -/
def keepW (age port : Int) (e : Ent) : Bool := e.fixed || (decide (port < 0) && decide (e.age ≤ age)) || (decide (0 ≤ port) && decide (e.port ≠ port))
def agedR (e : Ent) : Ent := if e.fixed then e else e.older
def keepO (ageing : Int) (e : Ent) : Bool := e.fixed || decide (e.age < ageing)

set_option maxRecDepth 20000 in
set_option maxHeartbeats 4000000 in
theorem without_any (ao : Option Addr) (l : List Ent) (cap : Nat) (age port : Int) (w : World) (h : ManyAt w ao encE 10 l) (hl : l.length ≤ 1000) : Calls Try.prog 21 #[.slice ao l.length cap, .int .i64 age, .int .i64 port] w
    fun e w' => ∃ ao' cap', e = .returned (.tuple #[.slice ao' (l.filter (keepW age port)).length cap', .int .i64 ((l.length : Int) - ((l.filter (keepW age port)).length : Nat))]) ∧ ManyAt w' ao' encE 10 (l.filter (keepW age port)) ∧ Below w.heap.size w w' := by
  have HA := Lib.hid h
  obtain ⟨ti, tz, hi, hzz, hz1, hz2, hz3⟩ := info_rentry
  have HI := Lib.hid hi
  have HZ := Lib.hid hzz
  clear h hi hzz
  go_enter Try.func21, Try.ntmps21
  go_upto_region 2 with fail
  go_wp2_with fail
  go_loopw [8, 9] (fun s8 s9 wr => ∃ i : Nat, i ≤ l.length ∧ s9 = .int .i64 i ∧ Hid (OutAt wr w.heap.size s8 ((l.take i).filter (keepW age port))) ∧ Below w.heap.size w wr) (fun _ s9 _ => l.length - (intOf s9).toNat)
  case atStart => exact ⟨0, Nat.zero_le _, rfl, out_nil _ _, Below.refl _ _⟩
  case round =>
    rename_i wr
    obtain ⟨i, hi, rfl, HOUT, hbW⟩ := hrel
    by_cases hlt : i < l.length
    · obtain ⟨b, off, hao, hbl, hcell⟩ := (HA.out.later hbW).range hlt
      subst hao
      have HNEXT := Lib.hid (take_filter (keepW age port) l i hlt)
      have hkl : ((l.take i).filter (keepW age port)).length ≤ 1000 := Nat.le_trans (List.length_filter_le _ _) (by rw [List.length_take]; omega)
      have HR := Lib.hid (show wr.rangeAt b (off + i * 10) (encE l[i]) from hcell)
      clear hcell
      generalize l[i] = d at *
      generalize (l.take i).filter (keepW age port) = outs at *
      have HR := Lib.hid (show wr.rangeAt b (off + i * 10) [.int .i64 d.v, .int .i64 d.port, .int .i64 d.age, .int .u8 (d.m.a.toNat : Int), .int .u8 (d.m.b.toNat : Int), .int .u8 (d.m.c.toNat : Int), .int .u8 (d.m.d.toNat : Int), .int .u8 (d.m.e.toNat : Int), .int .u8 (d.m.f.toNat : Int), .bool d.fixed] from HR.out)
      go_upto_region 6 with ((with_reducible refine at_load 51 (.tmp 19) ?_); refine wpList_load_midW rfl 51 (.tmp 19) rfl b (off + i * 10) rfl [.int .i64 d.v, .int .i64 d.port, .int .i64 d.age, .int .u8 (d.m.a.toNat : Int), .int .u8 (d.m.b.toNat : Int), .int .u8 (d.m.c.toNat : Int), .int .u8 (d.m.d.toNat : Int), .int .u8 (d.m.e.toNat : Int), .int .u8 (d.m.f.toNat : Int), .bool d.fixed] _ HR.out Try.underlying51 rfl info_rentrys ?_)
      have RX0 := rowIs_new wr 51 #[.int .i64 d.v, .int .i64 d.port, .int .i64 d.age, .int .u8 (d.m.a.toNat : Int), .int .u8 (d.m.b.toNat : Int), .int .u8 (d.m.c.toNat : Int), .int .u8 (d.m.d.toNat : Int), .int .u8 (d.m.e.toNat : Int), .int .u8 (d.m.f.toNat : Int), .bool d.fixed]
      have hb3 : Below wr.heap.size wr (wr.alloc (.cells #[.int .i64 d.v, .int .i64 d.port, .int .i64 d.age, .int .u8 (d.m.a.toNat : Int), .int .u8 (d.m.b.toNat : Int), .int .u8 (d.m.c.toNat : Int), .int .u8 (d.m.d.toNat : Int), .int .u8 (d.m.e.toNat : Int), .int .u8 (d.m.f.toNat : Int), .bool d.fixed] 51)) := (Below.refl _ wr).alloc (Nat.le_refl _) _
      have HOUT := Lib.hid (HOUT.out.later hb3)
      have hbW3 := hbW.trans (hb3.mono hbW.size)
      have RX := Lib.hid RX0
      have c1 : (wr.alloc (.cells #[.int .i64 d.v, .int .i64 d.port, .int .i64 d.age, .int .u8 (d.m.a.toNat : Int), .int .u8 (d.m.b.toNat : Int), .int .u8 (d.m.c.toNat : Int), .int .u8 (d.m.d.toNat : Int), .int .u8 (d.m.e.toNat : Int), .int .u8 (d.m.f.toNat : Int), .bool d.fixed] 51)).cell? ⟨wr.heap.size, 1, none⟩ = some (.int .i64 d.port) := RX0.cell 1
      have c2 : (wr.alloc (.cells #[.int .i64 d.v, .int .i64 d.port, .int .i64 d.age, .int .u8 (d.m.a.toNat : Int), .int .u8 (d.m.b.toNat : Int), .int .u8 (d.m.c.toNat : Int), .int .u8 (d.m.d.toNat : Int), .int .u8 (d.m.e.toNat : Int), .int .u8 (d.m.f.toNat : Int), .bool d.fixed] 51)).cell? ⟨wr.heap.size, 2, none⟩ = some (.int .i64 d.age) := RX0.cell 2
      have c4 : (wr.alloc (.cells #[.int .i64 d.v, .int .i64 d.port, .int .i64 d.age, .int .u8 (d.m.a.toNat : Int), .int .u8 (d.m.b.toNat : Int), .int .u8 (d.m.c.toNat : Int), .int .u8 (d.m.d.toNat : Int), .int .u8 (d.m.e.toNat : Int), .int .u8 (d.m.f.toNat : Int), .bool d.fixed] 51)).cell? ⟨wr.heap.size, 9, none⟩ = some (.bool d.fixed) := RX0.cell 9
      clear RX0 hb3 HR hbW
      generalize (wr.alloc (.cells #[.int .i64 d.v, .int .i64 d.port, .int .i64 d.age, .int .u8 (d.m.a.toNat : Int), .int .u8 (d.m.b.toNat : Int), .int .u8 (d.m.c.toNat : Int), .int .u8 (d.m.d.toNat : Int), .int .u8 (d.m.e.toNat : Int), .int .u8 (d.m.f.toNat : Int), .bool d.fixed] 51)) = w3 at *
      go_cut [42] (fun v wx => v = .bool (keepW age port d) ∧ w3 = wx)
      case first =>
        cases hf : d.fixed
        · rw [hf] at c4
          by_cases hp : port < 0
          · have p1 : decide (port < 0) = true := decide_eq_true hp
            have p2 : decide (0 ≤ port) = false := decide_eq_false (by omega)
            have p3 : (port ≥ 0) = False := eq_false (by omega)
            by_cases ha : d.age ≤ age
            · have HKW := Lib.hid (show keepW age port d = true by unfold keepW; rw [hf, p1, decide_eq_true ha]; rfl)
              clear hf
              go_wp2_with fail
              go_meet
              exact ⟨by rw [HKW.out], rfl⟩
            · have a1 : decide (d.age ≤ age) = false := decide_eq_false ha
              have HKW := Lib.hid (show keepW age port d = false by unfold keepW; rw [hf, p1, p2, a1]; rfl)
              clear hf
              go_wp2_with fail
              go_meet
              exact ⟨by rw [HKW.out], rfl⟩
          · have p1 : decide (port < 0) = false := decide_eq_false hp
            have p2 : decide (0 ≤ port) = true := decide_eq_true (by omega)
            have p3 : (port ≥ 0) = True := eq_true (by omega)
            by_cases hq : d.port = port
            · have q1 : (d.port != port) = false := by rw [hq]; simp
              have HKW := Lib.hid (show keepW age port d = false by unfold keepW; rw [hf, p1, p2, decide_eq_false (show ¬ d.port ≠ port from fun h => h hq)]; rfl)
              clear hf
              go_wp2_with fail
              go_meet
              exact ⟨by rw [HKW.out], rfl⟩
            · have q1 : (d.port != port) = true := bne_iff_ne.2 hq
              have HKW := Lib.hid (show keepW age port d = true by unfold keepW; rw [hf, p1, p2, decide_eq_true hq]; rfl)
              clear hf
              go_wp2_with fail
              go_meet
              exact ⟨by rw [HKW.out], rfl⟩
        · rw [hf] at c4
          have HKW := Lib.hid (show keepW age port d = true by unfold keepW; rw [hf]; rfl)
          clear hf
          go_wp2_with fail
          go_meet
          exact ⟨by rw [HKW.out], rfl⟩
      case rest =>
        obtain ⟨rfl, rfl⟩ := hcut
        clear c1 c2 c4
        have hbase : w.heap.size ≤ w3.heap.size := hbW3.size
        cases hk : keepW age port d
        · have HE : Hid ((l.take (i + 1)).filter (keepW age port) = outs) := by
            show _ = _
            rw [HNEXT.out, hk]
            simp
          have HO5 := HOUT
          rw [← HE.out] at HO5
          clear hk HE HOUT
          go_wp2_with fail
          refine ⟨⟨i + 1, by omega, by go_num, HO5, hbW3⟩, by simp [intOf]; omega⟩
        · have HNX : Hid ((l.take (i + 1)).filter (keepW age port) = outs ++ [d]) := by
            show _ = _
            rw [HNEXT.out, hk]
            rfl
          clear hk
          obtain ⟨la, lc, rfl, HO⟩ := HOUT.out
          have hbB : Below w3.heap.size w3 (w3.alloc (.cells #[.int .i64 d.v, .int .i64 d.port, .int .i64 d.age, .int .u8 (d.m.a.toNat : Int), .int .u8 (d.m.b.toNat : Int), .int .u8 (d.m.c.toNat : Int), .int .u8 (d.m.d.toNat : Int), .int .u8 (d.m.e.toNat : Int), .int .u8 (d.m.f.toNat : Int), .bool d.fixed] 51)) := (Below.refl _ w3).alloc (Nat.le_refl _) _
          have HO4 := Lib.hid (ownsLater' HO hbB)
          have RB : Hid (RowIs (w3.alloc (.cells #[.int .i64 d.v, .int .i64 d.port, .int .i64 d.age, .int .u8 (d.m.a.toNat : Int), .int .u8 (d.m.b.toNat : Int), .int .u8 (d.m.c.toNat : Int), .int .u8 (d.m.d.toNat : Int), .int .u8 (d.m.e.toNat : Int), .int .u8 (d.m.f.toNat : Int), .bool d.fixed] 51)) w3.heap.size 51 #[.int .i64 d.v, .int .i64 d.port, .int .i64 d.age, .int .u8 (d.m.a.toNat : Int), .int .u8 (d.m.b.toNat : Int), .int .u8 (d.m.c.toNat : Int), .int .u8 (d.m.d.toNat : Int), .int .u8 (d.m.e.toNat : Int), .int .u8 (d.m.f.toNat : Int), .bool d.fixed]) := rowIs_new w3 _ _
          have HOB := Lib.hid (Nat.le_trans hbase hbB.size)
          clear HO
          go_wp2_with (first
            | ((with_reducible refine at_load 51 (.tmp 10) ?_); refine wpList_load_own rfl 51 (.tmp 10) rfl _ rfl _ _ _ RX.out Try.underlying51 rfl info_rentrys ?_)
            | (at_builtin; refine wpList_append_own _ rfl (.tmp 43) (.tmp 45) 47 rfl w.heap.size 51 ti tz 10 32 Try.underlying47 HI.out HZ.out hz1 hz2 hz3 (by decide) _ (outs).length _ rfl HO4.out ⟨w3.heap.size, 0, none⟩ 1 1 (encE d) rfl ?c0 ?c1 ?c2 ?c3 ?c4 ?c5 ?_))
          case c0 => rfl
          case c1 =>
            intro j u hj
            first | (rw [addr_add, RB.out.cell j, ← Array.getElem?_toList]; exact hj) | exact hj
          case c2 =>
            intro u hu
            simp only [encE, List.mem_cons, List.not_mem_nil, or_false] at hu
            rcases hu with rfl | rfl | rfl | rfl | rfl | rfl | rfl | rfl | rfl | rfl <;> rfl
          case c3 => simp [maxLen]; omega
          case c4 => omega
          case c5 => first | exact HOB.out | omega | (simp; omega)
          intro v' w4 ho4 hg4 _
          have HO5 := Lib.hid (out_app ho4)
          have hbAP : Below w.heap.size w3 w4 := (hbB.mono hbase).grown hg4 (Nat.le_trans hbase hbB.size) (fun k e1 => (HO4.out.lt k e1).1)
          clear ho4 hg4 HO4 RB hbB HOB
          have hbW4 := hbW3.trans hbAP
          have HO6 : Hid (OutAt w4 w.heap.size v' ((l.take (i + 1)).filter (keepW age port))) := by
            show OutAt _ _ _ _
            rw [HNX.out]
            exact HO5.out
          clear HO5 hbAP HNX
          go_wp2_with fail
          refine ⟨⟨i + 1, by omega, by go_num, HO6, hbW4⟩, by simp [intOf]; omega⟩
    · obtain rfl : i = l.length := by omega
      rw [List.take_length] at HOUT
      obtain ⟨ao', cap', rfl, hM⟩ := out_many HOUT.out
      have HM := Lib.hid hM
      have hle : (l.filter (keepW age port)).length ≤ l.length := List.length_filter_le _ _
      clear hM HOUT
      generalize hE : l.filter (keepW age port) = outs at *
      have HE := Lib.hid hE
      clear hE
      go_wp2_with fail
      go_ret2
      rw [HE.out]
      exact ⟨ao', cap', rfl, HM.out, hbW⟩

set_option maxRecDepth 20000 in
set_option maxHeartbeats 4000000 in
theorem older_any (ao : Option Addr) (l : List Ent) (cap : Nat) (ageing : Int) (w : World) (h : ManyAt w ao encE 10 l) (hl : l.length ≤ 1000) (hag : ∀ e ∈ l, 0 ≤ e.age ∧ e.age ≤ 1000000000) : Calls Try.prog 20 #[.slice ao l.length cap, .int .i64 ageing] w
    fun e w' => ∃ ao' cap', e = .returned (.slice ao' ((l.map agedR).filter (keepO ageing)).length cap') ∧ ManyAt w' ao' encE 10 ((l.map agedR).filter (keepO ageing)) ∧ Below w.heap.size w w' := by
  have HA := Lib.hid h
  have HAG := Lib.hid hag
  obtain ⟨ti, tz, hi, hzz, hz1, hz2, hz3⟩ := info_rentry
  have HI := Lib.hid hi
  have HZ := Lib.hid hzz
  clear h hi hzz hag
  go_enter Try.func20, Try.ntmps20
  go_upto_region 2 with fail
  go_wp2_with fail
  go_loopw [5, 6] (fun s5 s6 wr => ∃ i : Nat, i ≤ l.length ∧ s6 = .int .i64 i ∧ Hid (OutAt wr w.heap.size s5 (((l.take i).map agedR).filter (keepO ageing))) ∧ Below w.heap.size w wr) (fun _ s6 _ => l.length - (intOf s6).toNat)
  case atStart => exact ⟨0, Nat.zero_le _, rfl, out_nil _ _, Below.refl _ _⟩
  case round =>
    rename_i wr
    obtain ⟨i, hi, rfl, HOUT, hbW⟩ := hrel
    by_cases hlt : i < l.length
    · obtain ⟨b, off, hao, hbl, hcell⟩ := (HA.out.later hbW).range hlt
      subst hao
      have HNEXT : Hid (((l.take (i + 1)).map agedR).filter (keepO ageing) = ((l.take i).map agedR).filter (keepO ageing) ++ (if keepO ageing (agedR l[i]) then [agedR l[i]] else [])) := by
        show _ = _
        rw [take_snoc l i hlt, List.map_append, List.filter_append]
        congr 1
        show List.filter (keepO ageing) [agedR l[i]] = _
        cases hk : keepO ageing (agedR l[i]) <;> simp [hk]
      have hkl : (((l.take i).map agedR).filter (keepO ageing)).length ≤ 1000 := Nat.le_trans (List.length_filter_le _ _) (by rw [List.length_map, List.length_take]; omega)
      have hga := HAG.out l[i] (List.getElem_mem hlt)
      have HR := Lib.hid (show wr.rangeAt b (off + i * 10) (encE l[i]) from hcell)
      clear hcell
      generalize l[i] = d at *
      generalize ((l.take i).map agedR).filter (keepO ageing) = outs at *
      have HR := Lib.hid (show wr.rangeAt b (off + i * 10) [.int .i64 d.v, .int .i64 d.port, .int .i64 d.age, .int .u8 (d.m.a.toNat : Int), .int .u8 (d.m.b.toNat : Int), .int .u8 (d.m.c.toNat : Int), .int .u8 (d.m.d.toNat : Int), .int .u8 (d.m.e.toNat : Int), .int .u8 (d.m.f.toNat : Int), .bool d.fixed] from HR.out)
      cases hf : d.fixed
      · rw [hf] at HR
        have ex : agedR d = d.older := by unfold agedR; rw [hf]; rfl
        have HX := Lib.hid (show (#[.int .i64 d.older.v, .int .i64 d.older.port, .int .i64 d.older.age, .int .u8 (d.older.m.a.toNat : Int), .int .u8 (d.older.m.b.toNat : Int), .int .u8 (d.older.m.c.toNat : Int), .int .u8 (d.older.m.d.toNat : Int), .int .u8 (d.older.m.e.toNat : Int), .int .u8 (d.older.m.f.toNat : Int), .bool d.older.fixed] : Array Value) = #[.int .i64 d.v, .int .i64 d.port, .int .i64 (d.age + 1), .int .u8 (d.m.a.toNat : Int), .int .u8 (d.m.b.toNat : Int), .int .u8 (d.m.c.toNat : Int), .int .u8 (d.m.d.toNat : Int), .int .u8 (d.m.e.toNat : Int), .int .u8 (d.m.f.toNat : Int), .bool false] by unfold Ent.older; rw [hf])
        rw [ex] at HNEXT
        by_cases hk : d.age + 1 < ageing
        · have k1 : decide (d.age + 1 < ageing) = true := decide_eq_true hk
          have ek : keepO ageing d.older = true := by
            unfold keepO
            rw [show d.older.age = d.age + 1 from rfl, k1, Bool.or_true]
          rw [ek] at HNEXT
          replace HNEXT : Hid (((l.take (i + 1)).map agedR).filter (keepO ageing) = outs ++ [d.older]) := HNEXT.out
          have wa : wrap64 (d.age + 1) = d.age + 1 := by unfold wrap64; omega
          clear hf ex ek
          have HX2 := HX
          obtain ⟨x, hx⟩ : ∃ x, x = d.older := ⟨_, rfl⟩
          rw [← hx] at HX HX2 HNEXT
          clear hx HX2
          go_upto_region 9 with ((with_reducible refine at_load 51 (.tmp 16) ?_); refine wpList_load_midW rfl 51 (.tmp 16) rfl b (off + i * 10) rfl [.int .i64 d.v, .int .i64 d.port, .int .i64 d.age, .int .u8 (d.m.a.toNat : Int), .int .u8 (d.m.b.toNat : Int), .int .u8 (d.m.c.toNat : Int), .int .u8 (d.m.d.toNat : Int), .int .u8 (d.m.e.toNat : Int), .int .u8 (d.m.f.toNat : Int), .bool false] _ HR.out Try.underlying51 rfl info_rentrys ?_)
          have RX0 := rowIs_new wr 51 #[.int .i64 d.v, .int .i64 d.port, .int .i64 (d.age + 1), .int .u8 (d.m.a.toNat : Int), .int .u8 (d.m.b.toNat : Int), .int .u8 (d.m.c.toNat : Int), .int .u8 (d.m.d.toNat : Int), .int .u8 (d.m.e.toNat : Int), .int .u8 (d.m.f.toNat : Int), .bool false]
          have hb3 : Below wr.heap.size wr (wr.alloc (.cells #[.int .i64 d.v, .int .i64 d.port, .int .i64 (d.age + 1), .int .u8 (d.m.a.toNat : Int), .int .u8 (d.m.b.toNat : Int), .int .u8 (d.m.c.toNat : Int), .int .u8 (d.m.d.toNat : Int), .int .u8 (d.m.e.toNat : Int), .int .u8 (d.m.f.toNat : Int), .bool false] 51)) := (Below.refl _ wr).alloc (Nat.le_refl _) _
          have HOUT := Lib.hid (HOUT.out.later hb3)
          have hbW3 := hbW.trans (hb3.mono hbW.size)
          have RX : Hid (RowIs (wr.alloc (.cells #[.int .i64 d.v, .int .i64 d.port, .int .i64 (d.age + 1), .int .u8 (d.m.a.toNat : Int), .int .u8 (d.m.b.toNat : Int), .int .u8 (d.m.c.toNat : Int), .int .u8 (d.m.d.toNat : Int), .int .u8 (d.m.e.toNat : Int), .int .u8 (d.m.f.toNat : Int), .bool false] 51)) wr.heap.size 51 #[.int .i64 x.v, .int .i64 x.port, .int .i64 x.age, .int .u8 (x.m.a.toNat : Int), .int .u8 (x.m.b.toNat : Int), .int .u8 (x.m.c.toNat : Int), .int .u8 (x.m.d.toNat : Int), .int .u8 (x.m.e.toNat : Int), .int .u8 (x.m.f.toNat : Int), .bool x.fixed]) := by
            show RowIs _ _ _ _
            rw [HX.out]
            exact RX0
          clear RX0 hb3 HR hbW
          generalize (wr.alloc (.cells #[.int .i64 d.v, .int .i64 d.port, .int .i64 (d.age + 1), .int .u8 (d.m.a.toNat : Int), .int .u8 (d.m.b.toNat : Int), .int .u8 (d.m.c.toNat : Int), .int .u8 (d.m.d.toNat : Int), .int .u8 (d.m.e.toNat : Int), .int .u8 (d.m.f.toNat : Int), .bool false] 51)) = w3 at *
          have hbase : w.heap.size ≤ w3.heap.size := hbW3.size
          clear HX
          obtain ⟨la, lc, rfl, HO⟩ := HOUT.out
          have hbB : Below w3.heap.size w3 (w3.alloc (.cells #[.int .i64 x.v, .int .i64 x.port, .int .i64 x.age, .int .u8 (x.m.a.toNat : Int), .int .u8 (x.m.b.toNat : Int), .int .u8 (x.m.c.toNat : Int), .int .u8 (x.m.d.toNat : Int), .int .u8 (x.m.e.toNat : Int), .int .u8 (x.m.f.toNat : Int), .bool x.fixed] 51)) := (Below.refl _ w3).alloc (Nat.le_refl _) _
          have HO4 := Lib.hid (ownsLater' HO hbB)
          have RB : Hid (RowIs (w3.alloc (.cells #[.int .i64 x.v, .int .i64 x.port, .int .i64 x.age, .int .u8 (x.m.a.toNat : Int), .int .u8 (x.m.b.toNat : Int), .int .u8 (x.m.c.toNat : Int), .int .u8 (x.m.d.toNat : Int), .int .u8 (x.m.e.toNat : Int), .int .u8 (x.m.f.toNat : Int), .bool x.fixed] 51)) w3.heap.size 51 #[.int .i64 x.v, .int .i64 x.port, .int .i64 x.age, .int .u8 (x.m.a.toNat : Int), .int .u8 (x.m.b.toNat : Int), .int .u8 (x.m.c.toNat : Int), .int .u8 (x.m.d.toNat : Int), .int .u8 (x.m.e.toNat : Int), .int .u8 (x.m.f.toNat : Int), .bool x.fixed]) := rowIs_new w3 _ _
          have HOB := Lib.hid (Nat.le_trans hbase hbB.size)
          clear HO
          go_wp2_with (first
            | ((with_reducible refine at_load 51 (.tmp 7) ?_); refine wpList_load_own rfl 51 (.tmp 7) rfl _ rfl _ _ _ RX.out Try.underlying51 rfl info_rentrys ?_)
            | (at_builtin; refine wpList_append_own _ rfl (.tmp 33) (.tmp 35) 47 rfl w.heap.size 51 ti tz 10 32 Try.underlying47 HI.out HZ.out hz1 hz2 hz3 (by decide) _ (outs).length _ rfl HO4.out ⟨w3.heap.size, 0, none⟩ 1 1 (encE x) rfl ?c0 ?c1 ?c2 ?c3 ?c4 ?c5 ?_))
          case c0 => rfl
          case c1 =>
            intro j u hj
            first | (rw [addr_add, RB.out.cell j, ← Array.getElem?_toList]; exact hj) | exact hj
          case c2 =>
            intro u hu
            simp only [encE, List.mem_cons, List.not_mem_nil, or_false] at hu
            rcases hu with rfl | rfl | rfl | rfl | rfl | rfl | rfl | rfl | rfl | rfl <;> rfl
          case c3 => simp [maxLen]; omega
          case c4 => omega
          case c5 => first | exact HOB.out | omega | (simp; omega)
          intro v' w4 ho4 hg4 _
          have HO5 := Lib.hid (out_app ho4)
          have hbAP : Below w.heap.size w3 w4 := (hbB.mono hbase).grown hg4 (Nat.le_trans hbase hbB.size) (fun k e1 => (HO4.out.lt k e1).1)
          clear ho4 hg4 HO4 RB hbB HOB
          have hbW4 := hbW3.trans hbAP
          have HO6 : Hid (OutAt w4 w.heap.size v' (((l.take (i + 1)).map agedR).filter (keepO ageing))) := by
            show OutAt _ _ _ _
            rw [HNEXT.out]
            exact HO5.out
          clear HO5 hbAP
          go_wp2_with fail
          refine ⟨⟨i + 1, by omega, by go_num, HO6, hbW4⟩, by simp [intOf]; omega⟩
        · have k1 : decide (d.age + 1 < ageing) = false := decide_eq_false hk
          have ek : keepO ageing d.older = false := by
            unfold keepO
            rw [show d.older.age = d.age + 1 from rfl, show d.older.fixed = d.fixed from rfl, hf, k1]
            rfl
          rw [ek] at HNEXT
          replace HNEXT : Hid (((l.take (i + 1)).map agedR).filter (keepO ageing) = outs ++ []) := HNEXT.out
          have wa : wrap64 (d.age + 1) = d.age + 1 := by unfold wrap64; omega
          clear hf ex ek
          obtain ⟨x, hx⟩ : ∃ x, x = d.older := ⟨_, rfl⟩
          rw [← hx] at HX
          clear hx
          go_upto_region 4 with ((with_reducible refine at_load 51 (.tmp 16) ?_); refine wpList_load_midW rfl 51 (.tmp 16) rfl b (off + i * 10) rfl [.int .i64 d.v, .int .i64 d.port, .int .i64 d.age, .int .u8 (d.m.a.toNat : Int), .int .u8 (d.m.b.toNat : Int), .int .u8 (d.m.c.toNat : Int), .int .u8 (d.m.d.toNat : Int), .int .u8 (d.m.e.toNat : Int), .int .u8 (d.m.f.toNat : Int), .bool false] _ HR.out Try.underlying51 rfl info_rentrys ?_)
          have RX0 := rowIs_new wr 51 #[.int .i64 d.v, .int .i64 d.port, .int .i64 (d.age + 1), .int .u8 (d.m.a.toNat : Int), .int .u8 (d.m.b.toNat : Int), .int .u8 (d.m.c.toNat : Int), .int .u8 (d.m.d.toNat : Int), .int .u8 (d.m.e.toNat : Int), .int .u8 (d.m.f.toNat : Int), .bool false]
          have hb3 : Below wr.heap.size wr (wr.alloc (.cells #[.int .i64 d.v, .int .i64 d.port, .int .i64 (d.age + 1), .int .u8 (d.m.a.toNat : Int), .int .u8 (d.m.b.toNat : Int), .int .u8 (d.m.c.toNat : Int), .int .u8 (d.m.d.toNat : Int), .int .u8 (d.m.e.toNat : Int), .int .u8 (d.m.f.toNat : Int), .bool false] 51)) := (Below.refl _ wr).alloc (Nat.le_refl _) _
          have HOUT := Lib.hid (HOUT.out.later hb3)
          have hbW3 := hbW.trans (hb3.mono hbW.size)
          have RX : Hid (RowIs (wr.alloc (.cells #[.int .i64 d.v, .int .i64 d.port, .int .i64 (d.age + 1), .int .u8 (d.m.a.toNat : Int), .int .u8 (d.m.b.toNat : Int), .int .u8 (d.m.c.toNat : Int), .int .u8 (d.m.d.toNat : Int), .int .u8 (d.m.e.toNat : Int), .int .u8 (d.m.f.toNat : Int), .bool false] 51)) wr.heap.size 51 #[.int .i64 x.v, .int .i64 x.port, .int .i64 x.age, .int .u8 (x.m.a.toNat : Int), .int .u8 (x.m.b.toNat : Int), .int .u8 (x.m.c.toNat : Int), .int .u8 (x.m.d.toNat : Int), .int .u8 (x.m.e.toNat : Int), .int .u8 (x.m.f.toNat : Int), .bool x.fixed]) := by
            show RowIs _ _ _ _
            rw [HX.out]
            exact RX0
          clear RX0 hb3 HR hbW
          generalize (wr.alloc (.cells #[.int .i64 d.v, .int .i64 d.port, .int .i64 (d.age + 1), .int .u8 (d.m.a.toNat : Int), .int .u8 (d.m.b.toNat : Int), .int .u8 (d.m.c.toNat : Int), .int .u8 (d.m.d.toNat : Int), .int .u8 (d.m.e.toNat : Int), .int .u8 (d.m.f.toNat : Int), .bool false] 51)) = w3 at *
          have HE : Hid (((l.take (i + 1)).map agedR).filter (keepO ageing) = outs) := by
            show _ = _
            rw [HNEXT.out]
            simp
          have HO5 := HOUT
          rw [← HE.out] at HO5
          clear HE HOUT
          go_wp2_with fail
          refine ⟨⟨i + 1, by omega, by go_num, HO5, hbW3⟩, by simp [intOf]; omega⟩
      · rw [hf] at HR
        have ex : agedR d = d := by unfold agedR; rw [hf]; rfl
        have ek : keepO ageing d = true := by unfold keepO; rw [hf]; rfl
        have HX := Lib.hid (show (#[.int .i64 d.v, .int .i64 d.port, .int .i64 d.age, .int .u8 (d.m.a.toNat : Int), .int .u8 (d.m.b.toNat : Int), .int .u8 (d.m.c.toNat : Int), .int .u8 (d.m.d.toNat : Int), .int .u8 (d.m.e.toNat : Int), .int .u8 (d.m.f.toNat : Int), .bool d.fixed] : Array Value) = #[.int .i64 d.v, .int .i64 d.port, .int .i64 d.age, .int .u8 (d.m.a.toNat : Int), .int .u8 (d.m.b.toNat : Int), .int .u8 (d.m.c.toNat : Int), .int .u8 (d.m.d.toNat : Int), .int .u8 (d.m.e.toNat : Int), .int .u8 (d.m.f.toNat : Int), .bool true] by rw [hf])
        rw [ex, ek] at HNEXT
        replace HNEXT : Hid (((l.take (i + 1)).map agedR).filter (keepO ageing) = outs ++ [d]) := HNEXT.out
        clear hf ex ek
        obtain ⟨x, hx⟩ : ∃ x, x = d := ⟨_, rfl⟩
        replace HX : Hid ((#[.int .i64 x.v, .int .i64 x.port, .int .i64 x.age, .int .u8 (x.m.a.toNat : Int), .int .u8 (x.m.b.toNat : Int), .int .u8 (x.m.c.toNat : Int), .int .u8 (x.m.d.toNat : Int), .int .u8 (x.m.e.toNat : Int), .int .u8 (x.m.f.toNat : Int), .bool x.fixed] : Array Value) = #[.int .i64 d.v, .int .i64 d.port, .int .i64 d.age, .int .u8 (d.m.a.toNat : Int), .int .u8 (d.m.b.toNat : Int), .int .u8 (d.m.c.toNat : Int), .int .u8 (d.m.d.toNat : Int), .int .u8 (d.m.e.toNat : Int), .int .u8 (d.m.f.toNat : Int), .bool true]) := by rw [hx]; exact HX
        replace HNEXT : Hid (((l.take (i + 1)).map agedR).filter (keepO ageing) = outs ++ [x]) := by rw [hx]; exact HNEXT
        clear hx
        go_upto_region 9 with ((with_reducible refine at_load 51 (.tmp 16) ?_); refine wpList_load_midW rfl 51 (.tmp 16) rfl b (off + i * 10) rfl [.int .i64 d.v, .int .i64 d.port, .int .i64 d.age, .int .u8 (d.m.a.toNat : Int), .int .u8 (d.m.b.toNat : Int), .int .u8 (d.m.c.toNat : Int), .int .u8 (d.m.d.toNat : Int), .int .u8 (d.m.e.toNat : Int), .int .u8 (d.m.f.toNat : Int), .bool true] _ HR.out Try.underlying51 rfl info_rentrys ?_)
        have RX0 := rowIs_new wr 51 #[.int .i64 d.v, .int .i64 d.port, .int .i64 d.age, .int .u8 (d.m.a.toNat : Int), .int .u8 (d.m.b.toNat : Int), .int .u8 (d.m.c.toNat : Int), .int .u8 (d.m.d.toNat : Int), .int .u8 (d.m.e.toNat : Int), .int .u8 (d.m.f.toNat : Int), .bool true]
        have hb3 : Below wr.heap.size wr (wr.alloc (.cells #[.int .i64 d.v, .int .i64 d.port, .int .i64 d.age, .int .u8 (d.m.a.toNat : Int), .int .u8 (d.m.b.toNat : Int), .int .u8 (d.m.c.toNat : Int), .int .u8 (d.m.d.toNat : Int), .int .u8 (d.m.e.toNat : Int), .int .u8 (d.m.f.toNat : Int), .bool true] 51)) := (Below.refl _ wr).alloc (Nat.le_refl _) _
        have HOUT := Lib.hid (HOUT.out.later hb3)
        have hbW3 := hbW.trans (hb3.mono hbW.size)
        have RX : Hid (RowIs (wr.alloc (.cells #[.int .i64 d.v, .int .i64 d.port, .int .i64 d.age, .int .u8 (d.m.a.toNat : Int), .int .u8 (d.m.b.toNat : Int), .int .u8 (d.m.c.toNat : Int), .int .u8 (d.m.d.toNat : Int), .int .u8 (d.m.e.toNat : Int), .int .u8 (d.m.f.toNat : Int), .bool true] 51)) wr.heap.size 51 #[.int .i64 x.v, .int .i64 x.port, .int .i64 x.age, .int .u8 (x.m.a.toNat : Int), .int .u8 (x.m.b.toNat : Int), .int .u8 (x.m.c.toNat : Int), .int .u8 (x.m.d.toNat : Int), .int .u8 (x.m.e.toNat : Int), .int .u8 (x.m.f.toNat : Int), .bool x.fixed]) := by
          show RowIs _ _ _ _
          rw [HX.out]
          exact RX0
        clear RX0 hb3 HR hbW
        generalize (wr.alloc (.cells #[.int .i64 d.v, .int .i64 d.port, .int .i64 d.age, .int .u8 (d.m.a.toNat : Int), .int .u8 (d.m.b.toNat : Int), .int .u8 (d.m.c.toNat : Int), .int .u8 (d.m.d.toNat : Int), .int .u8 (d.m.e.toNat : Int), .int .u8 (d.m.f.toNat : Int), .bool true] 51)) = w3 at *
        have hbase : w.heap.size ≤ w3.heap.size := hbW3.size
        clear HX
        obtain ⟨la, lc, rfl, HO⟩ := HOUT.out
        have hbB : Below w3.heap.size w3 (w3.alloc (.cells #[.int .i64 x.v, .int .i64 x.port, .int .i64 x.age, .int .u8 (x.m.a.toNat : Int), .int .u8 (x.m.b.toNat : Int), .int .u8 (x.m.c.toNat : Int), .int .u8 (x.m.d.toNat : Int), .int .u8 (x.m.e.toNat : Int), .int .u8 (x.m.f.toNat : Int), .bool x.fixed] 51)) := (Below.refl _ w3).alloc (Nat.le_refl _) _
        have HO4 := Lib.hid (ownsLater' HO hbB)
        have RB : Hid (RowIs (w3.alloc (.cells #[.int .i64 x.v, .int .i64 x.port, .int .i64 x.age, .int .u8 (x.m.a.toNat : Int), .int .u8 (x.m.b.toNat : Int), .int .u8 (x.m.c.toNat : Int), .int .u8 (x.m.d.toNat : Int), .int .u8 (x.m.e.toNat : Int), .int .u8 (x.m.f.toNat : Int), .bool x.fixed] 51)) w3.heap.size 51 #[.int .i64 x.v, .int .i64 x.port, .int .i64 x.age, .int .u8 (x.m.a.toNat : Int), .int .u8 (x.m.b.toNat : Int), .int .u8 (x.m.c.toNat : Int), .int .u8 (x.m.d.toNat : Int), .int .u8 (x.m.e.toNat : Int), .int .u8 (x.m.f.toNat : Int), .bool x.fixed]) := rowIs_new w3 _ _
        have HOB := Lib.hid (Nat.le_trans hbase hbB.size)
        clear HO
        go_wp2_with (first
          | ((with_reducible refine at_load 51 (.tmp 7) ?_); refine wpList_load_own rfl 51 (.tmp 7) rfl _ rfl _ _ _ RX.out Try.underlying51 rfl info_rentrys ?_)
          | (at_builtin; refine wpList_append_own _ rfl (.tmp 33) (.tmp 35) 47 rfl w.heap.size 51 ti tz 10 32 Try.underlying47 HI.out HZ.out hz1 hz2 hz3 (by decide) _ (outs).length _ rfl HO4.out ⟨w3.heap.size, 0, none⟩ 1 1 (encE x) rfl ?c0 ?c1 ?c2 ?c3 ?c4 ?c5 ?_))
        case c0 => rfl
        case c1 =>
          intro j u hj
          first | (rw [addr_add, RB.out.cell j, ← Array.getElem?_toList]; exact hj) | exact hj
        case c2 =>
          intro u hu
          simp only [encE, List.mem_cons, List.not_mem_nil, or_false] at hu
          rcases hu with rfl | rfl | rfl | rfl | rfl | rfl | rfl | rfl | rfl | rfl <;> rfl
        case c3 => simp [maxLen]; omega
        case c4 => omega
        case c5 => first | exact HOB.out | omega | (simp; omega)
        intro v' w4 ho4 hg4 _
        have HO5 := Lib.hid (out_app ho4)
        have hbAP : Below w.heap.size w3 w4 := (hbB.mono hbase).grown hg4 (Nat.le_trans hbase hbB.size) (fun k e1 => (HO4.out.lt k e1).1)
        clear ho4 hg4 HO4 RB hbB HOB
        have hbW4 := hbW3.trans hbAP
        have HO6 : Hid (OutAt w4 w.heap.size v' (((l.take (i + 1)).map agedR).filter (keepO ageing))) := by
          show OutAt _ _ _ _
          rw [HNEXT.out]
          exact HO5.out
        clear HO5 hbAP
        go_wp2_with fail
        refine ⟨⟨i + 1, by omega, by go_num, HO6, hbW4⟩, by simp [intOf]; omega⟩
    · obtain rfl : i = l.length := by omega
      rw [List.take_length] at HOUT
      obtain ⟨ao', cap', rfl, hM⟩ := out_many HOUT.out
      have HM := Lib.hid hM
      clear hM HOUT
      generalize hE : (l.map agedR).filter (keepO ageing) = outs at *
      have HE := Lib.hid hE
      clear hE
      go_wp2_with fail
      go_ret
      rw [HE.out]
      exact ⟨ao', cap', rfl, HM.out, hbW⟩
end Go.Proofs.Ytcdklbhfcfamnaa
