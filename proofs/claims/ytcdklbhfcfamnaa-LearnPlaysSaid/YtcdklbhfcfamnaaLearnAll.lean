/- Table.All: what is kept, in order. By an AI agent. -/
import Derived.Test.YtcdklbhfcfamnaaLearnCmp
import Derived.Shelf.SlSortCmp.KitK
import Derived.Deep.DeepCutAuto
import Derived.Laws.AppendOwn
namespace Go.Proofs.Ytcdklbhfcfamnaa
open Go.RowKit Go.MapKept Go.Maps Go.WideShapes Go.Sort Go.Shelf Grow Go.Proofs

def encE (x : Ent) : List Value := [.int .i64 x.v, .int .i64 x.port, .int .i64 x.age, .int .u8 (x.m.a.toNat : Int), .int .u8 (x.m.b.toNat : Int), .int .u8 (x.m.c.toNat : Int), .int .u8 (x.m.d.toNat : Int), .int .u8 (x.m.e.toNat : Int), .int .u8 (x.m.f.toNat : Int), .bool x.fixed]
instance : Inhabited Ent := ⟨⟨0, ⟨0, 0, 0, 0, 0, 0⟩, 0, 0, false⟩⟩
/-- as it is told: what is fixed has no age -/
def Ent.told (e : Ent) : Ent := ⟨e.v, e.m, e.port, if e.fixed then 0 else e.age, e.fixed⟩

theorem flat_get {ds : List Ent} : ∀ (t : Nat), t < ds.length * 10 → (ds.flatMap encE)[t]? = some ((encE ds[t / 10]!)[t % 10]!) := by
  induction ds with
  | nil => intro t h; simp at h
  | cons a ds ih =>
    intro t h
    rw [List.flatMap_cons]
    by_cases h1 : t < 10
    · rw [List.getElem?_append_left (by simpa [encE] using h1), Nat.div_eq_of_lt h1, Nat.mod_eq_of_lt h1]
      rw [List.getElem?_eq_getElem (by simpa [encE] using h1), getElem!_pos _ _ (by simpa [encE] using h1)]
      rfl
    · rw [List.getElem?_append_right (by simp [encE]; omega)]
      have e : (encE a).length = 10 := rfl
      rw [e, ih (t - 10) (by simp at h; omega)]
      have e1 : t / 10 = (t - 10) / 10 + 1 := by omega
      have e2 : t % 10 = (t - 10) % 10 := by omega
      rw [e1, e2]
      congr 1

abbrev SortsE : Prop := ∀ (b cap : Nat) (ds : List Ent) (w : World), 0 < ds.length → HoldsK encE 10 w b 0 ds.toArray → b < w.heap.size → ds.length ≤ 1000000 →
    Calls Try.prog 32 #[.slice (some ⟨b, 0, none⟩) ds.length cap, .func (.func 33) #[] #[]] w fun e w' => e = .returned (.tuple #[]) ∧ ∃ ds' : List Ent, ds'.Perm ds ∧ ds'.Pairwise (fun x y => x.key ≤ y.key) ∧ HoldsK encE 10 w' b 0 ds'.toArray ∧ (∀ B, B ≤ b → Below B w w')
abbrev SortsNone : Prop := ∀ (p : Option Addr) (cap : Nat) (fv : Value) (w : World), Calls Try.prog 32 #[.slice p 0 cap, fv] w fun e w' => e = .returned (.tuple #[]) ∧ w' = w


theorem info_entry : ∃ i z, Try.prog.info? 42 = some i ∧ i.zero = some z ∧ i.size = 10 ∧ i.bytes = 32 ∧ z.cells.size = 10 := by
  have h : (Try.prog.info? 42).map (fun i => (i.zero.map (·.cells.size), i.size, i.bytes)) = some (some 10, 10, 32) := by kernel_rfl
  obtain ⟨i, hi, h⟩ := Option.map_eq_some_iff.1 h
  simp only [Prod.mk.injEq] at h
  obtain ⟨z, hz, h18⟩ := Option.map_eq_some_iff.1 h.1
  exact ⟨i, z, hi, hz, h.2.1, h.2.2, h18⟩
theorem info_entrys : (Try.prog.info? 42).map (·.size) = some 10 := by kernel_rfl

set_option maxRecDepth 20000 in
set_option maxHeartbeats 4000000 in
theorem all_of (HSORT : SortsE) (HNONE : SortsNone) (B T M : Nat) (ageing : Int) (lims : List Int) (L : List Ent) (w : World) (h : TabIs B T M w ageing lims L) (hL : L.length ≤ 1000) :
    Calls Try.prog 15 #[.pointer (some ⟨T, 0, none⟩)] w fun r w' => ∃ ao ds cap, r = .returned (.slice ao (List.length ds) cap) ∧ ds.Perm (L.map Ent.told) ∧ ds.Pairwise (fun x y => x.key ≤ y.key) ∧ (ds = [] ∨ ∃ b, ao = some ⟨b, 0, none⟩ ∧ w.heap.size ≤ b ∧ b < w'.heap.size ∧ HoldsK encE 10 w' b 0 ds.toArray) ∧ Below w.heap.size w w' := by
  obtain ⟨la, lc, hT, hBT, hBM, ho, hM, hIV⟩ := h
  obtain ⟨ti, tz, hi, hzz, hz1, hz2, hz3⟩ := info_entry
  have HSRT := Lib.hid HSORT
  have HNN := Lib.hid HNONE
  clear HSORT HNONE
  have HI := Lib.hid hi
  have HZ := Lib.hid hzz
  obtain ⟨o0, hrg, hit⟩ := run_range_mapP (P := Try.prog) (t := 61) Try.underlying61 hM
  have HIT := Lib.hid hit
  have HM := Lib.hid hM
  have HT := Lib.hid hT
  have c2 : w.cell? ⟨T, 2, none⟩ = some (.map (some M)) := hT.cell 2
  clear hT hM ho hBT hBM hIV hit hi hzz
  go_enter Try.func15, Try.ntmps15
  go_wp2_with fail
  have hb0 : Below w.heap.size w (w.alloc o0) := (Below.refl _ w).alloc (Nat.le_refl _) o0
  clear hrg c2
  generalize (w.alloc o0) = w0 at *
  go_loopw [3, 4, 5, 6] (fun s3 _ _ _ wr => ∃ (la : Option Addr) (lc : Nat) (done left : List Ent), s3 = .slice la done.length lc ∧ Hid (IterAt Try.prog 65 wr w.heap.size M (done.map Ent.kv) (left.map Ent.kv)) ∧ Hid ((done ++ left).Perm L) ∧ Hid (wr.ownsRow w.heap.size 42 10 (.slice la done.length lc) done.length ((done.map Ent.told).flatMap encE)) ∧ Below w.heap.size w wr) (fun _ _ _ _ wr => leftAt wr M w.heap.size)
  case atStart => exact ⟨none, 0, [], L, rfl, HIT, by show List.Perm _ _; simp, World.ownsRow_nil _ _ _ _, hb0⟩
  case round =>
    rename_i wr
    obtain ⟨la, lc, done, left, rfl, HI', HP, HO, hbr⟩ := hrel
    rcases run_nextP (P := Try.prog) HI'.out with ⟨h0, hnx⟩ | ⟨p, left', w2, hpl, hnx, hE, hoth, hsz, hbl⟩
    · obtain rfl : left = [] := List.map_eq_nil_iff.1 h0
      clear h0
      have hP : done.Perm L := by simpa using HP.out
      have HPT : Hid ((done.map Ent.told).Perm (L.map Ent.told)) := hP.map _
      have hdl : done.length ≤ 1000 := by rw [hP.length_eq]; exact hL
      clear hP HP
      by_cases h0 : done = []
      · subst h0
        have HL0 : Hid (L = []) := by
          have := HPT.out.length_eq
          simp at this
          exact List.eq_nil_of_length_eq_zero this.symm
        simp only [List.length_nil] at *
        have HS := Lib.hid (HNN.out la lc (.func (.func 33) #[] #[]) wr)
        go_wp2_with fail
        refine HS.out.mono ?_
        rintro r w5 ⟨rfl, rfl⟩
        go_wp2_with fail
        go_ret
        exact ⟨la, [], lc, rfl, by rw [HL0.out]; exact .nil, .nil, .inl rfl, hbr⟩
      · have hpos : 0 < done.length := List.length_pos_iff.2 h0
        obtain ⟨g, rfl, hBg, HOK⟩ : ∃ g, la = some ⟨g, 0, none⟩ ∧ w.heap.size ≤ g ∧ Hid (g < wr.heap.size ∧ HoldsK encE 10 wr g 0 (done.map Ent.told).toArray) := by
          rcases HO.out.2 with ⟨_, e0⟩ | ⟨g, c', cur, e1, hB', hgr, hle, hm, hcs, ht⟩
          · omega
          · simp only [Value.slice.injEq] at e1
            refine ⟨g, e1.1, hB', (Array.getElem?_eq_some_iff.1 hgr).1, fun j hj => ?_⟩
            have hR : RowIs wr g 42 cur := hgr
            have hj' : j < (done.map Ent.told).length * 10 := by simpa using hj
            have hj2 : j < done.length * 10 := by simpa using hj'
            rw [Nat.zero_add, hR.cell, id, get_flatK encE 10 _ j (by simpa using hj)]
            refine ⟨?_, hR.free j⟩
            have h1 := flat_get (ds := done.map Ent.told) j hj'
            rw [← ht, List.getElem?_take_of_lt hj2, Array.getElem?_toList] at h1
            rw [h1]
            congr 2
            rw [List.getElem!_toArray]
        clear h0
        have HS := Lib.hid (HSRT.out g lc (done.map Ent.told) wr (by simpa using hpos) HOK.out.2 HOK.out.1 (by simp; omega))
        rw [List.length_map] at HS
        clear HO
        go_wp2_with fail
        refine HS.out.mono ?_
        rintro r w5 ⟨rfl, ds, hp5, hs5, hH5, hb5⟩
        have hlen : done.length = ds.length := by rw [hp5.length_eq]; simp
        have HFIN := Lib.hid (hp5.trans HPT.out)
        have HS5 := Lib.hid hs5
        have HH5 := Lib.hid hH5
        have hbF := hbr.trans (hb5 _ hBg)
        have hg5 : g < w5.heap.size := Nat.lt_of_lt_of_le HOK.out.1 (hb5 0 (Nat.zero_le _)).size
        clear hp5 hs5 hH5 hb5 HS
        go_wp2_with fail
        go_ret
        exact ⟨some ⟨g, 0, none⟩, ds, lc, by rw [← hlen]; rfl, HFIN.out, HS5.out, .inr ⟨g, rfl, hBg, hg5, HH5.out⟩, hbF⟩
    · obtain ⟨e, L', hpe, rfl, hl'⟩ := perm_pick hpl
      have hen := run_entryP (P := Try.prog) hE
      simp only [Ent.kv, keyV, placeV] at hnx hen
      have HE := Lib.hid hE
      have HLL := Lib.hid hl'
      have HMEAS : Hid (L'.length < leftAt wr M w.heap.size) := by
        show _ < _
        rw [HI'.out.left_eq, hpl.length_eq]
        have := hl'.length_eq
        simp at this ⊢
        omega
      have HP5 : Hid ((done ++ [e] ++ L').Perm L) := by
        refine List.Perm.trans ?_ HP.out
        rw [List.append_assoc]
        exact List.Perm.append_left done hpe.symm
      have hdl : done.length + 1 ≤ 1000 := by
        have := HP5.out.length_eq
        simp at this
        omega
      have HO2 : Hid (w2.ownsRow w.heap.size 42 10 (.slice la done.length lc) done.length ((done.map Ent.told).flatMap encE)) := by
        refine ⟨HO.out.1, ?_⟩
        rcases HO.out.2 with h | ⟨g', c', cur, e2, hB', hgr, rest⟩
        · exact .inl h
        · refine .inr ⟨g', c', cur, e2, hB', (hoth g' (fun e3 => ?_)).trans hgr, rest⟩
          obtain ⟨o', ho', hw'⟩ := HI'.out.iter_walk
          rw [← e3, hgr] at ho'
          cases ho'
          cases hw'
      have hb2 : Below w.heap.size w w2 := hbr.trans ((hbl w.heap.size (Nat.le_refl _)))
      have hsw2 : w.heap.size ≤ w2.heap.size := hb2.size
      clear hoth hbl hsz hE hpe hl' hbr hpl HP HO
      cases hfx : e.fixed
      · rw [hfx] at hnx hen
        have HTOLD : Hid (encE e.told = #[.int .i64 e.v, .int .i64 e.port, .int .i64 e.age, .int .u8 (e.m.a.toNat : Int), .int .u8 (e.m.b.toNat : Int), .int .u8 (e.m.c.toNat : Int), .int .u8 (e.m.d.toNat : Int), .int .u8 (e.m.e.toNat : Int), .int .u8 (e.m.f.toNat : Int), .bool false].toList) := by
          show _ = _
          unfold Ent.told encE
          rw [hfx]
          rfl
        have hbA : Below w2.heap.size w2 (((w2.alloc (.cells #[.int .i64 e.v, .int .u8 (e.m.a.toNat : Int), .int .u8 (e.m.b.toNat : Int), .int .u8 (e.m.c.toNat : Int), .int .u8 (e.m.d.toNat : Int), .int .u8 (e.m.e.toNat : Int), .int .u8 (e.m.f.toNat : Int)] 65)).alloc (.cells #[.int .i64 e.port, .int .i64 e.age, .bool false] 67)).alloc (.cells #[.int .i64 e.v, .int .i64 e.port, .int .i64 e.age, .int .u8 (e.m.a.toNat : Int), .int .u8 (e.m.b.toNat : Int), .int .u8 (e.m.c.toNat : Int), .int .u8 (e.m.d.toNat : Int), .int .u8 (e.m.e.toNat : Int), .int .u8 (e.m.f.toNat : Int), .bool false] 42)) := (((Below.refl _ w2).alloc (Nat.le_refl _) _).alloc (by simp) _).alloc (by simp; omega) _
        have RE : Hid (RowIs (((w2.alloc (.cells #[.int .i64 e.v, .int .u8 (e.m.a.toNat : Int), .int .u8 (e.m.b.toNat : Int), .int .u8 (e.m.c.toNat : Int), .int .u8 (e.m.d.toNat : Int), .int .u8 (e.m.e.toNat : Int), .int .u8 (e.m.f.toNat : Int)] 65)).alloc (.cells #[.int .i64 e.port, .int .i64 e.age, .bool false] 67)).alloc (.cells #[.int .i64 e.v, .int .i64 e.port, .int .i64 e.age, .int .u8 (e.m.a.toNat : Int), .int .u8 (e.m.b.toNat : Int), .int .u8 (e.m.c.toNat : Int), .int .u8 (e.m.d.toNat : Int), .int .u8 (e.m.e.toNat : Int), .int .u8 (e.m.f.toNat : Int), .bool false] 42)) (w2.heap.size + 1 + 1) 42 #[.int .i64 e.v, .int .i64 e.port, .int .i64 e.age, .int .u8 (e.m.a.toNat : Int), .int .u8 (e.m.b.toNat : Int), .int .u8 (e.m.c.toNat : Int), .int .u8 (e.m.d.toNat : Int), .int .u8 (e.m.e.toNat : Int), .int .u8 (e.m.f.toNat : Int), .bool false]) := by
          have h := rowIs_new ((w2.alloc (.cells #[.int .i64 e.v, .int .u8 (e.m.a.toNat : Int), .int .u8 (e.m.b.toNat : Int), .int .u8 (e.m.c.toNat : Int), .int .u8 (e.m.d.toNat : Int), .int .u8 (e.m.e.toNat : Int), .int .u8 (e.m.f.toNat : Int)] 65)).alloc (.cells #[.int .i64 e.port, .int .i64 e.age, .bool false] 67)) 42 #[.int .i64 e.v, .int .i64 e.port, .int .i64 e.age, .int .u8 (e.m.a.toNat : Int), .int .u8 (e.m.b.toNat : Int), .int .u8 (e.m.c.toNat : Int), .int .u8 (e.m.d.toNat : Int), .int .u8 (e.m.e.toNat : Int), .int .u8 (e.m.f.toNat : Int), .bool false]
          rw [World.size_alloc, World.size_alloc] at h
          exact h
        go_upto_region 10 with fail
        have HI3 := Lib.hid (HE.out.iter.later hbA)
        have HO3 := Lib.hid (ownsLater' HO2.out hbA)
        have hb3 := hb2.trans (hbA.mono hsw2)
        have hs3 := hb3.size
        clear hnx hen hbA hb2
        generalize (((w2.alloc (.cells #[.int .i64 e.v, .int .u8 (e.m.a.toNat : Int), .int .u8 (e.m.b.toNat : Int), .int .u8 (e.m.c.toNat : Int), .int .u8 (e.m.d.toNat : Int), .int .u8 (e.m.e.toNat : Int), .int .u8 (e.m.f.toNat : Int)] 65)).alloc (.cells #[.int .i64 e.port, .int .i64 e.age, .bool false] 67)).alloc (.cells #[.int .i64 e.v, .int .i64 e.port, .int .i64 e.age, .int .u8 (e.m.a.toNat : Int), .int .u8 (e.m.b.toNat : Int), .int .u8 (e.m.c.toNat : Int), .int .u8 (e.m.d.toNat : Int), .int .u8 (e.m.e.toNat : Int), .int .u8 (e.m.f.toNat : Int), .bool false] 42)) = w3 at *
        have hbB : Below w3.heap.size w3 (w3.alloc (.cells #[.int .i64 e.v, .int .i64 e.port, .int .i64 e.age, .int .u8 (e.m.a.toNat : Int), .int .u8 (e.m.b.toNat : Int), .int .u8 (e.m.c.toNat : Int), .int .u8 (e.m.d.toNat : Int), .int .u8 (e.m.e.toNat : Int), .int .u8 (e.m.f.toNat : Int), .bool false] 42)) := (Below.refl _ w3).alloc (Nat.le_refl _) _
        have HO4 := Lib.hid (ownsLater' HO3.out hbB)
        have RB : Hid (RowIs (w3.alloc (.cells #[.int .i64 e.v, .int .i64 e.port, .int .i64 e.age, .int .u8 (e.m.a.toNat : Int), .int .u8 (e.m.b.toNat : Int), .int .u8 (e.m.c.toNat : Int), .int .u8 (e.m.d.toNat : Int), .int .u8 (e.m.e.toNat : Int), .int .u8 (e.m.f.toNat : Int), .bool false] 42)) w3.heap.size 42 #[.int .i64 e.v, .int .i64 e.port, .int .i64 e.age, .int .u8 (e.m.a.toNat : Int), .int .u8 (e.m.b.toNat : Int), .int .u8 (e.m.c.toNat : Int), .int .u8 (e.m.d.toNat : Int), .int .u8 (e.m.e.toNat : Int), .int .u8 (e.m.f.toNat : Int), .bool false]) := rowIs_new w3 _ _
        go_wp2_with (first
          | ((with_reducible refine at_load 42 (.tmp 6) ?_); refine wpList_load_own rfl 42 (.tmp 6) rfl _ rfl _ _ _ RE.out Try.underlying42 rfl info_entrys ?_)
          | (at_builtin; refine wpList_append_own _ rfl (.tmp 33) (.tmp 35) 39 rfl w.heap.size 42 ti tz 10 32 Try.underlying39 HI.out HZ.out hz1 hz2 hz3 (by decide) _ done.length _ rfl HO4.out ⟨w3.heap.size, 0, none⟩ 1 1 (encE e.told) rfl ?c0 ?c1 ?c2 ?c3 ?c4 ?c5 ?_))
        case c0 => rfl
        case c1 =>
          intro j u hj
          rw [HTOLD.out] at hj
          simpa using hj
        case c2 =>
          intro u hu
          rw [HTOLD.out] at hu
          simp only [List.mem_cons, List.not_mem_nil, or_false] at hu
          rcases hu with rfl | rfl | rfl | rfl | rfl | rfl | rfl | rfl | rfl | rfl <;> rfl
        case c3 => simp [maxLen]; omega
        case c4 => omega
        case c5 => first | omega | (simp; omega)
        intro v' w4 ho4 hg4 _
        obtain ⟨la', lc', rfl⟩ : ∃ la' lc', v' = .slice la' (done.length + 1) lc' := by
          rcases ho4.2 with ⟨_, e0⟩ | ⟨g', c', _, e', _⟩
          · omega
          · exact ⟨_, _, e'⟩
        have HO5 : Hid (w4.ownsRow w.heap.size 42 10 (.slice la' (done.length + 1) lc') (done.length + 1) (((done ++ [e]).map Ent.told).flatMap encE)) := by
          show World.ownsRow _ _ _ _ _ _ _
          rw [List.map_append, List.flatMap_append]
          simpa using ho4
        have hlts := HI3.out.lts
        have HI5 : Hid (IterAt Try.prog 65 w4 w.heap.size M ((done ++ [e]).map Ent.kv) (L'.map Ent.kv)) := by
          have hne : ∀ j, j < w3.heap.size → j = M ∨ j = w.heap.size → w4.heap[j]? = w3.heap[j]? := fun j hj hjj => by
            refine ((hg4.block j (by simp; omega) ?_).trans (hbB.block j hj))
            intro e1
            have hob : (Value.slice la done.length lc).ownBlock = some j := e1.symm
            rcases HO3.out.2 with ⟨e2, _⟩ | ⟨g', c', cur, e2, _, hgr, _⟩
            · rw [e2] at hob; cases hob
            · rw [e2] at hob
              simp only [Value.ownBlock, Option.some.injEq] at hob
              subst hob
              obtain ⟨es, ck, sn, k1, _, k3, _⟩ := HI3.out
              rcases hjj with rfl | rfl
              · rw [hgr] at k1; cases k1
              · rw [hgr] at k3; cases k3
          have h1 := HI3.out.same (hne M hlts.1 (.inl rfl)) (hne _ hlts.2.1 (.inr rfl))
          show IterAt _ _ _ _ _ _ _
          rw [List.map_append]
          exact (h1.lperm HLL.out).kperm (List.perm_append_comm (l₁ := [e.kv]))
        have hb5 : Below w.heap.size w w4 := (hb3.trans (hbB.mono hs3)).grown hg4 (Nat.le_trans hs3 hbB.size) (fun k e1 => (HO4.out.lt k e1).1)
        clear ho4 hg4 hlts
        go_wp2_with fail
        refine ⟨⟨la', lc', done ++ [e], L', by simp, HI5, HP5, by simpa using HO5, hb5⟩, ?_⟩
        rw [HI5.out.left_eq]
        simpa using HMEAS.out
      · rw [hfx] at hnx hen
        have HTOLD : Hid (encE e.told = #[.int .i64 e.v, .int .i64 e.port, .int .i64 0, .int .u8 (e.m.a.toNat : Int), .int .u8 (e.m.b.toNat : Int), .int .u8 (e.m.c.toNat : Int), .int .u8 (e.m.d.toNat : Int), .int .u8 (e.m.e.toNat : Int), .int .u8 (e.m.f.toNat : Int), .bool true].toList) := by
          show _ = _
          unfold Ent.told encE
          rw [hfx]
          rfl
        have hbA : Below w2.heap.size w2 (((w2.alloc (.cells #[.int .i64 e.v, .int .u8 (e.m.a.toNat : Int), .int .u8 (e.m.b.toNat : Int), .int .u8 (e.m.c.toNat : Int), .int .u8 (e.m.d.toNat : Int), .int .u8 (e.m.e.toNat : Int), .int .u8 (e.m.f.toNat : Int)] 65)).alloc (.cells #[.int .i64 e.port, .int .i64 e.age, .bool true] 67)).alloc (.cells #[.int .i64 e.v, .int .i64 e.port, .int .i64 0, .int .u8 (e.m.a.toNat : Int), .int .u8 (e.m.b.toNat : Int), .int .u8 (e.m.c.toNat : Int), .int .u8 (e.m.d.toNat : Int), .int .u8 (e.m.e.toNat : Int), .int .u8 (e.m.f.toNat : Int), .bool true] 42)) := (((Below.refl _ w2).alloc (Nat.le_refl _) _).alloc (by simp) _).alloc (by simp; omega) _
        have RE : Hid (RowIs (((w2.alloc (.cells #[.int .i64 e.v, .int .u8 (e.m.a.toNat : Int), .int .u8 (e.m.b.toNat : Int), .int .u8 (e.m.c.toNat : Int), .int .u8 (e.m.d.toNat : Int), .int .u8 (e.m.e.toNat : Int), .int .u8 (e.m.f.toNat : Int)] 65)).alloc (.cells #[.int .i64 e.port, .int .i64 e.age, .bool true] 67)).alloc (.cells #[.int .i64 e.v, .int .i64 e.port, .int .i64 0, .int .u8 (e.m.a.toNat : Int), .int .u8 (e.m.b.toNat : Int), .int .u8 (e.m.c.toNat : Int), .int .u8 (e.m.d.toNat : Int), .int .u8 (e.m.e.toNat : Int), .int .u8 (e.m.f.toNat : Int), .bool true] 42)) (w2.heap.size + 1 + 1) 42 #[.int .i64 e.v, .int .i64 e.port, .int .i64 0, .int .u8 (e.m.a.toNat : Int), .int .u8 (e.m.b.toNat : Int), .int .u8 (e.m.c.toNat : Int), .int .u8 (e.m.d.toNat : Int), .int .u8 (e.m.e.toNat : Int), .int .u8 (e.m.f.toNat : Int), .bool true]) := by
          have h := rowIs_new ((w2.alloc (.cells #[.int .i64 e.v, .int .u8 (e.m.a.toNat : Int), .int .u8 (e.m.b.toNat : Int), .int .u8 (e.m.c.toNat : Int), .int .u8 (e.m.d.toNat : Int), .int .u8 (e.m.e.toNat : Int), .int .u8 (e.m.f.toNat : Int)] 65)).alloc (.cells #[.int .i64 e.port, .int .i64 e.age, .bool true] 67)) 42 #[.int .i64 e.v, .int .i64 e.port, .int .i64 0, .int .u8 (e.m.a.toNat : Int), .int .u8 (e.m.b.toNat : Int), .int .u8 (e.m.c.toNat : Int), .int .u8 (e.m.d.toNat : Int), .int .u8 (e.m.e.toNat : Int), .int .u8 (e.m.f.toNat : Int), .bool true]
          rw [World.size_alloc, World.size_alloc] at h
          exact h
        go_upto_region 10 with fail
        have HI3 := Lib.hid (HE.out.iter.later hbA)
        have HO3 := Lib.hid (ownsLater' HO2.out hbA)
        have hb3 := hb2.trans (hbA.mono hsw2)
        have hs3 := hb3.size
        clear hnx hen hbA hb2
        generalize (((w2.alloc (.cells #[.int .i64 e.v, .int .u8 (e.m.a.toNat : Int), .int .u8 (e.m.b.toNat : Int), .int .u8 (e.m.c.toNat : Int), .int .u8 (e.m.d.toNat : Int), .int .u8 (e.m.e.toNat : Int), .int .u8 (e.m.f.toNat : Int)] 65)).alloc (.cells #[.int .i64 e.port, .int .i64 e.age, .bool true] 67)).alloc (.cells #[.int .i64 e.v, .int .i64 e.port, .int .i64 0, .int .u8 (e.m.a.toNat : Int), .int .u8 (e.m.b.toNat : Int), .int .u8 (e.m.c.toNat : Int), .int .u8 (e.m.d.toNat : Int), .int .u8 (e.m.e.toNat : Int), .int .u8 (e.m.f.toNat : Int), .bool true] 42)) = w3 at *
        have hbB : Below w3.heap.size w3 (w3.alloc (.cells #[.int .i64 e.v, .int .i64 e.port, .int .i64 0, .int .u8 (e.m.a.toNat : Int), .int .u8 (e.m.b.toNat : Int), .int .u8 (e.m.c.toNat : Int), .int .u8 (e.m.d.toNat : Int), .int .u8 (e.m.e.toNat : Int), .int .u8 (e.m.f.toNat : Int), .bool true] 42)) := (Below.refl _ w3).alloc (Nat.le_refl _) _
        have HO4 := Lib.hid (ownsLater' HO3.out hbB)
        have RB : Hid (RowIs (w3.alloc (.cells #[.int .i64 e.v, .int .i64 e.port, .int .i64 0, .int .u8 (e.m.a.toNat : Int), .int .u8 (e.m.b.toNat : Int), .int .u8 (e.m.c.toNat : Int), .int .u8 (e.m.d.toNat : Int), .int .u8 (e.m.e.toNat : Int), .int .u8 (e.m.f.toNat : Int), .bool true] 42)) w3.heap.size 42 #[.int .i64 e.v, .int .i64 e.port, .int .i64 0, .int .u8 (e.m.a.toNat : Int), .int .u8 (e.m.b.toNat : Int), .int .u8 (e.m.c.toNat : Int), .int .u8 (e.m.d.toNat : Int), .int .u8 (e.m.e.toNat : Int), .int .u8 (e.m.f.toNat : Int), .bool true]) := rowIs_new w3 _ _
        go_wp2_with (first
          | ((with_reducible refine at_load 42 (.tmp 6) ?_); refine wpList_load_own rfl 42 (.tmp 6) rfl _ rfl _ _ _ RE.out Try.underlying42 rfl info_entrys ?_)
          | (at_builtin; refine wpList_append_own _ rfl (.tmp 33) (.tmp 35) 39 rfl w.heap.size 42 ti tz 10 32 Try.underlying39 HI.out HZ.out hz1 hz2 hz3 (by decide) _ done.length _ rfl HO4.out ⟨w3.heap.size, 0, none⟩ 1 1 (encE e.told) rfl ?c0 ?c1 ?c2 ?c3 ?c4 ?c5 ?_))
        case c0 => rfl
        case c1 =>
          intro j u hj
          rw [HTOLD.out] at hj
          simpa using hj
        case c2 =>
          intro u hu
          rw [HTOLD.out] at hu
          simp only [List.mem_cons, List.not_mem_nil, or_false] at hu
          rcases hu with rfl | rfl | rfl | rfl | rfl | rfl | rfl | rfl | rfl | rfl <;> rfl
        case c3 => simp [maxLen]; omega
        case c4 => omega
        case c5 => first | omega | (simp; omega)
        intro v' w4 ho4 hg4 _
        obtain ⟨la', lc', rfl⟩ : ∃ la' lc', v' = .slice la' (done.length + 1) lc' := by
          rcases ho4.2 with ⟨_, e0⟩ | ⟨g', c', _, e', _⟩
          · omega
          · exact ⟨_, _, e'⟩
        have HO5 : Hid (w4.ownsRow w.heap.size 42 10 (.slice la' (done.length + 1) lc') (done.length + 1) (((done ++ [e]).map Ent.told).flatMap encE)) := by
          show World.ownsRow _ _ _ _ _ _ _
          rw [List.map_append, List.flatMap_append]
          simpa using ho4
        have hlts := HI3.out.lts
        have HI5 : Hid (IterAt Try.prog 65 w4 w.heap.size M ((done ++ [e]).map Ent.kv) (L'.map Ent.kv)) := by
          have hne : ∀ j, j < w3.heap.size → j = M ∨ j = w.heap.size → w4.heap[j]? = w3.heap[j]? := fun j hj hjj => by
            refine ((hg4.block j (by simp; omega) ?_).trans (hbB.block j hj))
            intro e1
            have hob : (Value.slice la done.length lc).ownBlock = some j := e1.symm
            rcases HO3.out.2 with ⟨e2, _⟩ | ⟨g', c', cur, e2, _, hgr, _⟩
            · rw [e2] at hob; cases hob
            · rw [e2] at hob
              simp only [Value.ownBlock, Option.some.injEq] at hob
              subst hob
              obtain ⟨es, ck, sn, k1, _, k3, _⟩ := HI3.out
              rcases hjj with rfl | rfl
              · rw [hgr] at k1; cases k1
              · rw [hgr] at k3; cases k3
          have h1 := HI3.out.same (hne M hlts.1 (.inl rfl)) (hne _ hlts.2.1 (.inr rfl))
          show IterAt _ _ _ _ _ _ _
          rw [List.map_append]
          exact (h1.lperm HLL.out).kperm (List.perm_append_comm (l₁ := [e.kv]))
        have hb5 : Below w.heap.size w w4 := (hb3.trans (hbB.mono hs3)).grown hg4 (Nat.le_trans hs3 hbB.size) (fun k e1 => (HO4.out.lt k e1).1)
        clear ho4 hg4 hlts
        go_wp2_with fail
        refine ⟨⟨la', lc', done ++ [e], L', by simp, HI5, HP5, by simpa using HO5, hb5⟩, ?_⟩
        rw [HI5.out.left_eq]
        simpa using HMEAS.out
end Go.Proofs.Ytcdklbhfcfamnaa
