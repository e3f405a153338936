/- Table.gone: those go that the function names. By an AI agent. -/
import Derived.Test.YtcdklbhfcfamnaaLearn0
import Derived.Test.YtcdklbhfcfamnaaLearnOn
import Derived.Test.YtcdklbhfcfamnaaFence
import Derived.Test.YtcdklbhfcfamnaaGrowKit
import Derived.Deep.DeepCutAuto
namespace Go.Proofs.Ytcdklbhfcfamnaa
open Go.RowKit Go.MapKept Go.Maps Go.WideShapes Go.Sort Grow

def Ent.goes (f : Ent → Bool) (e : Ent) : Bool := !e.fixed && f e
def Ent.stays (f : Ent → Bool) (e : Ent) : Bool := !e.goes f
theorem goes_snoc (f : Ent → Bool) (l : List Ent) (e : Ent) : ((l ++ [e]).filter (Ent.goes f)).length = (l.filter (Ent.goes f)).length + (if e.goes f then 1 else 0) := by
  rw [List.filter_append, List.length_append]
  congr 1
  cases h : e.goes f <;> simp [h]
theorem stays_snoc (f : Ent → Bool) (l : List Ent) (e : Ent) (h : e.goes f = false) : (l ++ [e]).filter (Ent.stays f) = l.filter (Ent.stays f) ++ [e] := by
  rw [List.filter_append]
  simp [Ent.stays, h]
theorem stays_snoc' (f : Ent → Bool) (l : List Ent) (e : Ent) (h : e.goes f = true) : (l ++ [e]).filter (Ent.stays f) = l.filter (Ent.stays f) := by
  rw [List.filter_append]
  simp [Ent.stays, h]
theorem info_key : (Try.prog.info? 65).map (·.size) = some 7 := by kernel_rfl

theorem grown_of_below {w w1 w2 : World} {M : Nat} (h : w.grownBy w1 (some M)) (hb : Below w1.heap.size w1 w2) : w.grownBy w2 (some M) :=
  ⟨hb.os.trans h.os, hb.tape.trans h.tape, hb.output.trans h.output, Nat.le_trans h.size hb.size, fun k hk hne => (hb.block k (Nat.lt_of_lt_of_le hk h.size)).trans (h.block k hk hne)⟩
theorem grown_of_set {w w1 w2 : World} {M r : Nat} (h : w.grownBy w1 (some M)) (hr : w.heap.size ≤ r ∨ r = M) (ho : ∀ j, j ≠ r → w2.heap[j]? = w1.heap[j]?) (hb : Below 0 w1 w2) : w.grownBy w2 (some M) :=
  ⟨hb.os.trans h.os, hb.tape.trans h.tape, hb.output.trans h.output, Nat.le_trans h.size hb.size, fun k hk hne => (ho k (fun e => by
    rcases hr with h1 | h1
    · omega
    · exact hne (by rw [e, h1]))).trans (h.block k hk hne)⟩

set_option maxRecDepth 20000 in
set_option maxHeartbeats 4000000 in
theorem gone_any (T M g : Nat) (cap : Value) (f : Ent → Bool) (c0 c1 : Value) (L : List Ent) (w : World) (hT : RowIs w T 63 #[c0, c1, .map (some M)]) (hM : MapP Try.prog 65 w M (L.map Ent.kv)) (hL : L.length ≤ 1000000) (hv : ∀ e ∈ L, I64 e.v)
    (heg : ∀ args w, (callFunc g args).run Try.prog w = .ok (.enter g args) w) (hf : ∀ W (e : Ent), w.grownBy W (some M) → Calls Try.prog g #[.agg #[.int .i64 e.port, .int .i64 e.age, .bool e.fixed], cap] W fun r W' => r = .returned (.bool (f e)) ∧ Below W.heap.size W W') :
    Calls Try.prog 29 #[.pointer (some ⟨T, 0, none⟩), .func (.func g) #[] #[cap]] w fun r w' => r = .returned (.int .i64 ((L.filter (Ent.goes f)).length : Nat)) ∧ MapP Try.prog 65 w' M ((L.filter (Ent.stays f)).map Ent.kv) ∧ w.grownBy w' (some M) := by
  have HF := Lib.hid hf
  have HV := Lib.hid hv
  have HTM : Hid (T ≠ M) := fun e => by
    obtain ⟨es, ck, h1, _⟩ := hM
    rw [← e, show w.heap[T]? = _ from hT] at h1
    cases h1
  have hMl := hM.lt
  obtain ⟨o0, hrg, hit⟩ := run_range_mapP (P := Try.prog) (t := 61) Try.underlying61 hM
  have HIT := Lib.hid hit
  have c2 : w.cell? ⟨T, 2, none⟩ = some (.map (some M)) := hT.cell 2
  have HT := Lib.hid hT
  clear hf hv hit hT
  go_enter Try.func29, Try.ntmps29
  go_wp2_with fail
  have hg0 : w.grownBy (w.alloc o0) (some M) := grown_of_below ⟨rfl, rfl, rfl, Nat.le_refl _, fun _ _ _ => rfl⟩ ((Below.refl _ w).alloc (Nat.le_refl _) o0)
  clear hrg c2
  generalize (w.alloc o0) = w0 at *
  go_loopw [5, 6, 7] (fun s5 _ _ wr => ∃ (n : Nat) (done left : List Ent), s5 = .int .i64 (n : Nat) ∧ Hid (n = (done.filter (Ent.goes f)).length) ∧ Hid (IterAt Try.prog 65 wr w.heap.size M ((done.filter (Ent.stays f)).map Ent.kv) (left.map Ent.kv)) ∧ Hid ((done ++ left).Perm L) ∧ w.grownBy wr (some M)) (fun _ _ _ wr => leftAt wr M w.heap.size)
  case atStart => exact ⟨0, [], L, rfl, Lib.hid rfl, HIT, by show List.Perm _ _; simp, hg0⟩
  case round =>
    rename_i wr
    obtain ⟨n, done, left, rfl, HNE, HI, HP, hgw⟩ := hrel
    have hnle : n ≤ 1000000 := by
      have h1 := HP.out.length_eq
      have h2 := List.length_filter_le (Ent.goes f) done
      rw [← HNE.out] at h2
      rw [List.length_append] at h1
      omega
    rcases run_nextP (P := Try.prog) HI.out with ⟨h0, hnx⟩ | ⟨p, left', w2, hpl, hnx, hE, hoth, hsz, hbl⟩
    · obtain rfl : left = [] := List.map_eq_nil_iff.1 h0
      clear h0
      go_wp2_with fail
      go_ret
      have hP : done.Perm L := by simpa using HP.out
      have hI := HI.out.map
      rw [List.map_nil, List.append_nil] at hI
      refine ⟨by rw [HNE.out, (hP.filter _).length_eq]; rfl, hI.perm ((hP.filter _).map _), hgw⟩
    · obtain ⟨e, L', hpe, rfl, hl'⟩ := perm_pick hpl
      have hen := run_entryP (P := Try.prog) hE
      simp only [Ent.kv, keyV, placeV] at hnx hen
      have HG2 : Hid (w.grownBy w2 (some M)) := grown_of_set hgw (.inl (Nat.le_refl _)) hoth (hbl 0 (Nat.zero_le _))
      have HE := Lib.hid hE
      have HPE := Lib.hid hpe
      have HPL := Lib.hid hpl
      have HL' := Lib.hid hl'
      have hsw : w.heap.size ≤ wr.heap.size := hgw.size
      have hsw2 : w.heap.size ≤ w2.heap.size := by rw [hsz]; exact hsw
      clear hoth hbl hsz hE hpe hpl hl' hgw hsw
      go_upto_region 5 with fail
      have hbA : Below w2.heap.size w2 ((w2.alloc (.cells #[.int .i64 e.v, .int .u8 (e.m.a.toNat : Int), .int .u8 (e.m.b.toNat : Int), .int .u8 (e.m.c.toNat : Int), .int .u8 (e.m.d.toNat : Int), .int .u8 (e.m.e.toNat : Int), .int .u8 (e.m.f.toNat : Int)] 65)).alloc (.cells #[.int .i64 e.port, .int .i64 e.age, .bool e.fixed] 67)) := ((Below.refl _ w2).alloc (Nat.le_refl _) _).alloc (by simp) _
      have RK : Hid (RowIs ((w2.alloc (.cells #[.int .i64 e.v, .int .u8 (e.m.a.toNat : Int), .int .u8 (e.m.b.toNat : Int), .int .u8 (e.m.c.toNat : Int), .int .u8 (e.m.d.toNat : Int), .int .u8 (e.m.e.toNat : Int), .int .u8 (e.m.f.toNat : Int)] 65)).alloc (.cells #[.int .i64 e.port, .int .i64 e.age, .bool e.fixed] 67)) w2.heap.size 65 #[.int .i64 e.v, .int .u8 (e.m.a.toNat : Int), .int .u8 (e.m.b.toNat : Int), .int .u8 (e.m.c.toNat : Int), .int .u8 (e.m.d.toNat : Int), .int .u8 (e.m.e.toNat : Int), .int .u8 (e.m.f.toNat : Int)]) := (rowIs_new w2 65 #[.int .i64 e.v, .int .u8 (e.m.a.toNat : Int), .int .u8 (e.m.b.toNat : Int), .int .u8 (e.m.c.toNat : Int), .int .u8 (e.m.d.toNat : Int), .int .u8 (e.m.e.toNat : Int), .int .u8 (e.m.f.toNat : Int)]).alloc _
      have RP : Hid (RowIs ((w2.alloc (.cells #[.int .i64 e.v, .int .u8 (e.m.a.toNat : Int), .int .u8 (e.m.b.toNat : Int), .int .u8 (e.m.c.toNat : Int), .int .u8 (e.m.d.toNat : Int), .int .u8 (e.m.e.toNat : Int), .int .u8 (e.m.f.toNat : Int)] 65)).alloc (.cells #[.int .i64 e.port, .int .i64 e.age, .bool e.fixed] 67)) (w2.heap.size + 1) 67 #[.int .i64 e.port, .int .i64 e.age, .bool e.fixed]) := by
        have h := rowIs_new (w2.alloc (.cells #[.int .i64 e.v, .int .u8 (e.m.a.toNat : Int), .int .u8 (e.m.b.toNat : Int), .int .u8 (e.m.c.toNat : Int), .int .u8 (e.m.d.toNat : Int), .int .u8 (e.m.e.toNat : Int), .int .u8 (e.m.f.toNat : Int)] 65)) 67 #[.int .i64 e.port, .int .i64 e.age, .bool e.fixed]
        rw [World.size_alloc] at h
        exact h
      have HE4 : Hid (IterAt Try.prog 65 ((w2.alloc (.cells #[.int .i64 e.v, .int .u8 (e.m.a.toNat : Int), .int .u8 (e.m.b.toNat : Int), .int .u8 (e.m.c.toNat : Int), .int .u8 (e.m.d.toNat : Int), .int .u8 (e.m.e.toNat : Int), .int .u8 (e.m.f.toNat : Int)] 65)).alloc (.cells #[.int .i64 e.port, .int .i64 e.age, .bool e.fixed] 67)) w.heap.size M (e.kv :: (done.filter (Ent.stays f)).map Ent.kv) left') := HE.out.iter.later hbA
      have HG4 := Lib.hid (grown_of_below HG2.out hbA)
      clear hbA hnx hen
      generalize ((w2.alloc (.cells #[.int .i64 e.v, .int .u8 (e.m.a.toNat : Int), .int .u8 (e.m.b.toNat : Int), .int .u8 (e.m.c.toNat : Int), .int .u8 (e.m.d.toNat : Int), .int .u8 (e.m.e.toNat : Int), .int .u8 (e.m.f.toNat : Int)] 65)).alloc (.cells #[.int .i64 e.port, .int .i64 e.age, .bool e.fixed] 67)) = w4 at *
      have HP5 : Hid ((done ++ [e] ++ L').Perm L) := by
        refine List.Perm.trans ?_ HP.out
        rw [List.append_assoc]
        exact List.Perm.append_left done HPE.out.symm
      have HMEAS : Hid (left'.length < leftAt wr M w.heap.size) := by
        show _ < _
        rw [HI.out.left_eq, HPL.out.length_eq]
        simp
      have HHV : Hid (I64 e.v) := HV.out e (HP5.out.mem_iff.1 (by simp))
      have q2 : w4.cell? ⟨w2.heap.size + 1, 2, none⟩ = some (.bool e.fixed) := RP.out.cell 2
      have HCAT : ∀ b : Bool, Hid (n + (if b then 1 else 0) ≤ 1000001) := fun b => by
        show _ ≤ _
        split <;> omega
      cases hfx : e.fixed
      · rw [hfx] at q2
        have HC : Hid (Calls Try.prog g #[.agg #[.int .i64 e.port, .int .i64 e.age, .bool e.fixed], cap] w4 fun r W' => r = .returned (.bool (f e)) ∧ Below w4.heap.size w4 W') := HF.out w4 e HG4.out
        rw [hfx] at HC RP
        go_wp2_with ((with_reducible refine at_load 67 (.tmp 7) ?_); refine wpList_load_own rfl 67 (.tmp 7) rfl _ rfl _ _ _ RP.out Try.underlying67 rfl info_place ?_)
        refine HC.out.mono ?_
        rintro r w5 ⟨rfl, hb5⟩
        have HE5 := Lib.hid (HE4.out.later hb5)
        have HG5 := Lib.hid (grown_of_below HG4.out hb5)
        have RK5 := Lib.hid (RK.out.kept hb5)
        have HT5 : Hid (RowIs w5 T 63 #[c0, c1, .map (some M)]) := (HG5.out.block T HT.out.lt (fun e => HTM.out (by cases e; rfl))).trans HT.out
        clear hb5 HC q2 HE4 HG4 RK
        cases hfe : f e
        · have hgo : e.goes f = false := by unfold Ent.goes; rw [hfe, Bool.and_false]
          have HS := goes_snoc f done e
          have HS2 := stays_snoc f done e hgo
          rw [hgo] at HS
          go_wp2_with fail
          refine ⟨⟨n, done ++ [e], L', rfl, ?_, ?_, HP5, HG5.out⟩, ?_⟩
          · show n = _
            rw [HS, ← HNE.out]
            rfl
          · show IterAt _ _ _ _ _ _ _
            rw [HS2, List.map_append]
            exact (HE5.out.lperm HL'.out).kperm (List.perm_append_comm (l₁ := [e.kv]))
          · rw [HE5.out.left_eq]
            exact HMEAS.out
        · have hgo : e.goes f = true := by unfold Ent.goes; rw [hfe, hfx]; rfl
          have HS := Lib.hid (goes_snoc f done e)
          have HS2 := Lib.hid (stays_snoc' f done e hgo)
          rw [hgo] at HS
          have HGO := Lib.hid hgo
          clear hgo
          go_upto_region 6 with fail
          have k1 := cell_regrown (show w5.cell? ⟨T, 2, none⟩ = some (.map (some M)) from HT5.out.cell 2)
          refine wp_region_mix 5 (by kernel_rfl) (by kernel_rfl) (by kernel_rfl) ?_
          (refine mix_step (by kernel_rfl) (by kernel_rfl) (fun K hK => ?_); go_simp; (try (simp only [↓IntWalk.iteOmega]; go_simp)); (first | (refine hK _ ?_; clear hK K) | (apply Exists.intro; refine ⟨fun _ => ?_, hK _ ?_⟩; (first | fail); clear hK K)))
          (refine mix_step (by kernel_rfl) (by kernel_rfl) (fun K hK => ?_); go_simp; (try (simp only [↓IntWalk.iteOmega]; go_simp)); (first | (refine hK _ ?_; clear hK K) | (apply Exists.intro; refine ⟨fun _ => ?_, hK _ ?_⟩; (first | fail); clear hK K)))
          (refine mix_step (by kernel_rfl) (by kernel_rfl) (fun K hK => ?_); go_simp; (try (simp only [↓IntWalk.iteOmega]; go_simp)); (first | (refine hK _ ?_; clear hK K) | (apply Exists.intro; refine ⟨fun _ => ?_, hK _ ?_⟩; (first | fail); clear hK K)))
          (refine mix_step (by kernel_rfl) (by kernel_rfl) (fun K hK => ?_); go_simp; (try (simp only [↓IntWalk.iteOmega]; go_simp)); (first | (refine hK _ ?_; clear hK K) | (apply Exists.intro; refine ⟨fun _ => ?_, hK _ ?_⟩; (first | fail); clear hK K)))
          refine mix_exact (.agg #[.int .i64 e.v, .int .u8 (e.m.a.toNat : Int), .int .u8 (e.m.b.toNat : Int), .int .u8 (e.m.c.toNat : Int), .int .u8 (e.m.d.toNat : Int), .int .u8 (e.m.e.toNat : Int), .int .u8 (e.m.f.toNat : Int)]) rfl (exact_load_row rfl rfl (by simp) RK5.out Try.underlying65 rfl info_key) ?_
          refine mix_nil ?_
          rintro ⟨dq, osq⟩
          have hbq := below_regrown w5 dq osq
          have HE6 := Lib.hid (HE5.out.later hbq)
          have HG6 := Lib.hid (grown_of_below HG5.out hbq)
          clear k1 HE5 HG5 RK5 HT5
          generalize grow (redrawn w5 dq) osq = w6 at *
          refine (show wpList _ _ _ _ _ _ from ?_)
          simp only [List.drop, Act.put, List.setIfInBounds_toArray, List.set]
          clear hbq
          obtain ⟨x, hx⟩ := keyOf_learn e.v HHV.out e.m
          obtain ⟨w7, hdel, HI7, hoth7, hsz7, hb7⟩ := run_delete_hitI learn_keyed (ty := 0) (t := 61) Try.underlying61 HE6.out hx
          simp only [keyV] at hdel
          have HI7 := Lib.hid HI7
          have HG7 := Lib.hid (grown_of_set HG6.out (.inr rfl) hoth7 (hb7 0 (Nat.zero_le _)))
          clear hoth7 hsz7 hb7 hx
          go_wp2_with fail
          refine ⟨⟨n + 1, done ++ [e], L', rfl, ?_, ?_, HP5, HG7.out⟩, ?_⟩
          · show n + 1 = _
            rw [HS.out, ← HNE.out]
            rfl
          · show IterAt _ _ _ _ _ _ _
            rw [HS2.out]
            exact HI7.out.lperm HL'.out
          · rw [HI7.out.left_eq]
            exact HMEAS.out
      · rw [hfx] at q2
        have hgo : e.goes f = false := by unfold Ent.goes; rw [hfx]; rfl
        have HS := goes_snoc f done e
        have HS2 := stays_snoc f done e hgo
        rw [hgo] at HS
        go_wp2_with fail
        refine ⟨⟨n, done ++ [e], L', rfl, ?_, ?_, HP5, HG4.out⟩, ?_⟩
        · show n = _
          rw [HS, ← HNE.out]
          rfl
        · show IterAt _ _ _ _ _ _ _
          rw [HS2, List.map_append]
          exact (HE4.out.lperm HL'.out).kperm (List.perm_append_comm (l₁ := [e.kv]))
        · rw [HE4.out.left_eq]
          exact HMEAS.out

theorem cell_lt {w : World} {b o : Nat} {v : Value} (h : w.cell? ⟨b, o, none⟩ = some v) : b < w.heap.size := by
  rcases Nat.lt_or_ge b w.heap.size with h1 | h1
  · exact h1
  · unfold World.cell? at h
    rw [Array.getElem?_eq_none (by exact h1)] at h
    simp at h

set_option maxHeartbeats 2000000 in
theorem drop1_any (pb : Nat) (port : Int) (w : World) (e : Ent) (hp : w.cell? ⟨pb, 0, none⟩ = some (.int .i64 port)) :
    Calls Try.prog 30 #[.agg #[.int .i64 e.port, .int .i64 e.age, .bool e.fixed], .pointer (some ⟨pb, 0, none⟩)] w fun r W' => r = .returned (.bool (e.port == port)) ∧ Below w.heap.size w W' := by
  have q : (w.alloc (.cells #[.int .i64 e.port, .int .i64 e.age, .bool e.fixed] 67)).cell? ⟨pb, 0, none⟩ = some (.int .i64 port) := (((Below.refl _ w).alloc (Nat.le_refl _) _).cell (p := ⟨pb, 0, none⟩) (cell_lt hp)).trans hp
  go_enter Try.func30, Try.ntmps30
  go_wp2_with fail
  go_ret
  exact ⟨rfl, (Below.refl _ w).alloc (Nat.le_refl _) _⟩

set_option maxHeartbeats 2000000 in
/-- Drop: those of a port go -/
theorem drop_any (T M : Nat) (port : Int) (c0 c1 : Value) (L : List Ent) (w : World) (hT : RowIs w T 63 #[c0, c1, .map (some M)]) (hM : MapP Try.prog 65 w M (L.map Ent.kv)) (hL : L.length ≤ 1000000) (hv : ∀ e ∈ L, I64 e.v) :
    Calls Try.prog 13 #[.pointer (some ⟨T, 0, none⟩), .int .i64 port] w fun r w' => r = .returned (.int .i64 ((L.filter (Ent.goes fun e => e.port == port)).length : Nat)) ∧ MapP Try.prog 65 w' M ((L.filter (Ent.stays fun e => e.port == port)).map Ent.kv) ∧ w.grownBy w' (some M) := by
  have hb : Below w.heap.size w (w.alloc (.cells #[.int .i64 port] 3)) := (Below.refl _ w).alloc (Nat.le_refl _) _
  have hpc : (w.alloc (.cells #[.int .i64 port] 3)).cell? ⟨w.heap.size, 0, none⟩ = some (.int .i64 port) := (rowIs_new w 3 #[.int .i64 port]).cell 0
  have H := Lib.hid (gone_any T M 30 (.pointer (some ⟨w.heap.size, 0, none⟩)) (fun e => e.port == port) c0 c1 L _ (hT.kept hb) (hM.kept hb) hL hv (enters_of Try.func30 (by kernel_rfl) rfl) (fun W e hg => drop1_any w.heap.size port W e ((RowIs.cell (show RowIs W w.heap.size 3 #[.int .i64 port] from (hg.block w.heap.size (by simp) (fun h => by
    have := hM.lt
    cases h
    omega)).trans (rowIs_new w 3 #[.int .i64 port])) 0))))
  have hs : w.heap.size ≤ (w.alloc (.cells #[.int .i64 port] 3)).heap.size := hb.size
  clear hT hM
  go_enter Try.func13, Try.ntmps13
  go_wp2_with fail
  refine H.out.mono ?_
  rintro r w2 ⟨rfl, hm2, hg2⟩
  go_wp2_with fail
  go_ret
  exact ⟨rfl, hm2, ⟨hg2.os.trans hb.os, hg2.tape.trans hb.tape, hg2.output.trans hb.output, Nat.le_trans hb.size hg2.size, fun k hk hne => (hg2.block k (by simp; omega) hne).trans (hb.block k hk)⟩⟩
end Go.Proofs.Ytcdklbhfcfamnaa
