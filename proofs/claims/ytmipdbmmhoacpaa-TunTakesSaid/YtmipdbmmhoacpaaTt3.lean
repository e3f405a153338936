/- causeyref12.Take of a piece. By an AI agent. -/
import Derived.Test.YtmipdbmmhoacpaaTt2
import Derived.Test.YtmipdbmmhoacpaaStep
import Derived.Laws.AppendOwnNone
import Derived.Deep.DeepCutAuto
import Derived.Deep.RegionHeld
import Derived.OrdersHeld
namespace Go.Proofs.Ytmipdbmmhoacpaa
open Go.RowKit Go.Sort Grow

theorem info_text : ∃ i z, Try.prog.info? 79 = some i ∧ i.zero = some z ∧ i.size = 8 ∧ i.bytes = 72 ∧ z.cells.size = 8 := by
  have h : (Try.prog.info? 79).map (fun i => (i.zero.map (·.cells.size), i.size, i.bytes)) = some (some 8, 8, 72) := by kernel_rfl
  obtain ⟨i, hi, h⟩ := Option.map_eq_some_iff.1 h
  simp only [Prod.mk.injEq] at h
  obtain ⟨z, hz, h18⟩ := Option.map_eq_some_iff.1 h.1
  exact ⟨i, z, hi, hz, h.2.1, h.2.2, h18⟩
theorem run_build_text (n c : Int) (w : World) : (Instr.build 79 #[(0, .int .u32 n), (1, .int .i64 c)]).run Try.prog w = .ok (.agg #[.int .u32 n, .int .i64 c, .bool false, .bool false, .bool false, .string ⟨#[]⟩, .string ⟨#[]⟩, .string ⟨#[]⟩]) w := by kernel_rfl
/-- a struct built of two parts, by an equation of its own -/
theorem wpList_build2 {P : Program} {ops : Array Oper} {rest : List Oper} {op : Oper} {a : Act} {w : World} {Q : Exit → Act → World → Prop} (hgd : Region.wanted op (yielded ops a.tmps) = true) (t f0 f1 : Nat) (x0 x1 : Operand)
    (ho : op.op = .build t #[(f0, x0), (f1, x1)]) (v0 v1 v : Value) (h0 : a.eval x0 = v0) (h1 : a.eval x1 = v1)
    (hv : (Instr.build t #[(f0, v0), (f1, v1)]).run P w = .ok v w) (h : wpList P ops Q rest (a.put op.dst v) w) : wpList P ops Q (op :: rest) a w :=
  BigFrame.wpList_want hgd fun K hK => by
    unfold Oper.wp execOp
    simp only [ho]
    rw [show Array.map (fun x => (x.fst, a.eval x.snd)) #[(f0, x0), (f1, x1)] = #[(f0, v0), (f1, v1)] by simp [h0, h1]]
    rw [Sem.run_bind, hv]
    exact hK _ _ h

/-- a slice literal of one part, by an equation of its own -/
theorem wpList_bs1 {P : Program} {ops : Array Oper} {rest : List Oper} {op : Oper} {a : Act} {w : World} {Q : Exit → Act → World → Prop} (hgd : Region.wanted op (yielded ops a.tmps) = true) (t e : TypeId) (sz : Nat) (x : Operand)
    (ho : op.op = .buildSlice t 1 #[(0, x)]) (v : Value) (hx : a.eval x = v) (cells : Array Value) (z : Value) (hu : P.underlying t = some (.slice e)) (hi : (P.info? e).map (fun i => (i.zero, i.size)) = some (some z, sz)) (hsmall : ¬ 1 * sz > 2 ^ 24) (hpos : ¬ 1 * sz = 0)
    (hf : Instr.fill (fun i => some (i * sz, sz)) ((Array.range (1 * sz)).map (z.cells[· % z.cells.size]!)) [(0, v)] = some cells)
    (h : wpList P ops Q rest (a.put op.dst (.slice (some ⟨w.heap.size, 0, none⟩) 1 1)) (w.alloc (.cells cells e))) : wpList P ops Q (op :: rest) a w :=
  BigFrame.wpList_want hgd fun K hK => by
    obtain ⟨ie, hie, he0⟩ := Option.map_eq_some_iff.1 hi
    simp only [Prod.mk.injEq] at he0
    obtain ⟨hz, rfl⟩ := he0
    unfold Oper.wp execOp
    simp only [ho]
    rw [show Array.map (fun x => (x.fst, a.eval x.snd)) #[(0, x)] = #[(0, v)] by simp [hx]]
    rw [Sem.run_bind, run_buildSlice w t e 1 _ cells ie z hu hie hz hsmall hpos hf]
    exact hK _ _ h

theorem run_bs0 (w : World) : (Instr.buildSlice 57 0 #[]).run Try.prog w = .ok (.slice (some ⟨w.heap.size, 0, none⟩) 0 0) (w.alloc (.cells #[] 79)) := by go_simp
section
variable {md : Region.Mode} {ops : Array Oper} {Q : Exit → Act → World → Prop} {fuel : Nat} {listed : Array Bool} {a : Act} {w : World}
theorem ar_bs0 {i : Nat} {o : Oper} (ho : ops[i]? = some o) (hw : Region.wanted o (yielded ops a.tmps) = true) (hop : o.op = .buildSlice 57 0 #[])
    (h : wpAnyH Try.prog md ops Q (fun _ => True) fuel (listed.setIfInBounds i true) (a.put o.dst (.slice (some ⟨w.heap.size, 0, none⟩) 0 0)) (w.alloc (.cells #[] 79))) : AllReadyH Try.prog md ops Q (fun _ => True) fuel listed a w [i] :=
  AllReadyH.cons ho (fun K hK => by
    rw [if_pos hw]
    unfold Oper.wp execOp
    simp only [hop, List.map_toArray, List.map_nil, Sem.run_bind, run_bs0, Result.andThen_ok, Sem.run_pure]
    exact hK.out _ _ trivial (fun _ => h)) AllReadyH.nil
theorem ar_append {P : Program} {j : Nat} {o : Oper} (ho : ops[j]? = some o) (hw : Region.wanted o (yielded ops a.tmps) = true) (s x : Operand) (t : TypeId)
    (hop : o.op = .call { callee := .builtin .append, args := #[s, x], argTypes := #[t, t] })
    (base : Nat) (e : TypeId) (i : TypeInfo) (z : Value) (size bytes : Nat) (ht : P.underlying t = some (.slice e)) (hi : P.info? e = some i) (hz : i.zero = some z)
    (hsize : i.size = size) (hby : i.bytes = bytes) (hzs : z.cells.size = size) (hsz : 0 < size)
    (v : Value) (n : Nat) (xs : List Value) (hs : a.eval s = v) (hown : w.ownsRow base e size v n xs)
    (ad : Addr) (m c : Nat) (news : List Value) (hx : a.eval x = .slice (some ad) m c) (hl : news.length = m * size) (hnews : ∀ j u, news[j]? = some u → w.cell? (ad.add j) = some u) (h1 : ∀ u ∈ news, u.oneCell' = true)
    (h63 : n + m ≤ maxLen) (hbytes : (n + m) * bytes ≤ 140737488355328) (hbase : base ≤ w.heap.size)
    (h : ∀ v' w', w'.ownsRow base e size v' (n + m) (xs ++ news) → w.grownBy w' v.ownBlock → (v' = .slice none 0 0 ↔ v = .slice none 0 0 ∧ m = 0) → wpAnyH P md ops Q (fun _ => True) fuel (listed.setIfInBounds j true) (a.put o.dst v') w') : AllReadyH P md ops Q (fun _ => True) fuel listed a w [j] :=
  AllReadyH.cons ho (fun K hK => by
    rw [if_pos hw]
    exact wp_append_own w s x t hop base e i z size bytes ht hi hz hsize hby hzs hsz v n xs hs hown ad m c news hx hl hnews h1 h63 hbytes hbase (fun v' w' h2 h3 h4 => hK.out _ _ trivial (fun _ => h v' w' h2 h3 h4))) AllReadyH.nil
end
theorem info_text2 : (Try.prog.info? 79).map (fun i => (i.zero, i.size)) = some (some (.agg #[.int .u32 0, .int .i64 0, .bool false, .bool false, .bool false, .string ⟨#[]⟩, .string ⟨#[]⟩, .string ⟨#[]⟩]), 8) := by kernel_rfl
theorem fill_text (n c : Int) : Instr.fill (fun i => some (i * 8, 8)) ((Array.range (1 * 8)).map ((Value.agg #[.int .u32 0, .int .i64 0, .bool false, .bool false, .bool false, .string ⟨#[]⟩, .string ⟨#[]⟩, .string ⟨#[]⟩]).cells[· % (Value.agg #[.int .u32 0, .int .i64 0, .bool false, .bool false, .bool false, .string ⟨#[]⟩, .string ⟨#[]⟩, .string ⟨#[]⟩]).cells.size]!)) [(0, .agg #[.int .u32 n, .int .i64 c, .bool false, .bool false, .bool false, .string ⟨#[]⟩, .string ⟨#[]⟩, .string ⟨#[]⟩])] = some #[.int .u32 n, .int .i64 c, .bool false, .bool false, .bool false, .string ⟨#[]⟩, .string ⟨#[]⟩, .string ⟨#[]⟩] := by kernel_rfl

/-- a list of texts that is only read -/
def TAt (w : World) (v : Value) (L : List RT) : Prop := (v = .slice none 0 0 ∧ L = []) ∨ ∃ b off cap, v = .slice (some ⟨b, off, none⟩) L.length cap ∧ L.length ≤ cap ∧ b < w.heap.size ∧ (∃ cs, RowIs w b 79 cs) ∧ ∀ i (h : i < L.length) j x, (encT L[i])[j]? = some x → w.cell? ⟨b, off + i * 8 + j, none⟩ = some x
theorem TAt.later {w w' : World} {v : Value} {L : List RT} (h : TAt w v L) (hb : Below w.heap.size w w') : TAt w' v L := by
  rcases h with h | ⟨b, off, cap, h1, h2, h3, ⟨cs, h5⟩, h4⟩
  · exact .inl h
  · exact .inr ⟨b, off, cap, h1, h2, Nat.lt_of_lt_of_le h3 hb.size, ⟨cs, h5.kept hb⟩, fun i hi j x hx => by rw [hb.cell (p := ⟨b, off + i * 8 + j, none⟩) h3]; exact h4 i hi j x hx⟩
def kOf (L : List RT) (n : Nat) : Nat → Int
  | 0 => -1
  | i + 1 => if (L.getD i (RT.new 0 0)).n = n then (i : Int) else kOf L n i
theorem kOf_lt (L : List RT) (n : Nat) : ∀ i, -1 ≤ kOf L n i ∧ kOf L n i < i
  | 0 => by unfold kOf; omega
  | i + 1 => by
    have := kOf_lt L n i
    unfold kOf
    split <;> omega
theorem kOf_no {L : List RT} {n : Nat} : ∀ i, kOf L n i < 0 → ∀ j, j < i → (L.getD j (RT.new 0 0)).n ≠ n
  | 0, _, j, hj => absurd hj (Nat.not_lt_zero _)
  | i + 1, h, j, hj => by
    unfold kOf at h
    split at h
    · omega
    · rename_i hne
      rcases Nat.lt_or_eq_of_le (Nat.le_of_lt_succ hj) with h1 | rfl
      · exact kOf_no i h j h1
      · exact hne
theorem kOf_yes {L : List RT} {n : Nat} : ∀ i (k : Nat), kOf L n i = k → (L.getD k (RT.new 0 0)).n = n
  | 0, k, h => by unfold kOf at h; omega
  | i + 1, k, h => by
    unfold kOf at h
    split at h
    · rename_i he
      have : i = k := by omega
      rwa [this] at he
    · exact kOf_yes i k h
theorem openR_no {L : List RT} {n y : Nat} (h : kOf L n L.length < 0) : openR L n y = (if L.length = 8 then L.tail else L) ++ [RT.new n y] := by
  unfold openR
  rw [if_neg]
  intro hm
  obtain ⟨t, ht, e⟩ := List.mem_map.1 hm
  obtain ⟨j, hj, rfl⟩ := List.mem_iff_getElem.1 ht
  refine kOf_no _ h j hj ?_
  rw [List.getD, List.getElem?_eq_getElem hj]
  exact e
theorem openR_yes {L : List RT} {n y : Nat} {k : Nat} (h : kOf L n L.length = k) : ∃ A t C, L = A ++ t :: C ∧ A.length = k ∧ t.n = n ∧ openR L n y = A ++ t :: C := by
  have h1 := kOf_lt L n L.length
  have hk : k < L.length := by omega
  have h2 := kOf_yes _ _ h
  rw [List.getD, List.getElem?_eq_getElem hk] at h2
  have e : L = L.take k ++ L[k] :: L.drop (k + 1) := by rw [← List.drop_eq_getElem_cons hk, List.take_append_drop]
  refine ⟨L.take k, L[k], L.drop (k + 1), e, by rw [List.length_take]; omega, h2, ?_⟩
  unfold openR
  rw [if_pos (List.mem_map.2 ⟨L[k], List.getElem_mem hk, h2⟩)]
  exact e

theorem one_flat (L : List RT) : ∀ u ∈ L.flatMap encT, u.oneCell' = true := fun u hu => by
  obtain ⟨t, _, ht⟩ := List.mem_flatMap.1 hu
  simp only [encT, List.mem_cons, List.not_mem_nil, or_false] at ht
  rcases ht with rfl | rfl | rfl | rfl | rfl | rfl | rfl | rfl <;> rfl
theorem openR_size {L : List RT} {n y : Nat} (h : ∀ t ∈ L, ∀ i, (t.p i).size ≤ 512) {t : RT} (ht : t ∈ openR L n y) : ∀ i, (t.p i).size ≤ 512 := by
  unfold openR at ht
  split at ht
  · exact h t ht
  · rcases List.mem_append.1 ht with ht | ht
    · split at ht
      · exact h t (List.mem_of_mem_tail ht)
      · exact h t ht
    · obtain rfl : t = RT.new n y := by simpa using ht
      exact fun i => Nat.zero_le _
theorem tat_of_own {w : World} {base : Nat} {v : Value} {L : List RT} (h : w.ownsRow base 79 8 v L.length (L.flatMap encT)) : TAt w v L := by
  rcases h.2 with ⟨h1, h2⟩ | ⟨g, cap, cur, rfl, hB, hg, hle, hm, hcs, ht⟩
  · exact .inl ⟨h1, List.eq_nil_of_length_eq_zero h2⟩
  · exact .inr ⟨g, 0, cap, rfl, hle, (Array.getElem?_eq_some_iff.1 hg).1, ⟨_, hg⟩, fun i hi j x hx => by
      rw [Nat.zero_add]
      exact (OwnT.mk (base := base) (e := 79) (k := 8) (enc := encT) hB hg hle hm hcs ht).cell encT_len hi hx⟩
theorem openR_len {L : List RT} {n y : Nat} (h : L.length ≤ 8) : (openR L n y).length ≤ 9 := by
  unfold openR
  split
  · omega
  · rw [List.length_append]
    split
    · rw [List.length_tail]; simp; omega
    · simp; omega
theorem OwnT.tat {w : World} {base g cap : Nat} {cur : Array Value} {L : List RT} (h : OwnT w base g cap 79 8 encT cur L) : TAt w (.slice (some ⟨g, 0, none⟩) L.length cap) L :=
  .inr ⟨g, 0, cap, rfl, h.le, h.row.lt, ⟨_, h.row⟩, fun i hi j x hx => by rw [Nat.zero_add]; exact h.cell encT_len hi hx⟩
set_option maxRecDepth 20000 in
set_option maxHeartbeats 60000000 in
theorem refTake_ok (v0 : Value) (L : List RT) (s : ByteArray) (w : World) (n x y : Nat) (h : TAt w v0 L) (hL : L.length ≤ 8) (hsz : ∀ t ∈ L, ∀ i, (t.p i).size ≤ 512) (h8 : 8 ≤ s.size) (h2000 : s.size ≤ 100000) (h0 : s[0].toNat = 1) (ha : s[5].toNat = x) (hc : s[6].toNat = y) (hf : Tun.fits x y (s.size - 7)) (hn : Oct.num (s.extract 1 5).data.toList = n) :
    Calls Try.prog 20 #[v0, .string s] w fun e w' => (∃ A t C, openR L n y = A ++ t :: C ∧ t.n = n ∧ ∃ v', ((t.c ≠ y ∧ e = .returned (.tuple #[v', .string ⟨#[]⟩, .bool false, .int .i64 3]) ∧ TAt w' v' (A ++ t :: C)) ∨
       (t.c = y ∧ t.h x = true ∧ e = .returned (.tuple #[v', .string ⟨#[]⟩, .bool false, .int .i64 10]) ∧ TAt w' v' (A ++ t :: C)) ∨
       (t.c = y ∧ t.h x = false ∧ (∃ i, i < y ∧ (t.put x (s.extract 7 s.size)).h i = false) ∧ e = .returned (.tuple #[v', .string ⟨#[]⟩, .bool false, .int .i64 0]) ∧ TAt w' v' (A ++ t.put x (s.extract 7 s.size) :: C)) ∨
       (t.c = y ∧ t.h x = false ∧ (∀ i, i < y → (t.put x (s.extract 7 s.size)).h i = true) ∧ e = .returned (.tuple #[v', .string (Tun.cat (t.put x (s.extract 7 s.size)).p y), .bool true, .int .i64 0]) ∧ TAt w' v' (A ++ C)))) ∧ Below w.heap.size w w' := by
  have HT := Lib.hid h
  have HSZ := Lib.hid hsz
  obtain ⟨f1, f2, f3, f4, f5⟩ := hf
  obtain ⟨ti, tz, hti, htz, hz1, hz2, hz3⟩ := info_text
  have HTI := Lib.hid hti
  have HTZ := Lib.hid htz
  clear hti htz h hsz
  have N := Lib.hid (fun w => refNumber_any (s.extract 1 5) w (by simp; omega))
  have hnum := Oct.num_lt 4 (s.extract 1 5).data.toList (by simp; omega)
  have hnum : Oct.num (s.extract 1 5).data.toList < 4294967296 := Nat.lt_of_lt_of_eq hnum (by decide)
  rw [hn] at N hnum
  clear hn
  have hab := s[5].toNat_lt
  have hcb := s[6].toNat_lt
  have hxs : (s.extract 7 s.size).size = s.size - 7 := by rw [ByteArray.size_extract]; omega
  have HBS : Hid ((s.extract 7 s.size).size ≤ 512) := by show _ ≤ _; omega
  have hz : ((s.size : Int) == 0) = false := by rw [beq_eq_false_iff_ne]; omega
  have hx0 : (0 : Int) < (s.size : Int) := by omega
  have dd : decide ((s.size : Int) < 8) = false := decide_eq_false (by omega)
  have wn : IntKind.u32.wrap (n : Int) = n := by rw [IntKind.wrap_u32']; omega
  have wx : IntKind.i64.wrap (x : Int) = x := by rw [IntKind.wrap_i64]; omega
  have wy : IntKind.i64.wrap (y : Int) = y := by rw [IntKind.wrap_i64]; omega
  have wy1 : IntKind.i64.wrap ((y : Int) - 1) = (y : Int) - 1 := by rw [IntKind.wrap_i64]; omega
  have d1 : decide ((y : Int) < 1) = false := decide_eq_false (by omega)
  have d2 : decide (3 < (y : Int)) = false := decide_eq_false (by omega)
  have d3 : decide ((y : Int) ≤ (x : Int)) = false := decide_eq_false (by omega)
  have d3n : decide (y ≤ x) = false := decide_eq_false (by omega)
  have d5 : decide (512 < ((s.size - 7 : Nat) : Int)) = false := decide_eq_false (by omega)
  have hlast : decide ((x : Int) < (y : Int) - 1) = false ∨ (decide ((x : Int) < (y : Int) - 1) = true ∧ decide (((s.size - 7 : Nat) : Int) < 512) = false) := by
    by_cases h1 : x + 1 = y
    · exact .inl (decide_eq_false (by omega))
    · exact .inr ⟨decide_eq_true (by omega), decide_eq_false (by omega)⟩
  clear f5
  go_enter Try.func20, Try.ntmps20
  go_wp2_with fail
  refine (N.out _).mono ?_
  rintro e w1 ⟨rfl, rfl⟩
  clear N
  go_upto_region 12 with fail
  go_quiet (fail)
  have hbq : Below w.heap.size w (w.drewN nq) := below_drewN (Below.refl _ _) _
  replace HT := Lib.hid (HT.out.later hbq)
  generalize w.drewN nq = w2 at *
  go_upto_region 13 with fail
  go_cut [75] (fun u wx => u = .bool false ∧ wx = w2)
  case first =>
    rcases hlast with d6 | ⟨d6, d7⟩
    · go_wp2_with fail
      go_meet
      exact ⟨rfl, rfl⟩
    · go_wp2_with fail
      go_meet
      exact ⟨rfl, rfl⟩
  case rest =>
  obtain ⟨rfl, rfl⟩ := hcut
  clear d1 d2 d3 d3n d5 hlast wy1 dd hz hx0 h0
  have HVL : Hid (∃ ao cap, v0 = .slice ao L.length cap) := by
    rcases HT.out with ⟨rfl, rfl⟩ | ⟨b, off, cap, rfl, _⟩
    · exact ⟨none, 0, rfl⟩
    · exact ⟨_, _, rfl⟩
  obtain ⟨ao, cap0, rfl⟩ := HVL.out
  clear HVL
  rename World => w3
  go_upto_region 17 with fail
  go_wp2_with fail
  go_loop [13, 14] (fun s13 s14 => ∃ i : Nat, i ≤ L.length ∧ s14 = .int .i64 i ∧ s13 = .int .i64 (kOf L n i)) (fun _ s14 => L.length - (intOf s14).toNat)
  case atStart => exact ⟨0, Nat.zero_le _, rfl, rfl⟩
  case round =>
    obtain ⟨i, hi, rfl, rfl⟩ := hrel
    by_cases hlt : i < L.length
    · have HST : Hid (kOf L n (i + 1) = if (L.getD i (RT.new 0 0)).n = n then (i : Int) else kOf L n i) := rfl
      rcases HT.out with ⟨_, h⟩ | ⟨b, off, cap, hv, hle, hb, _, hcl⟩
      · rw [h] at hlt; exact absurd hlt (Nat.not_lt_zero _)
      simp only [Value.slice.injEq, true_and] at hv
      obtain ⟨rfl, rfl⟩ := hv
      have f1 : w3.cell? ⟨b, off + i * 8, none⟩ = some (U32 (L.getD i (RT.new 0 0)).n) := by
        have := hcl i hlt 0 (U32 L[i].n) rfl
        rw [Nat.add_zero] at this
        rw [this, List.getD, List.getElem?_eq_getElem hlt]
        rfl
      have hx0 : (0 : Int) ≤ (i : Int) := by omega
      have hx1 : (i : Int) < (L.length : Int) := by omega
      clear hcl
      generalize (L.getD i (RT.new 0 0)).n = m at *
      generalize hk' : kOf L n (i + 1) = k' at *
      have HSE : Hid (kOf L n (i + 1) = k') := hk'
      clear hk'
      by_cases hm : m = n
      · rw [if_pos hm] at HST
        have e1 : ((m : Int) == (n : Int)) = true := by rw [hm]; simp
        clear hm
        go_wp2_with fail
        exact ⟨⟨i + 1, by omega, by go_num, by rw [HSE.out, HST.out]⟩, by simp [intOf]; omega⟩
      · rw [if_neg hm] at HST
        have e1 : ((m : Int) == (n : Int)) = false := by rw [beq_eq_false_iff_ne]; omega
        clear hm
        go_wp2_with fail
        exact ⟨⟨i + 1, by omega, by go_num, by rw [HSE.out, HST.out]⟩, by simp [intOf]; omega⟩
    · obtain rfl : i = L.length := by omega
      clear hlt hi
      have HKL := Lib.hid (kOf_lt L n L.length)
      have HKN : Hid (kOf L n L.length < 0 → openR L n y = (if L.length = 8 then L.tail else L) ++ [RT.new n y]) := openR_no
      have HKY : Hid (∀ k : Nat, kOf L n L.length = k → ∃ A t C, L = A ++ t :: C ∧ A.length = k ∧ t.n = n ∧ openR L n y = A ++ t :: C) := fun k hk => openR_yes hk
      generalize kOf L n L.length = kk at *
      go_upto_if 92 with fail
      generalize hdn : decide (kk < 0) = dn at *
      have HDN := Lib.hid hdn
      clear hdn
      go_cut [0, 12, 13] (fun _ u12 u13 wx => ∃ A t C g cap cur m1, openR L n y = A ++ t :: C ∧ t.n = n ∧ m1 = (A ++ t :: C).length ∧ u12 = .slice (some ⟨g, 0, none⟩) m1 cap ∧ u13 = .int .i64 (A.length : Nat) ∧ OwnT wx w3.heap.size g cap 79 8 encT cur (A ++ t :: C) ∧ Below w3.heap.size w3 wx)
      case first =>
        as_aux_lemma =>
        cases dn
        case true =>
          have hneg : kk < 0 := of_decide_eq_true HDN.out
          have HOP := Lib.hid (HKN.out hneg)
          clear HKN HKY hneg
          by_cases hl8 : L.length = 8
          · rcases HT.out with ⟨_, h⟩ | ⟨b, off, cap, hv, hle, hb, _, hcl⟩
            · rw [h] at hl8; cases hl8
            simp only [Value.slice.injEq, true_and] at hv
            obtain ⟨rfl, rfl⟩ := hv
            have e8 : ((L.length : Int) == 8) = true := by rw [hl8]; rfl
            have HL8 : Hid (L.length = 8) := hl8
            rw [if_pos hl8] at HOP
            have hg1 : (1 : Int) ≤ (L.length : Int) := by omega
            have hg2 : (L.length : Int) ≤ (cap0 : Int) := by omega
            have hg3 : ¬ cap0 = 1 := by omega
            clear hl8
            go_upto_region 25 with fail
            have hcl' : ∀ i (h : i < L.tail.length) j u, (encT L.tail[i])[j]? = some u → w3.cell? ⟨b, (off + 8) + i * 8 + j, none⟩ = some u := fun i hi j u hu => by
              rw [List.length_tail] at hi
              have := hcl (i + 1) (by omega) j u (by rw [← List.getElem_tail (l := L) (h := by rw [List.length_tail]; omega)]; exact hu)
              rw [show off + 8 + i * 8 + j = off + (i + 1) * 8 + j by omega]
              exact this
            have HNW := Lib.hid (rows_news (w := w3) (enc := encT) encT_len hcl' (by decide))
            have HLN : Hid (L.tail.length = L.length - 1) := List.length_tail
            have HFL : Hid ((L.tail.flatMap encT).length = (L.length - 1) * 8) := by show _ = _; rw [flat_len18 (enc := encT) encT_len, HLN.out]
            have HON : Hid (∀ u ∈ L.tail.flatMap encT, u.oneCell' = true) := one_flat _
            clear hcl hcl' e8 hg1 hg2 hg3
            go_wp2_with (at_builtin; refine wpList_append_own _ rfl (.tmp 98) (.tmp 99) 57 rfl (w3.heap.size) 79 ti tz 8 72 Try.underlying57 HTI.out HTZ.out hz1 hz2 hz3 (by decide) (.slice none 0 0) 0 [] rfl (World.ownsRow_nil _ _ _ _) ⟨b, off + 8, none⟩ (L.length - 1) (cap0 - 1) ((L.tail).flatMap encT) rfl HFL.out HNW.out HON.out (by simp [maxLen]; omega) (by omega) (Nat.le_refl _) ?_)
            intro v7 w7 ho7 hg7 _
            have HO : Hid (w7.ownsRow w3.heap.size 79 8 v7 (L.tail).length ((L.tail).flatMap encT)) := by
              show World.ownsRow _ _ _ _ _ _ _
              (try rw [HLN.out])
              simpa using ho7
            have hbk : Below w3.heap.size w3 w7 := (Below.refl _ w3).grown hg7 (Nat.le_refl _) (fun k e1 => by cases e1)
            clear ho7 hg7 HNW HFL HON
            have hsz7 : w3.heap.size ≤ w7.heap.size := hbk.size
            have hL7 : (L.tail).length ≤ 7 := by have := HLN.out; omega
            go_wp2_with (first
              | ((with_reducible refine at_dst 104 ?_); refine wpList_build2 rfl 79 0 1 (.tmp 102) (.tmp 103) rfl (.int .u32 (n : Int)) (.int .i64 (y : Int)) _ rfl rfl (run_build_text _ _ _) ?_; simp only [Act.put, List.setIfInBounds_toArray, List.set])
              | ((with_reducible refine at_dst 105 ?_); refine wpList_bs1 rfl 57 79 8 (.tmp 104) rfl _ rfl #[.int .u32 (n : Int), .int .i64 (y : Int), .bool false, .bool false, .bool false, .string ⟨#[]⟩, .string ⟨#[]⟩, .string ⟨#[]⟩] (.agg #[.int .u32 0, .int .i64 0, .bool false, .bool false, .bool false, .string ⟨#[]⟩, .string ⟨#[]⟩, .string ⟨#[]⟩]) Try.underlying57 info_text2 (by decide) (by decide) (fill_text _ _) ?_; simp only [Act.put, List.setIfInBounds_toArray, List.set])
              | (at_builtin; refine wpList_append_own _ rfl (.tmp 101) (.tmp 105) 57 rfl (w3.heap.size) 79 ti tz 8 72 Try.underlying57 HTI.out HTZ.out hz1 hz2 hz3 (by decide) v7 ((L.tail).length) _ rfl (HO.out.alloc _) ⟨w7.heap.size, 0, none⟩ 1 1 (encT (RT.new n y)) rfl ?c0b ?c1b ?c2b ?c3b ?c4b ?c5b ?_))
            (try case c0b => rfl)
            (try case c1b =>
              intro j u hj
              first
                | exact hj
                | (rw [addr_add, (rowIs_new w7 _ _).cell j, ← Array.getElem?_toList]; exact hj))
            (try case c2b => intro u hu; simp only [encT, List.mem_cons, List.not_mem_nil, or_false] at hu; rcases hu with rfl | rfl | rfl | rfl | rfl | rfl | rfl | rfl <;> rfl)
            (try case c3b => first | (simp [maxLen]; done) | (simp [maxLen]; omega))
            (try case c4b => first | omega | (simp; done))
            (try case c5b => first | omega | (simp; omega))
            intro v8 w8 ho8 hg8 _
            have hO8 : w8.ownsRow w3.heap.size 79 8 v8 (L.tail ++ [RT.new n y]).length ((L.tail ++ [RT.new n y]).flatMap encT) := by
              rw [List.flatMap_append, List.length_append]
              simpa using ho8
            have hbk8 : Below w3.heap.size w3 w8 := (hbk.alloc hsz7 _).grown hg8 (by first | (simp; done) | (simp; omega)) (fun k e1 => (HO.out.lt k e1).1)
            obtain ⟨g, cap, cur, rfl, hOT⟩ := OwnT.of hO8 (by simp)
            have HOT := Lib.hid hOT
            have HLN1 : Hid (((L.tail) ++ [RT.new n y]).length = (L.tail).length + 1) := by show _ = _; simp
            clear ho8 hg8 hO8 hbk HO hOT
            generalize hm1 : ((L.tail) ++ [RT.new n y]).length = m1 at *
            have HM1 := Lib.hid hm1
            clear hm1
            have hwk : IntKind.i64.wrap ((m1 : Int) - 1) = ((L.tail).length : Int) := by rw [IntKind.wrap_i64, HLN1.out]; omega
            go_wp2_with fail
            go_meet
            exact ⟨L.tail, RT.new n y, [], g, cap, cur, m1, HOP.out, rfl, HM1.out.symm, rfl, (by rw [HLN.out]), HOT.out, hbk8⟩
          · have e8 : ((L.length : Int) == 8) = false := by rw [beq_eq_false_iff_ne]; omega
            rw [if_neg hl8] at HOP
            have hlt7 : L.length ≤ 7 := by omega
            clear hl8
            rcases HT.out with ⟨hv, h⟩ | ⟨b, off, cap, hv, hle, hb, _, hcl⟩
            · subst h
              simp only [Value.slice.injEq, true_and, List.length_nil] at hv
              obtain ⟨rfl, rfl⟩ := hv
              have HLN : Hid (([] : List RT).length = 0) := rfl
              go_upto_region 25 with fail
              have HO : Hid (w3.ownsRow w3.heap.size 79 8 (.slice none 0 0) (([] : List RT)).length ((([] : List RT)).flatMap encT)) := World.ownsRow_nil _ _ _ _
              have hbk : Below w3.heap.size w3 w3 := Below.refl _ _
              have hsz7 : w3.heap.size ≤ w3.heap.size := hbk.size
              have hL7 : (([] : List RT)).length ≤ 7 := by have := HLN.out; omega
              go_wp2_with (first
                | (at_builtin; refine wpList_append_own_none rfl (.tmp 98) (.tmp 99) 57 rfl (w3.heap.size) 79 ti 8 Try.underlying57 HTI.out (.slice none 0 0) 0 [] rfl (World.ownsRow_nil _ _ _ _) rfl ?_)
                | ((with_reducible refine at_dst 104 ?_); refine wpList_build2 rfl 79 0 1 (.tmp 102) (.tmp 103) rfl (.int .u32 (n : Int)) (.int .i64 (y : Int)) _ rfl rfl (run_build_text _ _ _) ?_; simp only [Act.put, List.setIfInBounds_toArray, List.set])
                | ((with_reducible refine at_dst 105 ?_); refine wpList_bs1 rfl 57 79 8 (.tmp 104) rfl _ rfl #[.int .u32 (n : Int), .int .i64 (y : Int), .bool false, .bool false, .bool false, .string ⟨#[]⟩, .string ⟨#[]⟩, .string ⟨#[]⟩] (.agg #[.int .u32 0, .int .i64 0, .bool false, .bool false, .bool false, .string ⟨#[]⟩, .string ⟨#[]⟩, .string ⟨#[]⟩]) Try.underlying57 info_text2 (by decide) (by decide) (fill_text _ _) ?_; simp only [Act.put, List.setIfInBounds_toArray, List.set])
                | (at_builtin; refine wpList_append_own _ rfl (.tmp 101) (.tmp 105) 57 rfl (w3.heap.size) 79 ti tz 8 72 Try.underlying57 HTI.out HTZ.out hz1 hz2 hz3 (by decide) (.slice none 0 0) ((([] : List RT)).length) _ rfl (HO.out.alloc _) ⟨w3.heap.size, 0, none⟩ 1 1 (encT (RT.new n y)) rfl ?c0c ?c1c ?c2c ?c3c ?c4c ?c5c ?_))
              (try case c0c => rfl)
              (try case c1c =>
                intro j u hj
                first
                  | exact hj
                  | (rw [addr_add, (rowIs_new w3 _ _).cell j, ← Array.getElem?_toList]; exact hj))
              (try case c2c => intro u hu; simp only [encT, List.mem_cons, List.not_mem_nil, or_false] at hu; rcases hu with rfl | rfl | rfl | rfl | rfl | rfl | rfl | rfl <;> rfl)
              (try case c3c => first | (simp [maxLen]; done) | (simp [maxLen]; omega))
              (try case c4c => first | omega | (simp; done))
              (try case c5c => first | omega | (simp; omega))
              intro v8 w8 ho8 hg8 _
              have hO8 : w8.ownsRow w3.heap.size 79 8 v8 (([] : List RT) ++ [RT.new n y]).length ((([] : List RT) ++ [RT.new n y]).flatMap encT) := by
                rw [List.flatMap_append, List.length_append]
                simpa using ho8
              have hbk8 : Below w3.heap.size w3 w8 := (hbk.alloc hsz7 _).grown hg8 (by first | (simp; done) | (simp; omega)) (fun k e1 => (HO.out.lt k e1).1)
              obtain ⟨g, cap, cur, rfl, hOT⟩ := OwnT.of hO8 (by simp)
              have HOT := Lib.hid hOT
              have HLN1 : Hid (((([] : List RT)) ++ [RT.new n y]).length = (([] : List RT)).length + 1) := by show _ = _; simp
              clear ho8 hg8 hO8 hbk HO hOT
              generalize hm1 : ((([] : List RT)) ++ [RT.new n y]).length = m1 at *
              have HM1 := Lib.hid hm1
              clear hm1
              have hwk : IntKind.i64.wrap ((m1 : Int) - 1) = ((([] : List RT)).length : Int) := by rw [IntKind.wrap_i64, HLN1.out]; omega
              go_wp2_with fail
              go_meet
              exact ⟨([] : List RT), RT.new n y, [], g, cap, cur, m1, HOP.out, rfl, HM1.out.symm, rfl, rfl, HOT.out, hbk8⟩
            · simp only [Value.slice.injEq, true_and] at hv
              obtain ⟨rfl, rfl⟩ := hv
              go_upto_region 25 with fail
              have HNW := Lib.hid (rows_news (w := w3) (enc := encT) encT_len hcl (by decide))
              have HLN : Hid (L.length = L.length) := rfl
              have HFL : Hid ((L.flatMap encT).length = L.length * 8) := flat_len18 (enc := encT) encT_len L
              have HON : Hid (∀ u ∈ L.flatMap encT, u.oneCell' = true) := one_flat _
              clear hcl e8
              go_wp2_with (at_builtin; refine wpList_append_own _ rfl (.tmp 98) (.tmp 99) 57 rfl (w3.heap.size) 79 ti tz 8 72 Try.underlying57 HTI.out HTZ.out hz1 hz2 hz3 (by decide) (.slice none 0 0) 0 [] rfl (World.ownsRow_nil _ _ _ _) ⟨b, off, none⟩ (L.length) (cap0) ((L).flatMap encT) rfl HFL.out HNW.out HON.out (by simp [maxLen]; omega) (by omega) (Nat.le_refl _) ?_)
              intro v7 w7 ho7 hg7 _
              have HO : Hid (w7.ownsRow w3.heap.size 79 8 v7 (L).length ((L).flatMap encT)) := by
                show World.ownsRow _ _ _ _ _ _ _
                (try rw [HLN.out])
                simpa using ho7
              have hbk : Below w3.heap.size w3 w7 := (Below.refl _ w3).grown hg7 (Nat.le_refl _) (fun k e1 => by cases e1)
              clear ho7 hg7 HNW HFL HON
              have hsz7 : w3.heap.size ≤ w7.heap.size := hbk.size
              have hL7 : (L).length ≤ 7 := by have := HLN.out; omega
              go_wp2_with (first
                | ((with_reducible refine at_dst 104 ?_); refine wpList_build2 rfl 79 0 1 (.tmp 102) (.tmp 103) rfl (.int .u32 (n : Int)) (.int .i64 (y : Int)) _ rfl rfl (run_build_text _ _ _) ?_; simp only [Act.put, List.setIfInBounds_toArray, List.set])
                | ((with_reducible refine at_dst 105 ?_); refine wpList_bs1 rfl 57 79 8 (.tmp 104) rfl _ rfl #[.int .u32 (n : Int), .int .i64 (y : Int), .bool false, .bool false, .bool false, .string ⟨#[]⟩, .string ⟨#[]⟩, .string ⟨#[]⟩] (.agg #[.int .u32 0, .int .i64 0, .bool false, .bool false, .bool false, .string ⟨#[]⟩, .string ⟨#[]⟩, .string ⟨#[]⟩]) Try.underlying57 info_text2 (by decide) (by decide) (fill_text _ _) ?_; simp only [Act.put, List.setIfInBounds_toArray, List.set])
                | (at_builtin; refine wpList_append_own _ rfl (.tmp 101) (.tmp 105) 57 rfl (w3.heap.size) 79 ti tz 8 72 Try.underlying57 HTI.out HTZ.out hz1 hz2 hz3 (by decide) v7 ((L).length) _ rfl (HO.out.alloc _) ⟨w7.heap.size, 0, none⟩ 1 1 (encT (RT.new n y)) rfl ?c0d ?c1d ?c2d ?c3d ?c4d ?c5d ?_))
              (try case c0d => rfl)
              (try case c1d =>
                intro j u hj
                first
                  | exact hj
                  | (rw [addr_add, (rowIs_new w7 _ _).cell j, ← Array.getElem?_toList]; exact hj))
              (try case c2d => intro u hu; simp only [encT, List.mem_cons, List.not_mem_nil, or_false] at hu; rcases hu with rfl | rfl | rfl | rfl | rfl | rfl | rfl | rfl <;> rfl)
              (try case c3d => first | (simp [maxLen]; done) | (simp [maxLen]; omega))
              (try case c4d => first | omega | (simp; done))
              (try case c5d => first | omega | (simp; omega))
              intro v8 w8 ho8 hg8 _
              have hO8 : w8.ownsRow w3.heap.size 79 8 v8 (L ++ [RT.new n y]).length ((L ++ [RT.new n y]).flatMap encT) := by
                rw [List.flatMap_append, List.length_append]
                simpa using ho8
              have hbk8 : Below w3.heap.size w3 w8 := (hbk.alloc hsz7 _).grown hg8 (by first | (simp; done) | (simp; omega)) (fun k e1 => (HO.out.lt k e1).1)
              obtain ⟨g, cap, cur, rfl, hOT⟩ := OwnT.of hO8 (by simp)
              have HOT := Lib.hid hOT
              have HLN1 : Hid (((L) ++ [RT.new n y]).length = (L).length + 1) := by show _ = _; simp
              clear ho8 hg8 hO8 hbk HO hOT
              generalize hm1 : ((L) ++ [RT.new n y]).length = m1 at *
              have HM1 := Lib.hid hm1
              clear hm1
              have hwk : IntKind.i64.wrap ((m1 : Int) - 1) = ((L).length : Int) := by rw [IntKind.wrap_i64, HLN1.out]; omega
              go_wp2_with fail
              go_meet
              exact ⟨L, RT.new n y, [], g, cap, cur, m1, HOP.out, rfl, HM1.out.symm, rfl, rfl, HOT.out, hbk8⟩
        case false =>
          have hneg : ¬ kk < 0 := of_decide_eq_false HDN.out
          obtain ⟨k, rfl⟩ := Int.eq_ofNat_of_zero_le (show 0 ≤ kk by omega)
          obtain ⟨A, t, C, hLe, hAl, htn, hop⟩ := HKY.out k rfl
          have HLE := Lib.hid hLe
          have HOP := Lib.hid hop
          have HTN := Lib.hid htn
          have HAL := Lib.hid hAl
          have hLp : 0 < L.length := by rw [hLe]; simp; omega
          clear HKN HKY hLe hop htn hAl hneg
          rcases HT.out with ⟨_, h⟩ | ⟨b, off, cap, hv, hle, hb, _, hcl⟩
          · rw [h] at hLp; exact absurd hLp (Nat.lt_irrefl _)
          simp only [Value.slice.injEq, true_and] at hv
          obtain ⟨rfl, rfl⟩ := hv
          have HNW := Lib.hid (rows_news (w := w3) (enc := encT) encT_len hcl (by decide))
          have HFL := Lib.hid (flat_len18 (enc := encT) encT_len L)
          have HON : Hid (∀ u ∈ L.flatMap encT, u.oneCell' = true) := fun u hu => by
            obtain ⟨t, _, ht⟩ := List.mem_flatMap.1 hu
            simp only [encT, List.mem_cons, List.not_mem_nil, or_false] at ht
            rcases ht with rfl | rfl | rfl | rfl | rfl | rfl | rfl | rfl <;> rfl
          go_wp2_with (at_builtin; refine wpList_append_own _ rfl (.tmp 110) (.tmp 111) 57 rfl (w3.heap.size) 79 ti tz 8 72 Try.underlying57 HTI.out HTZ.out hz1 hz2 hz3 (by decide) (.slice none 0 0) 0 [] rfl (World.ownsRow_nil _ _ _ _) ⟨b, off, none⟩ L.length cap0 (L.flatMap encT) rfl HFL.out HNW.out HON.out (by simp [maxLen]; omega) (by omega) (Nat.le_refl _) ?_)
          intro v' w7 ho7 hg7 _
          have hO : w7.ownsRow w3.heap.size 79 8 v' L.length (L.flatMap encT) := by simpa using ho7
          obtain ⟨g, cap, cur, rfl, hOT⟩ := OwnT.of hO hLp
          have hbk : Below w3.heap.size w3 w7 := (Below.refl _ w3).grown hg7 (Nat.le_refl _) (fun k e1 => by cases e1)
          clear ho7 hg7 hO
          go_wp2_with fail
          go_meet
          exact ⟨A, t, C, g, cap, cur, L.length, HOP.out, HTN.out, by rw [← HLE.out], rfl, by rw [HAL.out], by rw [← HLE.out]; exact hOT, hbk⟩
      case rest =>
        obtain ⟨A, t, C, g, cap, cur, m1, hop, htn, hm1, rfl, rfl, hOT, hbk⟩ := hcut
        have HM1 := Lib.hid hm1
        have HM9 : Hid (m1 ≤ 9) := by show _ ≤ _; rw [hm1, ← hop]; exact openR_len hL
        rename World => w4
        have HOP := Lib.hid hop
        have HTN := Lib.hid htn
        have HOT := Lib.hid hOT
        have HTS : Hid (∀ i, (t.p i).size ≤ 512) := openR_size HSZ.out (show t ∈ openR L n y by rw [hop]; simp)
        have hbB : Below w.heap.size w w4 := hbq.trans (hbk.mono hbq.size)
        have hlt : A.length < (A ++ t :: C).length := by simp
        have HM : Hid ((A ++ t :: C)[A.length] = t) := by show _ = _; simp
        have hx0 : (0 : Int) ≤ (A.length : Int) := by omega
        have hx1 : (A.length : Int) < (m1 : Int) := by rw [hm1]; omega
        have hx2 : (0 : Int) ≤ (x : Int) := by omega
        have hx3 : (x : Int) < 3 := by omega
        have k1 : w4.cell? ⟨g, A.length * 8 + 1, none⟩ = some (.int .i64 (t.c : Int)) := HOT.out.cell encT_len hlt (by rw [HM.out]; rfl)
        have k2 : w4.cell? ⟨g, A.length * 8 + 2 + x, none⟩ = some (.bool (t.h x)) := by rw [Nat.add_assoc]; exact HOT.out.cell encT_len hlt (by rw [HM.out]; exact encT_has t (by omega))
        clear hop htn hOT HT HSZ HKN HKY HKL HDN hm1
        by_cases hcy : t.c = y
        case neg =>
          have e1 : ((t.c : Int) == (y : Int)) = false := by rw [beq_eq_false_iff_ne]; omega
          have HCY := Lib.hid hcy
          clear hcy
          go_wp2_with fail
          refine bodyPost_ret (results_four Try.results20 _ _ _) rfl ?_
          exact ⟨⟨A, t, C, HOP.out, HTN.out, _, .inl ⟨HCY.out, rfl, by rw [HM1.out]; exact HOT.out.tat⟩⟩, hbB⟩
        case pos =>
          have HCY := Lib.hid hcy
          have e1 : ((t.c : Int) == (y : Int)) = true := by rw [hcy]; simp
          clear hcy
          cases hh : t.h x
          case true =>
            have HH := Lib.hid hh
            rw [hh] at k2
            clear hh
            go_wp2_with fail
            refine bodyPost_ret (results_four Try.results20 _ _ _) rfl ?_
            exact ⟨⟨A, t, C, HOP.out, HTN.out, _, .inr (.inl ⟨HCY.out, HH.out, rfl, by rw [HM1.out]; exact HOT.out.tat⟩)⟩, hbB⟩
          case false =>
            have HH := Lib.hid hh
            rw [hh] at k2
            clear hh
            have hkz : A.length * 8 + 8 ≤ cur.size := by
              have h1 := HOT.out.sz
              have h2 := HOT.out.le
              rw [List.length_append, List.length_cons] at h2
              omega
            have HOT0 := HOT.out
            go_wp2_with ((with_reducible refine at_store 4 (.tmp 134) (.const (.bool true)) ?_); refine wpList_store_cell rfl 4 (.tmp 134) (.const (.bool true)) rfl g (A.length * 8 + 2 + x) _ rfl rfl 79 cur HOT0.row (by omega) (by kernel_rfl) rfl g (Nat.le_refl _) ?_)
            intro w5 hR5 ho5 hs5 hb5
            rw [Nat.add_assoc] at hR5
            have HO5 := Lib.hid (HOT.out.set (t' := t.mark x) encT_len (by omega) (encT_mark t (by omega)) hR5)
            have hbB5 := hbB.trans (hb5.mono (Nat.le_trans hbq.size (by have := HOT.out.bs; exact this)))
            have hs45 : w5.heap.size = w4.heap.size := hs5
            have hgb : w3.heap.size ≤ g := HOT.out.bs
            have hkz5 : A.length * 8 + 8 ≤ (cur.setIfInBounds (A.length * 8 + (2 + x)) (.bool true)).size := by rw [Array.size_setIfInBounds]; exact hkz
            clear hR5 ho5 hs5 hb5 HOT HOT0 k1 k2 HM hkz
            generalize cur.setIfInBounds (A.length * 8 + (2 + x)) (.bool true) = cur5 at *
            have HO50 := HO5.out
            go_wp2_with ((with_reducible refine at_store 9 (.tmp 141) (.tmp 138) ?_); refine wpList_store_cell rfl 9 (.tmp 141) (.tmp 138) rfl g (A.length * 8 + 5 + x) _ rfl rfl 79 cur5 HO50.row (by omega) (by kernel_rfl) rfl g (Nat.le_refl _) ?_)
            intro w6 hR6 ho6 hs6 hb6
            rw [Nat.add_assoc] at hR6
            have HO6 := Lib.hid (HO5.out.set (t' := (t.mark x).lay x (s.extract 7 s.size)) encT_len (by omega) (encT_lay _ (by omega) _) hR6)
            have hbB6 := hbB5.trans (hb6.mono (Nat.le_trans hbq.size hgb))
            have HTP : Hid (∀ i, (((t.mark x).lay x (s.extract 7 s.size)).p i).size ≤ 512) := fun i => by
              show (if i = x then s.extract 7 s.size else t.p i).size ≤ 512
              split
              · exact HBS.out
              · exact HTS.out i
            have HPE : Hid ((t.mark x).lay x (s.extract 7 s.size) = t.put x (s.extract 7 s.size)) := rfl
            clear hR6 ho6 hs6 hb6 HO5 HO50 hkz5 hs45 hbB5 hbB
            rw [HPE.out] at HO6 HTP
            generalize cur5.setIfInBounds (A.length * 8 + (5 + x)) (.string (s.extract 7 s.size)) = cur6 at *
            generalize htp : t.put x (s.extract 7 s.size) = t' at *
            have HTE := Lib.hid htp
            clear htp HPE
            have hlt' : A.length < (A ++ t' :: C).length := by simp
            have HM : Hid ((A ++ t' :: C)[A.length] = t') := by show _ = _; simp
            go_wp2_with fail
            go_loop [15, 16] (fun s15 s16 => ∃ i : Nat, i ≤ y ∧ s16 = .int .i64 i ∧ s15 = .string (Tun.cat t'.p i) ∧ Hid (∀ j, j < i → t'.h j = true)) (fun _ s16 => y - (intOf s16).toNat)
            case atStart => exact ⟨0, Nat.zero_le _, rfl, rfl, Lib.hid (fun j hj => absurd hj (Nat.not_lt_zero _))⟩
            case round =>
              obtain ⟨i, hi', rfl, rfl, HAL⟩ := hrel
              by_cases hi : i < y
              · have k2 : w6.cell? ⟨g, A.length * 8 + 2 + i, none⟩ = some (.bool (t'.h i)) := by rw [Nat.add_assoc]; exact HO6.out.cell encT_len hlt' (by rw [HM.out]; exact encT_has t' (by omega))
                have k3 : w6.cell? ⟨g, A.length * 8 + 5 + i, none⟩ = some (.string (t'.p i)) := by rw [Nat.add_assoc]; exact HO6.out.cell encT_len hlt' (by rw [HM.out]; exact encT_part t' (by omega))
                have hy0 : (0 : Int) ≤ (i : Int) := by omega
                have hy1 : (i : Int) < 3 := by omega
                have hcs := Tun.cat_size (val := t'.p) (m := 512) i (fun j _ => HTP.out j)
                have hps := HTP.out i
                have HCE : Hid (Tun.cat t'.p (i + 1) = Tun.cat t'.p i ++ t'.p i) := rfl
                have HAN : Hid (t'.h i = true → ∀ j, j < i + 1 → t'.h j = true) := fun h j hj => by
                  rcases Nat.lt_or_eq_of_le (Nat.le_of_lt_succ hj) with h1 | rfl
                  · exact HAL.out j h1
                  · exact h
                cases hhi : t'.h i
                · have HHI := Lib.hid hhi
                  rw [hhi] at k2
                  clear hhi
                  go_wp2_with fail
                  refine bodyPost_ret (results_four Try.results20 _ _ _) rfl ?_
                  exact ⟨⟨A, t, C, HOP.out, HTN.out, _, .inr (.inr (.inl ⟨HCY.out, HH.out, ⟨i, hi, by rw [HTE.out]; exact HHI.out⟩, rfl, by rw [HM1.out, HTE.out]; have := HO6.out.tat; simpa using this⟩))⟩, hbB6⟩
                · have HAX := Lib.hid (HAN.out hhi)
                  rw [hhi] at k2
                  clear hhi HAN
                  generalize hcc : Tun.cat t'.p (i + 1) = c' at *
                  have HCC := Lib.hid hcc
                  clear hcc
                  generalize Tun.cat t'.p i = cc at *
                  generalize t'.p i = pi at *
                  have hln : ¬ (9223372036854775807 < cc.size + pi.size) := by omega
                  have hln2 : ¬ ((9223372036854775807 : Int) < (cc.size : Int) + (pi.size : Int)) := by omega
                  go_wp2_with fail
                  exact ⟨⟨i + 1, by omega, by go_num, by rw [HCC.out, HCE.out], HAX⟩, by simp [intOf]; omega⟩
              · obtain rfl : i = y := by omega
                clear hi hi'
                go_upto_region 42 with fail
                have hcap : m1 ≤ cap := by rw [HM1.out]; have := HO6.out.le; simpa using this
                have hm1 : m1 = A.length + 1 + C.length := by rw [HM1.out]; simp; omega
                have hmx : cap ≤ maxLen := HO6.out.mx
                have hi1 : IntKind.i64.wrap ((A.length : Int) + 1) = ((A.length + 1 : Nat) : Int) := by rw [IntKind.wrap_i64]; simp only [maxLen] at hmx; omega
                have hq1 : (A.length : Int) ≤ (cap : Int) := by omega
                have hq2 : (A.length : Int) + 1 ≤ (m1 : Int) := by omega
                have hq3 : (m1 : Int) ≤ (cap : Int) := by omega
                have hq4 : (0 : Int) ≤ (A.length : Int) + 1 := by omega
                have HS1 : Hid (m1 = A.length + 1 + C.length) := hm1
                clear hm1
                refine wp_region_held (S := fun _ => True) (by kernel_rfl) ?_
                change wpAnyH _ _ _ _ _ _ _ _ w6.drew
                have hbd : Below w6.heap.size w6 w6.drew := (Below.refl _ _).drew
                have HO7 := Lib.hid (HO6.out.later hbd)
                have hbB7 := hbB6.trans (hbd.mono (Nat.le_of_lt (Nat.lt_of_le_of_lt (Nat.le_trans hbq.size hgb) HO6.out.row.lt)))
                clear hbd HO6 hbB6
                generalize w6.drew = w7 at *
                refine wpAnyH_take (i := 1) (oi := { dst := some 166, op := Op.move (Operand.tmp 12), type := 57, pos := "ref.go:138", after := #[], guard := none }) (v := .slice (some ⟨g, 0, none⟩) m1 cap) rfl (by kernel_rfl) (by kernel_rfl) (by kernel_rfl) (fun _ _ _ h => h) (Or.inl ⟨by rfl, fun w hSw => by go_simp⟩) trivial ?_
                simp only [Act.put, List.setIfInBounds_toArray, List.set_cons_zero, List.set_cons_succ]
                refine wpAnyH_take (i := 2) (oi := { dst := some 167, op := Op.move (Operand.tmp 13), type := 3, pos := "ref.go:138", after := #[], guard := none }) (v := .int .i64 (A.length : Nat)) rfl (by kernel_rfl) (by kernel_rfl) (by kernel_rfl) (fun _ _ _ h => h) (Or.inl ⟨by rfl, fun w hSw => by go_simp⟩) trivial ?_
                simp only [Act.put, List.setIfInBounds_toArray, List.set_cons_zero, List.set_cons_succ]
                refine wpAnyH_take (i := 3) (oi := { dst := some 168, op := Op.slice 57 (Operand.tmp 166) none (some (Operand.tmp 167)) none, type := 57, pos := "ref.go:138", after := #[{ on := 1, ground := Ground.data }, { on := 2, ground := Ground.data }], guard := none }) (v := .slice (some ⟨g, 0, none⟩) A.length cap) rfl (by kernel_rfl) (by kernel_rfl) (by kernel_rfl) (fun _ _ _ h => h) (Or.inl ⟨by rfl, fun w hSw => by go_simp⟩) trivial ?_
                simp only [Act.put, List.setIfInBounds_toArray, List.set_cons_zero, List.set_cons_succ]
                refine wpAnyH_take (i := 5) (oi := { dst := some 170, op := Op.move (Operand.tmp 12), type := 57, pos := "ref.go:138", after := #[], guard := none }) (v := .slice (some ⟨g, 0, none⟩) m1 cap) rfl (by kernel_rfl) (by kernel_rfl) (by kernel_rfl) (fun _ _ _ h => h) (Or.inl ⟨by rfl, fun w hSw => by go_simp⟩) trivial ?_
                simp only [Act.put, List.setIfInBounds_toArray, List.set_cons_zero, List.set_cons_succ]
                refine wpAnyH_take (i := 6) (oi := { dst := some 171, op := Op.move (Operand.tmp 13), type := 3, pos := "ref.go:138", after := #[], guard := none }) (v := .int .i64 (A.length : Nat)) rfl (by kernel_rfl) (by kernel_rfl) (by kernel_rfl) (fun _ _ _ h => h) (Or.inl ⟨by rfl, fun w hSw => by go_simp⟩) trivial ?_
                simp only [Act.put, List.setIfInBounds_toArray, List.set_cons_zero, List.set_cons_succ]
                refine wpAnyH_take (i := 7) (oi := { dst := some 172, op := Op.binOp BinOp.add 3 (Operand.tmp 171) (Operand.const (Value.int IntKind.i64 1)) 3, type := 3, pos := "ref.go:138", after := #[{ on := 6, ground := Ground.data }], guard := none }) (v := .int .i64 (A.length + 1 : Nat)) rfl (by kernel_rfl) (by kernel_rfl) (by kernel_rfl) (fun _ _ _ h => h) (Or.inl ⟨by rfl, fun w hSw => by go_simp⟩) trivial ?_
                simp only [Act.put, List.setIfInBounds_toArray, List.set_cons_zero, List.set_cons_succ]
                refine wpAnyH_take (i := 8) (oi := { dst := some 173, op := Op.slice 57 (Operand.tmp 170) (some (Operand.tmp 172)) none none, type := 57, pos := "ref.go:138", after := #[{ on := 5, ground := Ground.data }, { on := 7, ground := Ground.data }], guard := none }) (v := .slice (if cap = A.length + 1 then some ⟨g, 0, none⟩ else some ⟨g, (A.length + 1) * 8, none⟩) (m1 - (A.length + 1)) (cap - (A.length + 1))) rfl (by kernel_rfl) (by kernel_rfl) (by kernel_rfl) (fun _ _ _ h => h) (Or.inl ⟨by rfl, fun w hSw => by go_simp⟩) trivial ?_
                simp only [Act.put, List.setIfInBounds_toArray, List.set_cons_zero, List.set_cons_succ]
                refine wpAnyH_take (i := 10) (oi := { dst := some 175, op := Op.move (Operand.tmp 15), type := 9, pos := "ref.go:138", after := #[{ on := 11, ground := Ground.gcOnly Departure.lateStores }], guard := none }) (v := .string (Tun.cat t'.p i)) rfl (by kernel_rfl) (by kernel_rfl) (by kernel_rfl) (fun _ _ _ h => h) (Or.inl ⟨by rfl, fun w hSw => by go_simp⟩) trivial ?_
                simp only [Act.put, List.setIfInBounds_toArray, List.set_cons_zero, List.set_cons_succ]
                refine wpAnyH_ready (rs := [0]) (by kernel_rfl) (by simp) ?_
                refine ar_bs0 (i := 0) (o := { dst := some 165, op := Op.buildSlice 57 0 #[], type := 57, pos := "ref.go:138", after := #[], guard := none }) rfl (by kernel_rfl) rfl ?_
                simp only [Act.put, List.setIfInBounds_toArray, List.set_cons_zero, List.set_cons_succ]
                have hG := World.ownsRow_made (base := w7.heap.size) (e := 79) (size := 8) w7 #[] 0 (Nat.le_refl _) (Nat.zero_le _) rfl
                have hb8 : Below w7.heap.size w7 (w7.alloc (.cells #[] 79)) := (Below.refl _ _).alloc (Nat.le_refl _) _
                have HO8 := Lib.hid (HO7.out.later hb8)
                have hs8 : w7.heap.size ≤ (w7.alloc (.cells #[] 79)).heap.size := hb8.size
                have HG := Lib.hid hG
                clear hG
                generalize w7.alloc (.cells #[] 79) = w8 at *
                generalize hGG : w7.heap.size = G at *
                have HNA : Hid (∀ j u, (A.flatMap encT)[j]? = some u → w8.cell? ((⟨g, 0, none⟩ : Addr).add j) = some u) := rows_news encT_len (fun i hi j u hu => by
                  rw [Nat.zero_add]
                  exact HO8.out.cell encT_len (i := i) (by simp; omega) (by rw [List.getElem_append_left hi]; exact hu)) (by decide)
                refine wpAnyH_ready (rs := [4]) (by kernel_rfl) (by simp) ?_
                refine ar_append (j := 4) (o := { dst := some 169, op := Op.call { callee := Callee.builtin Builtin.append, args := #[Operand.tmp 165, Operand.tmp 168], argTypes := #[57, 57] }, type := 57, pos := "ref.go:138", after := #[{ on := 0, ground := Ground.data }, { on := 3, ground := Ground.data }], guard := none }) rfl (by kernel_rfl) (.tmp 165) (.tmp 168) 57 rfl G 79 ti tz 8 72 Try.underlying57 HTI.out HTZ.out hz1 hz2 hz3 (by decide) _ 0 [] rfl HG.out ⟨g, 0, none⟩ A.length cap (A.flatMap encT) rfl (flat_len18 encT_len A) HNA.out (one_flat A) ?b1 ?b2 hs8 ?_
                case b1 => simp only [maxLen]; have := HS1.out; have := HM9.out; omega
                case b2 => have := HS1.out; have := HM9.out; omega
                intro v9 w9 ho9 hg9 _
                simp only [Act.put, List.setIfInBounds_toArray, List.set_cons_zero, List.set_cons_succ]
                have ho9' : w9.ownsRow G 79 8 v9 A.length (A.flatMap encT) := by simpa using ho9
                have HO9 := Lib.hid ho9'
                have hb89 : Below G w8 w9 := (Below.refl _ w8).grown hg9 hs8 (fun k e1 => (HG.out.lt k e1).1)
                have hgG : g < G := by rw [← hGG]; exact HO7.out.row.lt
                have hgr : ∀ p : Addr, p.block = g → w9.cell? p = w8.cell? p := fun p hp => hb89.cell (by rw [hp]; exact hgG)
                have hs9 : G ≤ w9.heap.size := Nat.le_trans hs8 hb89.size
                have hcl8 : ∀ i (h : i < C.length) j u, (encT C[i])[j]? = some u → w9.cell? ⟨g, (A.length + 1) * 8 + i * 8 + j, none⟩ = some u := fun i hi j u hu => by
                  rw [hgr _ rfl]
                  have := HO8.out.cell encT_len (i := A.length + 1 + i) (j := j) (by simp; omega) (by
                    rw [List.getElem_append_right (by omega)]
                    simp only [show A.length + 1 + i - A.length = i + 1 by omega, List.getElem_cons_succ]
                    exact hu)
                  rw [← this]
                  congr 2
                  omega
                clear ho9 hg9 ho9' hgr
                refine wpAnyH_ready (rs := [9]) (by kernel_rfl) (by simp) ?_
                refine ar_append (j := 9) (o := { dst := some 174, op := Op.call { callee := Callee.builtin Builtin.append, args := #[Operand.tmp 169, Operand.tmp 173], argTypes := #[57, 57] }, type := 57, pos := "ref.go:138", after := #[{ on := 4, ground := Ground.data }, { on := 8, ground := Ground.data }, { on := 4, ground := Ground.chain }], guard := none }) rfl (by kernel_rfl) (.tmp 169) (.tmp 173) 57 rfl G 79 ti tz 8 72 Try.underlying57 HTI.out HTZ.out hz1 hz2 hz3 (by decide) v9 A.length _ rfl HO9.out (if cap = A.length + 1 then ⟨g, 0, none⟩ else ⟨g, (A.length + 1) * 8, none⟩) C.length (cap - (A.length + 1)) (C.flatMap encT) ?b3 (flat_len18 encT_len C) ?b4 (one_flat C) ?b5 ?b6 hs9 ?_
                case b3 =>
                  show Value.slice (if cap = A.length + 1 then some ⟨g, 0, none⟩ else some ⟨g, (A.length + 1) * 8, none⟩) (m1 - (A.length + 1)) (cap - (A.length + 1)) = _
                  rw [show m1 - (A.length + 1) = C.length by have := HS1.out; omega]
                  split <;> rfl
                case b4 =>
                  split
                  · rename_i hcc
                    have hC0 : C = [] := List.eq_nil_of_length_eq_zero (by have := HS1.out; omega)
                    rw [hC0]
                    intro j u hj
                    simp at hj
                  · exact rows_news encT_len hcl8 (by decide)
                case b5 => simp only [maxLen]; have := HS1.out; have := HM9.out; omega
                case b6 => have := HS1.out; have := HM9.out; omega
                intro v10 w10 ho10 hg10 _
                simp only [Act.put, List.setIfInBounds_toArray, List.set_cons_zero, List.set_cons_succ]
                have hob10 : w10.ownsRow G 79 8 v10 (A ++ C).length ((A ++ C).flatMap encT) := by
                  rw [List.flatMap_append, List.length_append]
                  exact ho10
                have hb910 : Below G w9 w10 := (Below.refl _ w9).grown hg10 hs9 (fun k e1 => (HO9.out.lt k e1).1)
                have hbf : Below w.heap.size w w10 := by
                  have hwG : w.heap.size ≤ G := by rw [← hGG]; exact hbB7.size
                  exact ((hbB7.trans (hb8.mono hwG)).trans (hb89.mono hwG)).trans (hb910.mono hwG)
                have hta : TAt w10 v10 (A ++ C) := tat_of_own hob10
                have HTA := Lib.hid hta
                clear ho10 hg10 hob10 hb910 hb89 hcl8 hta
                refine wpAnyH_take (i := 11) (oi := { dst := some 4, op := Op.assign (Operand.tmp 174), type := 57, pos := "ref.go:138", after := #[{ on := 9, ground := Ground.data }, { on := 9, ground := Ground.chain }, { on := 0, ground := Ground.phase }, { on := 1, ground := Ground.phase }, { on := 2, ground := Ground.phase }, { on := 3, ground := Ground.phase }, { on := 4, ground := Ground.phase }, { on := 5, ground := Ground.phase }, { on := 6, ground := Ground.phase }, { on := 7, ground := Ground.phase }, { on := 8, ground := Ground.phase }, { on := 9, ground := Ground.phase }, { on := 10, ground := Ground.textOnly Departure.lateStores }], guard := none }) (v := v10) rfl (by kernel_rfl) (by kernel_rfl) (by kernel_rfl) (fun _ _ _ h => h) (Or.inl ⟨by rfl, fun w hSw => by go_simp⟩) trivial ?_
                simp only [Act.put, List.setIfInBounds_toArray, List.set_cons_zero, List.set_cons_succ]
                refine wpAnyH_take (i := 12) (oi := { dst := some 5, op := Op.assign (Operand.tmp 175), type := 9, pos := "ref.go:138", after := #[{ on := 10, ground := Ground.data }, { on := 11, ground := Ground.chain }, { on := 0, ground := Ground.phase }, { on := 1, ground := Ground.phase }, { on := 2, ground := Ground.phase }, { on := 3, ground := Ground.phase }, { on := 4, ground := Ground.phase }, { on := 5, ground := Ground.phase }, { on := 6, ground := Ground.phase }, { on := 7, ground := Ground.phase }, { on := 8, ground := Ground.phase }, { on := 9, ground := Ground.phase }, { on := 10, ground := Ground.phase }, { on := 11, ground := Ground.phase }], guard := none }) (v := .string (Tun.cat t'.p i)) rfl (by kernel_rfl) (by kernel_rfl) (by kernel_rfl) (fun _ _ _ h => h) (Or.inl ⟨by rfl, fun w hSw => by go_simp⟩) trivial ?_
                simp only [Act.put, List.setIfInBounds_toArray, List.set_cons_zero, List.set_cons_succ]
                refine wpAnyH_take (i := 13) (oi := { dst := some 6, op := Op.assign (Operand.const (Value.bool true)), type := 4, pos := "ref.go:138", after := #[{ on := 12, ground := Ground.chain }, { on := 0, ground := Ground.phase }, { on := 1, ground := Ground.phase }, { on := 2, ground := Ground.phase }, { on := 3, ground := Ground.phase }, { on := 4, ground := Ground.phase }, { on := 5, ground := Ground.phase }, { on := 6, ground := Ground.phase }, { on := 7, ground := Ground.phase }, { on := 8, ground := Ground.phase }, { on := 9, ground := Ground.phase }, { on := 10, ground := Ground.phase }, { on := 11, ground := Ground.phase }, { on := 12, ground := Ground.phase }], guard := none }) (v := .bool true) rfl (by kernel_rfl) (by kernel_rfl) (by kernel_rfl) (fun _ _ _ h => h) (Or.inl ⟨by rfl, fun w hSw => by go_simp⟩) trivial ?_
                simp only [Act.put, List.setIfInBounds_toArray, List.set_cons_zero, List.set_cons_succ]
                refine wpAnyH_take (i := 14) (oi := { dst := some 7, op := Op.assign (Operand.const (Value.int IntKind.i64 0)), type := 3, pos := "ref.go:138", after := #[{ on := 13, ground := Ground.chain }, { on := 0, ground := Ground.phase }, { on := 1, ground := Ground.phase }, { on := 2, ground := Ground.phase }, { on := 3, ground := Ground.phase }, { on := 4, ground := Ground.phase }, { on := 5, ground := Ground.phase }, { on := 6, ground := Ground.phase }, { on := 7, ground := Ground.phase }, { on := 8, ground := Ground.phase }, { on := 9, ground := Ground.phase }, { on := 10, ground := Ground.phase }, { on := 11, ground := Ground.phase }, { on := 12, ground := Ground.phase }, { on := 13, ground := Ground.phase }], guard := none }) (v := .int .i64 0) rfl (by kernel_rfl) (by kernel_rfl) (by kernel_rfl) (fun _ _ _ h => h) (Or.inl ⟨by rfl, fun w hSw => by go_simp⟩) trivial ?_
                simp only [Act.put, List.setIfInBounds_toArray, List.set_cons_zero, List.set_cons_succ]
                refine wpAnyH_done (by kernel_rfl) ?_ _
                go_wp2_with fail
                all_goals
                  refine bodyPost_ret (results_four Try.results20 _ _ _) rfl ?_
                  exact ⟨⟨A, t, C, HOP.out, HTN.out, _, .inr (.inr (.inr ⟨HCY.out, HH.out, fun j hj => by rw [HTE.out]; exact HAL.out j hj, by rw [HTE.out]; rfl, HTA.out⟩))⟩, hbf⟩
end Go.Proofs.Ytmipdbmmhoacpaa
