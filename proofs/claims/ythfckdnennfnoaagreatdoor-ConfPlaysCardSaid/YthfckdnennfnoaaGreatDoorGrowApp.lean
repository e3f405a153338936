/- append in a region that draws its order: to what is owned, in a new block or in place. Of no function. By an AI agent. -/
import Derived.Test.YthfckdnennfnoaaGreatDoorGrowKit
import Derived.Deep.AppendLies
import Derived.Laws.OwnMore
import Derived.ArgAppend
namespace Go.Proofs.YthfckdnennfnoaaGreatDoor.Grow
open Go.RowKit Go.Sort

theorem ownsLater {w w' : World} {base : Nat} {e : TypeId} {size : Nat} {v : Value} {n : Nat} {xs : List Value} (h : w.ownsRow base e size v n xs) (hb : Below w.heap.size w w') : w'.ownsRow base e size v n xs := by
  refine ⟨h.1, ?_⟩
  rcases h.2 with h | ⟨g, cap, cur, rfl, hg, hc, h⟩
  · exact .inl h
  · exact .inr ⟨g, cap, cur, rfl, hg, (hb.block g (Array.getElem?_eq_some_iff.1 hc).1).trans hc, h⟩

/-- a slice over cells in a block of its own -/
def AppAt (base : Nat) (e : TypeId) (n : Nat) (xs : List Value) : Fact := fun w u => ∃ g cap, u = .slice (some ⟨g, 0, none⟩) n cap ∧ w.ownsRow base e 1 u n xs
theorem stable_app (base : Nat) (e : TypeId) (n : Nat) (xs : List Value) : Stable Bel (AppAt base e n xs) := fun _ _ _ hb ⟨g, cap, h, ho⟩ => ⟨g, cap, h, ownsLater ho hb⟩

theorem bel_of_none {w w' : World} (h : w.grownBy w' none) : Bel w w' := below_of_grown h (Nat.le_refl _) (fun k hk => by cases hk)

/-- append that makes a new block: to nil, or where the capacity is reached -/
theorem owes_append_new {P : Program} {ops : Array Oper} {w0 : World} {a : Act} {S : List (Tmp × Fact)} {o : Oper} {s x : Tmp} {t e : TypeId} {v z sv : Value} {xs : List Value} {n bytes B base : Nat} {i : TypeInfo} (ho : o.op = .call { callee := .builtin .append, args := #[.tmp s, .tmp x], argTypes := #[t, t] })
    (hs : a.eval (.tmp s) = sv) (hsS : s ∉ S.map Prod.fst) (hx : (x, RowAt B e 1 #[v]) ∈ S) (ht : P.underlying t = some (.slice e)) (hi : P.info? e = some i) (hz : i.zero = some z) (hsize : i.size = 1) (hby : i.bytes = bytes) (hbs : bytes ≤ 1000) (hzs : z.cells.size = 1) (hv : v.oneCell' = true)
    (hown : w0.ownsRow base e 1 sv n xs) (hn : n ≤ 1000000) (hnew : sv = .slice none 0 0 ∨ ∃ g cap, sv = .slice (some ⟨g, 0, none⟩) n cap ∧ cap < n + 1) :
    Owes Bel P ops w0 a S o (AppAt w0.heap.size e (n + 1) (xs ++ [v])) := by
  intro ρ w hb h1 h2
  have hms : s ∈ o.looksAt ops := by simp [Oper.looksAt, ho, Op.operands, Call.operands]
  have hmx : x ∈ o.looksAt ops := by simp [Oper.looksAt, ho, Op.operands, Call.operands]
  have es : ρ.eval (.tmp s) = sv := (h2 s hms hsS).trans hs
  obtain ⟨b, ex, _, hr⟩ := h1 _ hx hmx
  have ex : ρ.eval (.tmp x) = .slice (some ⟨b, 0, none⟩) 1 1 := ex
  have hbytes : (n + 1) * bytes ≤ 140737488355328 := Nat.le_trans (Nat.mul_le_mul (show n + 1 ≤ 1000001 by omega) hbs) (by decide)
  have h63 : n + 1 ≤ maxLen := by simp only [maxLen]; omega
  have key : ∃ g cap w', (Builtin.append_ #[t, t] o.type #[sv, .slice (some ⟨b, 0, none⟩) 1 1]).run P w = .ok (.slice (some ⟨g, 0, none⟩) (n + 1) cap) w' ∧ w'.ownsRow w0.heap.size e 1 (.slice (some ⟨g, 0, none⟩) (n + 1) cap) (n + 1) (xs ++ [v]) ∧ Bel w w' := by
    rcases hnew with rfl | ⟨g, cap, rfl, hcap⟩
    · obtain ⟨hl, hh⟩ := hown
      have hn0 : n = 0 := by
        rcases hh with h | ⟨_, _, _, h, _⟩
        · exact h.2
        · cases h
      subst hn0
      have hxs : xs = [] := List.eq_nil_of_length_eq_zero (by simpa using hl)
      subst hxs
      obtain ⟨g, cap, w', hrun, hown, hgrow, _, _⟩ := run_append_lies (P := P) w t o.type w0.heap.size e i z 1 bytes ht hi hz hsize hby hzs (by decide) (.slice none 0 0) 0 [] (World.ownsRow_nil _ _ _ _) ⟨b, 0, none⟩ 1 1 [v] rfl (World.news_of_block hr) (by intro u hu; simp at hu; subst hu; exact hv) (by decide) (by decide) (by omega) hb.size _ rfl
      exact ⟨g, cap, w', hrun, hown, bel_of_none hgrow⟩
    · obtain ⟨hl, h | ⟨g', cap', cur, e1, hBg, hg, hle, hm, hcs, htk⟩⟩ := hown
      · cases h.1
      simp only [Value.slice.injEq, Option.some.injEq, Addr.mk.injEq, and_true, true_and] at e1
      obtain ⟨rfl, rfl⟩ := e1
      have hg' : w.heap[g]? = some (.cells cur e (0, 0)) := (RowIs.kept (show RowIs w0 g e cur from hg) hb)
      obtain ⟨v', w', hrun, hown', hgr⟩ := run_append_arg_grows (P := P) w t o.type e i z 1 bytes ht hi hz hsize hby hzs (by decide) ⟨g, 0, none⟩ n cap xs hl (fun j u hj => by
        rw [addr_add, RowIs.cell (show RowIs w g e cur from hg'), ← Array.getElem?_toList]
        rw [← htk] at hj
        have hjl : j < n * 1 := by
          rcases Nat.lt_or_ge j (n * 1) with h | h
          · exact h
          · rw [List.getElem?_eq_none (by simp; omega)] at hj
            cases hj
        rw [List.getElem?_take_of_lt hjl] at hj
        exact hj) ⟨b, 0, none⟩ 1 1 [v] rfl (World.news_of_block hr) hcap h63 hbytes
      obtain ⟨g2, cap2, rfl, _, _⟩ := hown'.form (by omega)
      exact ⟨g2, cap2, w', hrun, ⟨hown'.1, by
        rcases hown'.2 with h | ⟨g3, c3, cur3, a1, a2, a3⟩
        · exact .inl h
        · exact .inr ⟨g3, c3, cur3, a1, Nat.le_trans hb.size a2, a3⟩⟩, bel_of_none hgr⟩
  obtain ⟨g, cap, w', hrun, hown', hbel⟩ := key
  unfold gives execOp
  simp only [ho, resolve, invoke, builtin, Sem.run_bind, Sem.run_pure, Result.andThen_ok, List.map_toArray, List.map_cons, List.map_nil, es, ex, hrun]
  exact ⟨hbel, g, cap, rfl, hown'⟩

/-! ### in place -/
theorem stable_row_wle {g B : Nat} {T : List (Nat × Value)} (t : TypeId) (n : Nat) (cs : Array Value) (hg : g < B) : Stable (WLe g T) (RowAt B t n cs) := fun w w' u hle ⟨b, h, hB, hr⟩ =>
  ⟨b, h, hB, (hle.1.block b hr.lt (fun e => by cases e; omega)).trans hr⟩

theorem below_regrown_wle {g : Nat} {T : List (Nat × Value)} {w w' : World} {b : Nat} {t : TypeId} {cs : Array Value} (h : WLe g T w w') (hr : RowIs w b t cs) (hne : b ≠ g) : RowIs w' b t cs := (h.1.block b hr.lt (fun e => hne (by cases e; rfl))).trans hr

/-- one cell of an old block that is not written -/
theorem exact_load_cell {Le : World → World → Prop} (ok : LeOk Le) {P : Program} {ops : Array Oper} {w0 : World} {a : Act} {S : List (Tmp × Fact)} {o : Oper} {ty : TypeId} {x : Tmp} {b k : Nat} {v : Value} {d : TypeDesc} (ho : o.op = .load ty (.tmp x)) (hx : a.eval (.tmp x) = .pointer (some ⟨b, k, none⟩)) (hS : x ∉ S.map Prod.fst)
    (hc : ∀ w, Le w0 w → w.cell? ⟨b, k, none⟩ = some v) (hu : P.underlying ty = some d) (hd : d.isRow = false) : Owes Le P ops w0 a S o (fun _ u => u = v) := by
  intro ρ w hb _ h2
  have hm : x ∈ o.looksAt ops := by simp [Oper.looksAt, ho, Op.operands]
  have h := h2 x hm hS
  rw [hx] at h
  have hagg : (isAgg ty).run P w = .ok false w := by
    unfold isAgg
    rw [Sem.run_bind, run_underlying hu w]
    cases d <;> simp [TypeDesc.isRow] at hd ⊢
  unfold gives execOp
  have hl : (loadVar ty ⟨b, k, none⟩).run P w = .ok v w := by
    simp [loadVar, Sem.run_bind, hagg, run_load, hc w hb]
  simp only [ho, h, Instr.loadAt, Instr.sureAddr, Sem.run_bind, Sem.run_pure, Result.andThen_ok, hl]
  exact ⟨ok.refl _, trivial⟩

theorem owes_buildSliceL {Le : World → World → Prop} (ok : LeOk Le) (hle : ∀ a b : World, Below a.heap.size a b → Le a b) {P : Program} {ops : Array Oper} {w0 : World} {a : Act} {S : List (Tmp × Fact)} {o : Oper} {t e : TypeId} {len sz : Nat} {parts : Array (Nat × Operand)} {cells : Array Value} {z : Value} (ho : o.op = .buildSlice t len parts) (hS : ∀ x ∈ parts, ∀ y, x.2 = .tmp y → y ∉ S.map Prod.fst)
    (hu : P.underlying t = some (.slice e)) (hi : (P.info? e).map (fun i => (i.zero, i.size)) = some (some z, sz)) (hsmall : ¬ len * sz > 2 ^ 24) (hpos : ¬ len * sz = 0)
    (hf : Instr.fill (fun i => some (i * sz, sz)) ((Array.range (len * sz)).map (z.cells[· % z.cells.size]!)) (parts.map fun (i, x) => (i, a.eval x)).toList = some cells) :
    Owes Le P ops w0 a S o (RowAt w0.heap.size e len cells) := by
  obtain ⟨ie, hie, he0⟩ := Option.map_eq_some_iff.1 hi
  simp only [Prod.mk.injEq] at he0
  obtain ⟨hz, rfl⟩ := he0
  intro ρ w hb _ h2
  have he : (parts.map fun (i, x) => (i, ρ.eval x)) = (parts.map fun (i, x) => (i, a.eval x)) := Array.map_congr_left fun x hx => by
    obtain ⟨i, x⟩ := x
    cases x with
    | tmp y =>
      have := h2 y (by simp only [Oper.looksAt, ho, Op.operands, List.mem_append, List.mem_filterMap]; exact .inl ⟨.tmp y, by simp; exact ⟨i, hx⟩, rfl⟩) (hS _ hx y rfl)
      simp only [this]
    | _ => rfl
  unfold gives execOp
  rw [← he] at hf
  simp only [ho, Sem.run_bind, run_buildSlice w t e len _ cells ie z hu hie hz hsmall hpos hf, Result.andThen_ok, Sem.run_pure]
  exact ⟨hle _ _ ((Below.refl _ _).alloc (Nat.le_refl _) _), w.heap.size, rfl, ok.size _ _ hb, rowIs_new w e cells⟩

/-- append within the capacity -/
theorem owes_append_room {P : Program} {ops : Array Oper} {w0 : World} {a : Act} {S : List (Tmp × Fact)} {o : Oper} {s x : Tmp} {t e : TypeId} {v : Value} {n B g cap : Nat} {cs0 : Array Value} {i : TypeInfo} (ho : o.op = .call { callee := .builtin .append, args := #[.tmp s, .tmp x], argTypes := #[t, t] })
    (hs : a.eval (.tmp s) = .slice (some ⟨g, 0, none⟩) n cap) (hsS : s ∉ S.map Prod.fst) (hx : (x, RowAt B e 1 #[v]) ∈ S) (ht : P.underlying t = some (.slice e)) (hi : P.info? e = some i) (hsize : i.size = 1) (hv : v.oneCell' = true)
    (hR : RowIs w0 g e cs0) (hfit : n + 1 ≤ cap) (hcs : cs0.size = cap) :
    Owes (WLe g [(n, v)]) P ops w0 a S o (fun w u => u = .slice (some ⟨g, 0, none⟩) (n + 1) cap ∧ StoredAt g e n v w u) := by
  intro ρ w hle h1 h2
  have hms : s ∈ o.looksAt ops := by simp [Oper.looksAt, ho, Op.operands, Call.operands]
  have hmx : x ∈ o.looksAt ops := by simp [Oper.looksAt, ho, Op.operands, Call.operands]
  have es : ρ.eval (.tmp s) = .slice (some ⟨g, 0, none⟩) n cap := (h2 s hms hsS).trans hs
  obtain ⟨b, ex, _, hr⟩ := h1 _ hx hmx
  have ex : ρ.eval (.tmp x) = .slice (some ⟨b, 0, none⟩) 1 1 := ex
  obtain ⟨cur, hcur, hsz, _⟩ := hle.2 e cs0 hR
  have hrun := run_append_room (P := P) w t o.type e i ht hi g n cap cur hcur ⟨b, 0, none⟩ 1 1 [v] (by rw [hsize]; rfl) (World.news_of_block hr) (by intro u hu; simp at hu; subst hu; exact hv) hfit (by rw [hsize]; simp; omega)
  rw [hsize, Nat.mul_one] at hrun
  have hnl : n < cur.toList.length := by simp; omega
  have hset : (cur.toList.take n ++ [v] ++ cur.toList.drop (n + [v].length)).toArray = cur.setIfInBounds n v := by
    apply Array.toList_inj.1
    rw [Array.toList_setIfInBounds, List.set_eq_take_append_cons_drop, if_pos hnl]
    simp
  rw [hset] at hrun
  unfold gives execOp
  simp only [ho, resolve, invoke, builtin, Sem.run_bind, Sem.run_pure, Result.andThen_ok, List.map_toArray, List.map_cons, List.map_nil, es, ex, hrun]
  have hnew : RowIs (w.setRow g (cur.setIfInBounds n v)) g e (cur.setIfInBounds n v) := setRow_heap w g cur _ e _ hcur
  have hn2 : n < cur.size := by omega
  refine ⟨⟨⟨rfl, rfl, rfl, by simp, fun j hj hne => by
    simp only [World.setRow, Array.getElem?_modify]
    rw [if_neg (fun e => hne (by rw [e]))]⟩, fun t' cs' hr' => ?_⟩, trivial, _, hnew, by simp [hn2]⟩
  have e1 : e = t' ∧ cur = cs' := by
    unfold RowIs at hr' hcur
    rw [hcur] at hr'
    simp at hr'
    exact ⟨hr'.2, hr'.1⟩
  obtain ⟨rfl, rfl⟩ := e1
  refine ⟨_, hnew, by simp, fun j => ?_⟩
  by_cases hjk : j = n
  · subst hjk; exact .inr ⟨v, by simp, by simp [hn2]⟩
  · exact .inl (by simp [Array.getElem?_setIfInBounds_ne (Ne.symm hjk)])

theorem stable_room {g n cap : Nat} {e : TypeId} {v : Value} : Stable (WLe g [(n, v)]) (fun w u => u = .slice (some ⟨g, 0, none⟩) (n + 1) cap ∧ StoredAt g e n v w u) := fun w w' u hle ⟨h1, h2⟩ =>
  ⟨h1, stable_stored e (by intro u hu; simpa using hu) w w' u hle h2⟩

/-- what is owned then -/
theorem owns_room {w0 w : World} {base g n cap : Nat} {e : TypeId} {v : Value} {xs : List Value} (hown : w0.ownsRow base e 1 (.slice (some ⟨g, 0, none⟩) n cap) n xs) (hfit : n + 1 ≤ cap) (hle : WLe g [(n, v)] w0 w) (hst : ∃ u, StoredAt g e n v w u) :
    w.ownsRow base e 1 (.slice (some ⟨g, 0, none⟩) (n + 1) cap) (n + 1) (xs ++ [v]) := by
  obtain ⟨hl, h | ⟨g', cap', cur, e1, hBg, hg, hn, hm, hcs, htk⟩⟩ := hown
  · cases h.1
  simp only [Value.slice.injEq, Option.some.injEq, Addr.mk.injEq, and_true, true_and] at e1
  obtain ⟨rfl, rfl⟩ := e1
  have hr := row_stored (show RowIs w0 g e cur from hg) hle (by simp) (by intro p hp; simp at hp; subst hp; simp; omega) (by intro p hp; simp at hp; subst hp; exact hst)
  refine ⟨by simp [hl], .inr ⟨g, cap, _, rfl, hBg, hr, hfit, hm, by simpa using hcs, ?_⟩⟩
  have hnl : n < cur.toList.length := by simp; omega
  simp only [List.foldl_cons, List.foldl_nil, Array.toList_setIfInBounds, Nat.mul_one] at htk ⊢
  rw [List.set_eq_take_append_cons_drop, if_pos hnl, htk, List.take_append]
  have : xs.length = n := by simpa using hl
  rw [this]
  simp [List.take_of_length_le (show xs.length ≤ n + 1 by omega)]
end Go.Proofs.YthfckdnennfnoaaGreatDoor.Grow
