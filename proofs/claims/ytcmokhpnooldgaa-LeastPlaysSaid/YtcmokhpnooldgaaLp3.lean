/- What Forwards answers does not hang on the order of the links; nor does anything else. By an AI agent. -/
import Derived.Test.YtcmokhpnooldgaaLn15
namespace Go.Proofs.Ytcmokhpnooldgaa

theorem fold_none {N : LN} {D : List Int} {b p : Int} : ∀ (ds : List Lk) (o : Bool), (∀ d ∈ ds, ¬ (d.b = b ∧ d.q = p)) → ds.foldl (stF N D b p) o = o
  | [], _, _ => rfl
  | d :: ds, o, h => by
    rw [List.foldl_cons, show stF N D b p o d = o from if_neg (h d (by simp))]
    exact fold_none ds o (fun x hx => h x (List.mem_cons_of_mem _ hx))
theorem fold_some {N : LN} {D : List Int} {b p : Int} {d : Lk} : ∀ (ds : List Lk) (o : Bool), d ∈ ds → d.b = b ∧ d.q = p → (∀ e ∈ ds, e.b = b ∧ e.q = p → e = d) → ds.foldl (stF N D b p) o = (tellV N D d.j d.q).better (tellV N D d.i d.p)
  | [], _, hd, _, _ => by cases hd
  | e :: ds, o, hd, hm, hu => by
    rw [List.foldl_cons]
    by_cases h : d ∈ ds
    · exact fold_some ds _ h hm (fun x hx => hu x (List.mem_cons_of_mem _ hx))
    · obtain rfl : d = e := by
        rcases List.mem_cons.1 hd with h' | h'
        · exact h'
        · exact absurd h' h
      rw [fold_none ds _ (fun x hx hxm => h (hu x (List.mem_cons_of_mem _ hx) hxm ▸ hx))]
      exact if_pos hm
theorem to_uniq {N : LN} (h : N.Ok) {d d' : Lk} (hd : d ∈ N.dirs) (hd' : d' ∈ N.dirs) (h1 : d.b = d'.b) (h2 : d.q = d'.q) : d = d' := by
  have e := fr_inj h (dirs_turn hd) (dirs_turn hd') (by unfold Lk.fr Lk.turn; simp [h1, h2])
  have e' := congrArg Lk.turn e
  exact e'
/-- what Forwards answers, by what is at the link's other end -/
theorem forwB_some {N : LN} (h : N.Ok) (D q : List Int) {d : Lk} (hd : d ∈ N.dirs) : forwB N D q d.b d.q = ((tellV N D d.j d.q).better (tellV N D d.i d.p) || (q.getD d.j 0 == d.q)) := by
  unfold forwB
  rw [fold_some N.dirs true hd ⟨rfl, rfl⟩ (fun e he hm => to_uniq h he hd hm.1 hm.2)]
theorem forwB_none {N : LN} (D q : List Int) {b p : Int} (hn : ∀ d ∈ N.dirs, ¬ (d.b = b ∧ d.q = p)) : forwB N D q b p = true := by
  unfold forwB
  rw [fold_none _ _ hn]
  rfl

/-- two nets of the same bridges, and of the same links in another order, or from their other ends -/
structure Alike (N M : LN) : Prop where
  ids : M.ids = N.ids
  costs : M.costs = N.costs
  dirs : M.dirs.Perm N.dirs
theorem Alike.mem {N M : LN} (h : Alike N M) {d : Lk} : d ∈ M.dirs ↔ d ∈ N.dirs := h.dirs.mem_iff
theorem Alike.id {N M : LN} (h : Alike N M) (i : Nat) : M.id i = N.id i := by unfold LN.id; rw [h.ids]
theorem Alike.cs {N M : LN} (h : Alike N M) (i : Nat) : M.cs i = N.cs i := by unfold LN.cs; rw [h.costs]
theorem Alike.ok {N M : LN} (h : Alike N M) (ok : N.Ok) : M.Ok :=
  ⟨by rw [h.ids]; exact ok.n1, by rw [h.ids]; exact ok.n16, by rw [h.costs, h.ids]; exact ok.len, by rw [h.ids]; exact ok.nodup, by rw [h.costs]; exact ok.cost,
    fun d hd => by
      have := ok.has d (h.mem.1 hd)
      unfold LN.has at *
      rw [h.costs, h.cs]
      exact this, ((h.dirs.map Lk.fr).nodup_iff).2 ok.once⟩
theorem Alike.conn {N M : LN} (h : Alike N M) {i j : Nat} (hc : Conn M i j) : Conn N i j := by
  induction hc with
  | refl => exact .refl _
  | step _ hd ih => exact .step ih (h.mem.1 hd)
theorem Alike.symm {N M : LN} (h : Alike N M) : Alike M N := ⟨h.ids.symm, h.costs.symm, h.dirs.symm⟩
theorem Alike.cost {N M : LN} (h : Alike N M) (d : Lk) : M.cost d = N.cost d := by unfold LN.cost; rw [h.cs]
theorem Alike.walk {N M : LN} (h : Alike N M) {s i : Nat} {c : Int} (hw : Walk M s i c) : Walk N s i c := by
  induction hw with
  | nil => exact .nil
  | @snoc d c _ hd ih =>
    rw [h.cost]
    exact .snoc ih (h.mem.1 hd)
theorem Alike.lt {N M : LN} (h : Alike N M) (i j : Nat) : M.lt i j = N.lt i j := by unfold LN.lt; rw [h.id, h.id]
theorem Alike.sol {N M : LN} (h : Alike N M) {R : List Nat} {D q : List Int} (s : Sol N R D q) : Sol M R D q := by
  have e : M.ids.length = N.ids.length := by rw [h.ids]
  refine ⟨h.ok s.ok, ⟨s.roots.len.trans e.symm, fun i hi => ?_, fun i hi => h.symm.conn (s.roots.conn i (e ▸ hi)), fun i j hi hc => ?_⟩, ⟨s.dist.len.trans e.symm, fun i hi => h.symm.walk (s.dist.walk i (e ▸ hi)), fun i c hi hw => s.dist.least i c (e ▸ hi) (h.walk hw)⟩, ⟨s.ports.len.trans e.symm, fun i hi hr => s.ports.root i (e ▸ hi) hr, fun i hi hr => ?_⟩⟩
  · rw [e]; exact s.roots.lt i (e ▸ hi)
  · rw [h.lt]; exact s.roots.least i j (e ▸ hi) (h.conn hc)
  · obtain ⟨d, hd, hj, hq, hb⟩ := s.ports.port i (e ▸ hi) hr
    have hh : ∀ d, hearV M R D d = hearV N R D d := fun d => by unfold hearV; rw [h.id, h.cost, h.id]
    exact ⟨d, h.mem.2 hd, hj, hq, fun d' hd' hj' => by rw [hh, hh]; exact hb d' (h.mem.1 hd') hj'⟩
theorem Alike.forw {N M : LN} (h : Alike N M) (ok : N.Ok) (D q : List Int) (b p : Int) : forwB M D q b p = forwB N D q b p := by
  have ht : ∀ i x, tellV M D i x = tellV N D i x := fun i x => by unfold tellV; rw [h.id]
  by_cases hx : ∃ d ∈ N.dirs, d.b = b ∧ d.q = p
  · obtain ⟨d, hd, rfl, rfl⟩ := hx
    rw [forwB_some ok D q hd, forwB_some (h.ok ok) D q (h.mem.2 hd), ht, ht]
  · have hn : ∀ d ∈ N.dirs, ¬ (d.b = b ∧ d.q = p) := fun d hd hm => hx ⟨d, hd, hm⟩
    rw [forwB_none D q hn, forwB_none D q (fun d hd => hn d (h.mem.1 hd))]

/-- links from either end, as a list -/
def dirsL (ls : List Lk) : List Lk := ls.flatMap fun l => [l, l.turn]
theorem dirsL_snoc {done rest : List Lk} {x y : Lk} (h : (dirsL done).Perm (dirsL rest)) (hy : y = x ∨ y = x.turn) : (dirsL (done ++ [y])).Perm (dirsL (x :: rest)) := by
  have e1 : dirsL (done ++ [y]) = dirsL done ++ [y, y.turn] := by unfold dirsL; rw [List.flatMap_append]; rfl
  have e2 : dirsL (x :: rest) = [x, x.turn] ++ dirsL rest := rfl
  rw [e1, e2]
  refine (h.append_right _).trans (List.perm_append_comm.trans (List.Perm.append_right _ ?_))
  rcases hy with rfl | rfl
  · exact .refl _
  · exact .swap _ _ _
end Go.Proofs.Ytcmokhpnooldgaa
