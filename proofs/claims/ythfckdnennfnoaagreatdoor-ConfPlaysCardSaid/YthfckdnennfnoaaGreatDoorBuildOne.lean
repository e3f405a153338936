/- A slice literal of one struct, whole. By an AI agent. -/
import Derived.Test.YthfckdnennfnoaaGreatDoorConf6
namespace Go.Proofs.YthfckdnennfnoaaGreatDoor
open Go.RowKit Go.Sort Grow
theorem zip_fold : ∀ (l : List Value) (k : Nat) (cs : Array Value), ((l.zipIdx k).foldl (fun (cs : Array Value) (p : Value × Nat) => cs.setIfInBounds (0 + p.2) p.1) cs).size = cs.size ∧
    ∀ i, ((l.zipIdx k).foldl (fun (cs : Array Value) (p : Value × Nat) => cs.setIfInBounds (0 + p.2) p.1) cs)[i]? = if k ≤ i ∧ i < k + l.length ∧ i < cs.size then l[i - k]? else cs[i]?
  | [], k, cs => ⟨rfl, fun i => by rw [if_neg (by simp; omega)]; rfl⟩
  | v :: l, k, cs => by
    obtain ⟨h1, h2⟩ := zip_fold l (k + 1) (cs.setIfInBounds (0 + k) v)
    rw [List.zipIdx_cons, List.foldl_cons]
    refine ⟨by rw [h1]; simp, fun i => ?_⟩
    rw [h2 i, Array.size_setIfInBounds, List.length_cons]
    by_cases hi : k = i
    · subst hi
      rw [if_neg (by omega), Nat.sub_self, Nat.zero_add, Array.getElem?_setIfInBounds_self]
      by_cases hz : k < cs.size
      · rw [if_pos hz, if_pos ⟨Nat.le_refl _, by omega, hz⟩]
        rfl
      · rw [if_neg hz, if_neg (by omega), Array.getElem?_eq_none (by omega)]
    · rw [Array.getElem?_setIfInBounds_ne (by omega)]
      by_cases hc : k + 1 ≤ i ∧ i < k + 1 + l.length ∧ i < cs.size
      · rw [if_pos hc, if_pos (by omega), show i - k = (i - (k + 1)) + 1 by omega, List.getElem?_cons_succ]
      · rw [if_neg hc, if_neg (by omega)]
theorem fill_one (place : Nat → Option (Nat × Nat)) (base cells : Array Value) (h : base.size = cells.size) (hp : place 0 = some (0, cells.size)) : Instr.fill place base [(0, .agg cells)] = some cells := by
  unfold Instr.fill
  rw [hp]
  show (if (decide (cells.size ≠ cells.size) || decide (0 + cells.size > base.size)) = true then none else Instr.fill place _ []) = some cells
  rw [if_neg (by simp; omega)]
  unfold Instr.fill
  congr 1
  apply Array.ext_getElem?
  intro i
  obtain ⟨h1, h2⟩ := zip_fold cells.toList 0 base
  have e : (Value.agg cells).cells.zipIdx.foldl (fun (cs : Array Value) (p : Value × Nat) => cs.setIfInBounds (0 + p.2) p.1) base = (cells.toList.zipIdx 0).foldl (fun (cs : Array Value) (p : Value × Nat) => cs.setIfInBounds (0 + p.2) p.1) base := by
    rw [← Array.foldl_toList]
    simp [Value.cells]
  have e2 := h2 i
  rw [← e] at e2
  refine e2.trans ?_
  by_cases hi : i < cells.size
  · rw [if_pos ⟨Nat.zero_le _, by simpa using hi, by omega⟩]
    simp
  · rw [if_neg (by simp; omega), Array.getElem?_eq_none (by omega), Array.getElem?_eq_none (by omega)]
theorem step_build_one {P : Program} {o : Oper} {a : Act} {w : World} {ys : Nat → Option Bool} {K : Act → World → Prop} {Q : Exit → Act → World → Prop} {C : Prop} (hg : o.guard = none) (t e : TypeId) (x : Operand) (ho : o.op = .buildSlice t 1 #[(0, x)]) (cells : Array Value) (hx : a.eval x = .agg cells)
    (hu : P.underlying t = some (.slice e)) (sz : Nat) (hi : (P.info? e).map (fun i => (i.zero.isSome, i.size)) = some (true, sz)) (hsz : cells.size = sz) (hsmall : ¬ 1 * sz > 2 ^ 24) (hpos : ¬ 1 * sz = 0)
    (h : K (a.put o.dst (.slice (some ⟨w.heap.size, 0, none⟩) 1 1)) (w.alloc (.cells cells e))) : if Region.wanted o ys = true then Oper.wp P o a w K Q else C := by
  rw [if_pos (by simp [Region.wanted, hg])]
  obtain ⟨i, hi', he⟩ := Option.map_eq_some_iff.1 hi
  simp only [Prod.mk.injEq] at he
  obtain ⟨hz, rfl⟩ := he
  obtain ⟨z, hz⟩ := Option.isSome_iff_exists.1 hz
  unfold Oper.wp execOp
  have hr := run_buildSlice (P := P) w t e 1 #[(0, .agg cells)] cells i z hu hi' hz hsmall hpos (fill_one _ _ _ (by simp [hsz]) (by simp [hsz]))
  have e1 : (#[((0 : Nat), x)].map fun (i, x) => (i, a.eval x)) = #[(0, .agg cells)] := by simp [hx]
  simp only [ho, e1, Sem.run_bind, hr, Result.andThen_ok, Sem.run_pure]
  exact h

theorem step_append_own {P : Program} {w : World} {o : Oper} {a : Act} {ys : Nat → Option Bool} {K : Act → World → Prop} {Q : Exit → Act → World → Prop} {C : Prop}
    (hg : o.guard = none) (s x : Operand) (t : TypeId) (hop : o.op = Op.call { callee := Callee.builtin Builtin.append, args := #[s, x], argTypes := #[t, t] })
    (base : Nat) (e : TypeId) (i : TypeInfo) (z : Value) (size bytes : Nat) (h1 : P.underlying t = some (.slice e)) (h2 : P.info? e = some i) (h3 : i.zero = some z) (h4 : i.size = size) (h5 : i.bytes = bytes) (h6 : z.cells.size = size) (h7 : 0 < size)
    (v : Value) (k : Nat) (xs : List Value) (hs : a.eval s = v) (hown : w.ownsRow base e size v k xs) (ad : Addr) (m c : Nat) (news : List Value) (hx : a.eval x = .slice (some ad) m c) (hn : news.length = m * size)
    (hc : ∀ j u, news[j]? = some u → w.cell? (ad.add j) = some u) (h1c : ∀ u ∈ news, u.oneCell' = true) (b1 : k + m ≤ maxLen) (b2 : (k + m) * bytes ≤ 140737488355328) (b3 : base ≤ w.heap.size)
    (hK : ∀ v' w', w'.ownsRow base e size v' (k + m) (xs ++ news) → w.grownBy w' v.ownBlock → K (a.put o.dst v') w') :
    if Region.wanted o ys = true then Oper.wp P o a w K Q else C := by
  rw [if_pos (by simp [Region.wanted, hg])]
  obtain ⟨v', w', hrun, r1, r2, r3⟩ := run_append_own (P := P) w base t o.type e i z size bytes h1 h2 h3 h4 h5 h6 h7 v k xs hown ad m c news hn hc h1c b1 b2 b3
  unfold Oper.wp
  simp [execOp, hop, resolve, invoke, builtin, hs, hx, hrun, Result.andThen]
  exact hK v' w' r1 r2
end Go.Proofs.YthfckdnennfnoaaGreatDoor
