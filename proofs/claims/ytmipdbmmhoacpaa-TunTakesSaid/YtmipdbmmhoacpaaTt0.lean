/- What pieces come to: the document's list of texts, the joiner's, and that they are alike. By an AI agent. -/
import Derived.Test.YtmipdbmmhoacpaaTt1
namespace Go.Proofs.Ytmipdbmmhoacpaa

/-- a text of the document's -/
structure RT where
  n : Nat
  c : Nat
  h : Nat → Bool
  p : Nat → ByteArray
def RT.new (n c : Nat) : RT := ⟨n, c, fun _ => false, fun _ => ⟨#[]⟩⟩
def RT.mark (t : RT) (x : Nat) : RT := ⟨t.n, t.c, fun i => if i = x then true else t.h i, t.p⟩
def RT.lay (t : RT) (x : Nat) (b : ByteArray) : RT := ⟨t.n, t.c, t.h, fun i => if i = x then b else t.p i⟩
def RT.put (t : RT) (x : Nat) (b : ByteArray) : RT := (t.mark x).lay x b
def encT (t : RT) : List Value := [U32 t.n, .int .i64 (t.c : Int), .bool (t.h 0), .bool (t.h 1), .bool (t.h 2), .string (t.p 0), .string (t.p 1), .string (t.p 2)]
theorem encT_len (t : RT) : (encT t).length = 8 := rfl
theorem encT_has (t : RT) {x : Nat} (h : x < 3) : (encT t)[2 + x]? = some (.bool (t.h x)) := by
  rcases (show x = 0 ∨ x = 1 ∨ x = 2 by omega) with rfl | rfl | rfl <;> rfl
theorem encT_part (t : RT) {x : Nat} (h : x < 3) : (encT t)[5 + x]? = some (.string (t.p x)) := by
  rcases (show x = 0 ∨ x = 1 ∨ x = 2 by omega) with rfl | rfl | rfl <;> rfl
theorem encT_mark (t : RT) {x : Nat} (h : x < 3) : (encT t).set (2 + x) (.bool true) = encT (t.mark x) := by
  rcases (show x = 0 ∨ x = 1 ∨ x = 2 by omega) with rfl | rfl | rfl <;> rfl
theorem encT_lay (t : RT) {x : Nat} (h : x < 3) (b : ByteArray) : (encT t).set (5 + x) (.string b) = encT (t.lay x b) := by
  rcases (show x = 0 ∨ x = 1 ∨ x = 2 by omega) with rfl | rfl | rfl <;> rfl
def openR (L : List RT) (n y : Nat) : List RT := if n ∈ L.map RT.n then L else (if L.length = 8 then L.tail else L) ++ [RT.new n y]

/-- the joiner's text, and the document's -/
structure Alike (a : Ab) (t : RT) : Prop where
  n : t.n = a.1
  c : t.c = a.2.1
  c3 : a.2.1 ≤ 3
  nd : (a.2.2.map (·.1)).Nodup
  lt : ∀ q ∈ a.2.2, q.1 < a.2.1
  has : ∀ i, t.h i = true ↔ i ∈ a.2.2.map (·.1)
  part : ∀ q ∈ a.2.2, t.p q.1 = q.2
  sz : ∀ q ∈ a.2.2, q.2.size ≤ 512
inductive Pairs : List Ab → List RT → Prop
  | nil : Pairs [] []
  | cons {a : Ab} {t : RT} {L : List Ab} {M : List RT} : Alike a t → Pairs L M → Pairs (a :: L) (t :: M)
theorem Pairs.len {L : List Ab} {M : List RT} (h : Pairs L M) : L.length = M.length := by
  induction h with
  | nil => rfl
  | cons _ _ ih => rw [List.length_cons, List.length_cons, ih]
theorem Pairs.ns {L : List Ab} {M : List RT} (h : Pairs L M) : L.map (·.1) = M.map RT.n := by
  induction h with
  | nil => rfl
  | cons h1 _ ih => rw [List.map_cons, List.map_cons, ih, h1.n]
theorem Pairs.append {L L' : List Ab} {M M' : List RT} (h : Pairs L M) (h' : Pairs L' M') : Pairs (L ++ L') (M ++ M') := by
  induction h with
  | nil => exact h'
  | cons h1 _ ih => exact .cons h1 ih
theorem Pairs.tail {L : List Ab} {M : List RT} (h : Pairs L M) : Pairs L.tail M.tail := by
  cases h with
  | nil => exact .nil
  | cons _ h2 => exact h2
theorem alike_new (n y : Nat) (hy : y ≤ 3) : Alike (n, y, []) (RT.new n y) :=
  ⟨rfl, rfl, hy, List.nodup_nil, fun q h => (by cases h), fun i => ⟨fun h => (by cases h), fun h => (by cases h)⟩, fun q h => (by cases h), fun q h => (by cases h)⟩
theorem Pairs.open {L : List Ab} {M : List RT} (h : Pairs L M) (n y : Nat) (hy : y ≤ 3) : Pairs (openA L n y) (openR M n y) := by
  unfold openA openR
  rw [h.ns, h.len]
  split
  · exact h
  · refine Pairs.append ?_ (.cons (alike_new n y hy) .nil)
    split
    · exact h.tail
    · exact h
theorem Pairs.split {M1 M2 : List RT} {t : RT} : ∀ {L : List Ab}, Pairs L (M1 ++ t :: M2) → ∃ L1 a L2, L = L1 ++ a :: L2 ∧ Pairs L1 M1 ∧ Alike a t ∧ Pairs L2 M2 := by
  induction M1 with
  | nil =>
    intro L h
    cases h with
    | cons h1 h2 => exact ⟨[], _, _, rfl, .nil, h1, h2⟩
  | cons m M1 ih =>
    intro L h
    cases h with
    | cons h1 h2 =>
      obtain ⟨L1, a, L2, rfl, h3, h4, h5⟩ := ih h2
      exact ⟨_ :: L1, a, L2, rfl, .cons h1 h3, h4, h5⟩
theorem Alike.len {a : Ab} {t : RT} (h : Alike a t) : a.2.2.length ≤ a.2.1 := by
  have := nodup_le a.2.1 (a.2.2.map (·.1)) h.nd (fun i hi => by
    obtain ⟨q, hq, rfl⟩ := List.mem_map.1 hi
    exact h.lt q hq)
  rwa [List.length_map] at this
theorem Alike.put {a : Ab} {t : RT} (h : Alike a t) {x : Nat} (hx : x < a.2.1) (hn : t.h x = false) {b : ByteArray} (hb : b.size ≤ 512) : Alike (a.1, a.2.1, a.2.2 ++ [(x, b)]) (t.put x b) := by
  have hx' : x ∉ a.2.2.map (·.1) := fun hm => by
    rw [(h.has x).2 hm] at hn
    cases hn
  refine ⟨h.n, h.c, h.c3, ?_, fun q hq => ?_, fun i => ?_, fun q hq => ?_, fun q hq => ?_⟩
  · show ((a.2.2 ++ [(x, b)]).map (·.1)).Nodup
    rw [List.map_append, List.nodup_append]
    refine ⟨h.nd, by simp, fun i hi j hj e => ?_⟩
    rw [List.map_cons, List.map_nil, List.mem_singleton] at hj
    subst hj
    subst e
    exact hx' hi
  · rcases List.mem_append.1 hq with hq | hq
    · exact h.lt q hq
    · obtain rfl : q = (x, b) := by simpa using hq
      exact hx
  · show (if i = x then true else t.h i) = true ↔ i ∈ (a.2.2 ++ [(x, b)]).map (·.1)
    rw [List.map_append, List.mem_append, List.map_cons, List.map_nil, List.mem_singleton, ← h.has i]
    by_cases e : i = x
    · rw [if_pos e]; exact ⟨fun _ => .inr e, fun _ => rfl⟩
    · rw [if_neg e]; exact ⟨fun h => .inl h, fun h => h.elim id (fun h => absurd h e)⟩
  · show (if q.1 = x then b else t.p q.1) = q.2
    rcases List.mem_append.1 hq with hq | hq
    · rw [if_neg (fun e : q.1 = x => hx' (by rw [← e]; exact List.mem_map.2 ⟨q, hq, rfl⟩))]
      exact h.part q hq
    · obtain rfl : q = (x, b) := by simpa using hq
      rw [if_pos rfl]
  · rcases List.mem_append.1 hq with hq | hq
    · exact h.sz q hq
    · obtain rfl : q = (x, b) := by simpa using hq
      exact hb
/-- all pieces are there: as many as the count -/
theorem Alike.whole {a : Ab} {t : RT} (h : Alike a t) : (∀ i, i < a.2.1 → t.h i = true) ↔ a.2.2.length = a.2.1 := by
  constructor
  · intro hall
    have h1 := h.len
    have h2 := nodup_le a.2.2.length (List.range a.2.1)
    rcases Nat.lt_or_ge a.2.2.length a.2.1 with h3 | h3
    · exfalso
      have hsub : ∀ i ∈ List.range a.2.1, i ∈ a.2.2.map (·.1) := fun i hi => (h.has i).1 (hall i (List.mem_range.1 hi))
      have := List.nodup_range.length_le_of_subset hsub
      rw [List.length_range, List.length_map] at this
      omega
    · omega
  · intro he i hi
    refine (h.has i).2 (nodup_full h.nd (fun j hj => ?_) (by rw [List.length_map]; exact he) i hi)
    obtain ⟨q, hq, rfl⟩ := List.mem_map.1 hj
    exact h.lt q hq
end Go.Proofs.Ytmipdbmmhoacpaa
