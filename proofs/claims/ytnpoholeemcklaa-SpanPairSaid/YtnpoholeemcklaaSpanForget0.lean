/- What was heard, and does not come again, is forgotten. By an AI agent. -/
import Derived.Test.YtnpoholeemcklaaSpanLaw1
namespace Go.Proofs.Ytnpoholeemcklaa
open Go.RowKit Go.WideShapes Go.Sort Grow

def tickN (s : SS) : Nat → SS
  | 0 => s
  | k + 1 => (tickN s k).ticked
theorem tickN_ok {s : SS} {n : Int} (h : s.Ok n) : ∀ k : Nat, (tickN s k).Ok (n + 300 * k)
  | 0 => h.mono (by omega)
  | k + 1 => ((tickN_ok h k).ticked).mono (by omega)
theorem tickN_same (s : SS) : ∀ k : Nat, s.Same (tickN s k)
  | 0 => SS.Same.refl s
  | k + 1 => (tickN_same s k).trans (SS.ticked_same _)
theorem SP.mature_w (p : SP) (now de : Int) : (p.mature now de).w = p.w ∧ (p.mature now de).heard = p.heard ∧ (p.mature now de).up = p.up ∧ (p.mature now de).cost = p.cost ∧ (p.mature now de).role = p.role := by
  unfold SP.mature
  split <;> exact ⟨rfl, rfl, rfl, rfl, rfl⟩
theorem SS.aged_len (s : SS) : s.aged.ports.length = s.ports.length := by unfold SS.aged; simp
theorem SS.next_port (s : SS) (k : Nat) : s.next.port k = s.port k := rfl
theorem SS.ticked_port (s : SS) (k : Nat) (hk : k < s.ports.length) : s.ticked.port k = (((s.port k).aged s.ma).onto (s.next.aged.rooted.role k) s.next.now).mature s.ticked.now s.ticked.de := by
  have h1 : s.next.aged.port k = (s.port k).aged s.ma := SS.port_map s.next (SP.aged s.next.ma) k hk
  have hlen : s.next.aged.found.1.ports.length = s.ports.length := by rw [SS.found_len, SS.aged_len]; rfl
  have h2 := matF_port s.next.aged.found.1 _ (Nat.le_refl _) k
  rw [if_pos (by rw [hlen]; exact hk)] at h2
  have hn : s.ticked.now = s.next.aged.found.1.now := (matF_like _ _).now
  have hd : s.ticked.de = s.next.aged.found.1.de := (matF_like _ _).de
  unfold SS.ticked at hn hd ⊢
  rw [h2, SS.found_port _ _ (by rw [SS.aged_len]; exact hk), h1, hn, hd]
  rfl
theorem SS.ticked_heard (s : SS) (k : Nat) (hk : k < s.ports.length) : (s.ticked.port k).heard = ((s.port k).aged s.ma).heard ∧ (s.ticked.port k).w = ((s.port k).aged s.ma).w ∧ (s.ticked.port k).up = (s.port k).up ∧ (s.ticked.port k).role = s.next.aged.rooted.role k := by
  rw [s.ticked_port k hk]
  have h1 := SP.mature_w (((s.port k).aged s.ma).onto (s.next.aged.rooted.role k) s.next.now) s.ticked.now s.ticked.de
  have h2 := ((s.port k).aged s.ma).onto_w (s.next.aged.rooted.role k) s.next.now
  refine ⟨h1.2.1.trans h2.2.1, h1.1.trans h2.1, ?_, h1.2.2.2.2.trans h2.2.2.2.2⟩
  rw [h1.2.2.1, h2.2.2.1]
  unfold SP.aged
  split
  · split <;> rfl
  · rfl
/-- what is heard is that old, and not too old -/
def Older (s : SS) (j : Nat) : Prop := ∀ k, k < s.ports.length → (s.port k).heard = true → (j : Int) ≤ (s.port k).w.age ∧ (0 < j → (s.port k).w.age < s.ma)
theorem SP.aged_cases (p : SP) (ma : Int) : (p.heard = false ∧ p.aged ma = p) ∨ (p.heard = true ∧ p.w.age + 1 ≥ ma ∧ (p.aged ma).heard = false) ∨ (p.heard = true ∧ p.w.age + 1 < ma ∧ (p.aged ma).heard = true ∧ (p.aged ma).w.age = p.w.age + 1) := by
  unfold SP.aged
  cases hp : p.heard
  · exact .inl ⟨rfl, rfl⟩
  · by_cases hc : p.w.age + 1 ≥ ma
    · refine .inr (.inl ⟨rfl, hc, ?_⟩)
      rw [if_pos rfl, if_pos hc]
    · refine .inr (.inr ⟨rfl, by omega, ?_⟩)
      rw [if_pos rfl, if_neg hc]
      exact ⟨rfl, rfl⟩
theorem older_tick {s : SS} {j : Nat} (h : Older s j) : Older s.ticked (j + 1) := by
  intro k hk hh
  have hk' : k < s.ports.length := by rw [← s.ticked_same.len]; exact hk
  obtain ⟨h1, h2, _⟩ := s.ticked_heard k hk'
  rw [h1] at hh
  rw [h2, s.ticked_same.ma]
  have h0 := h k hk'
  generalize s.port k = p at *
  rcases p.aged_cases s.ma with ⟨e0, e⟩ | ⟨e0, e1, e⟩ | ⟨e0, e1, e2, e3⟩
  · rw [e, e0] at hh
    cases hh
  · rw [e] at hh
    cases hh
  · have := h0 e0
    rw [e3]
    omega
theorem older_n {s : SS} (h : ∀ k, 0 ≤ (s.port k).w.age) : ∀ j : Nat, Older (tickN s j) j
  | 0 => fun k _ _ => ⟨h k, fun h0 => absurd h0 (Nat.lt_irrefl _)⟩
  | j + 1 => older_tick (older_n h j)
theorem rootF_none (s : SS) (h : ∀ k, k < s.ports.length → (s.port k).heard = false) : ∀ k, k ≤ s.ports.length → rootF s k = (s.own, -1)
  | 0, _ => rfl
  | k + 1, hk => by
    unfold rootF rootStep
    rw [h k (by omega), rootF_none s h k (by omega)]
    simp
/-- behind MaxAge ticks, and one, it is the root -/
theorem forgotten (s : SS) (n : Int) (hok : s.Ok n) (m : Nat) (hm : s.ma = m) :
    (tickN s (m + 1)).root = -1 ∧ (tickN s (m + 1)).best = s.own ∧ ∀ k, k < s.ports.length → (tickN s (m + 1)).roleAt k = 0 ∨ (tickN s (m + 1)).roleAt k = 2 := by
  have ho := older_n (fun k => (hok.age k).1) m
  have hs := tickN_same s m
  have hma : 1 ≤ s.ma := hok.ma.1
  have hno : ∀ k, k < (tickN s m).ports.length → (((tickN s m).port k).aged (tickN s m).ma).heard = false := fun k hk => by
    unfold SP.aged
    cases hp : ((tickN s m).port k).heard
    · simp [hp]
    · have h0 := ho k hk hp
      rw [hs.ma] at h0
      have := h0.2 (by omega)
      omega
  have hna : ∀ k, k < (tickN s m).next.aged.ports.length → ((tickN s m).next.aged.port k).heard = false := fun k hk => by
    rw [SS.aged_len] at hk
    rw [show (tickN s m).next.aged.port k = ((tickN s m).port k).aged (tickN s m).ma from SS.port_map (tickN s m).next (SP.aged (tickN s m).next.ma) k hk]
    exact hno k hk
  have hrt : rootF (tickN s m).next.aged (tickN s m).next.aged.ports.length = ((tickN s m).next.aged.own, -1) := rootF_none _ hna _ (Nat.le_refl _)
  have hown : (tickN s m).next.aged.own = s.own := by
    show (⟨(tickN s m).id, 0, (tickN s m).id, 0⟩ : SV) = ⟨s.id, 0, s.id, 0⟩
    rw [hs.id]
  have hlr : (tickN s (m + 1)).root = (tickN s m).next.aged.rooted.root := by
    show (tickN s m).ticked.root = _
    unfold SS.ticked
    rw [(matF_like _ _).root]
    exact (SS.found_like _).root
  have hlb : (tickN s (m + 1)).best = (tickN s m).next.aged.rooted.best := by
    show (tickN s m).ticked.best = _
    unfold SS.ticked
    rw [(matF_like _ _).best]
    exact (SS.found_like _).best
  have hroot : (tickN s m).next.aged.rooted.root = -1 := by
    show (rootF _ _).2 = -1
    rw [hrt]
  refine ⟨hlr.trans hroot, ?_, fun k hk => ?_⟩
  · rw [hlb]
    show (rootF _ _).1 = _
    rw [hrt]
    exact hown
  · have hk' : k < (tickN s m).ports.length := by rw [hs.len]; exact hk
    have hkn : k < (tickN s (m + 1)).ports.length := by rw [(tickN_same s (m + 1)).len]; exact hk
    have e : (tickN s (m + 1)).roleAt (k : Nat) = ((tickN s (m + 1)).port k).role := by
      unfold SS.roleAt SS.has
      rw [if_pos (by simp; omega), Int.toNat_natCast]
    rw [e]
    have hr := ((tickN s m).ticked_heard k hk').2.2.2
    rw [show (tickN s (m + 1)).port k = (tickN s m).ticked.port k from rfl, hr]
    unfold SS.role
    split
    · exact .inl rfl
    · rw [if_neg (by rw [hroot]; omega)]
      have : ((tickN s m).next.aged.rooted.port k).heard = false := hna k (by rw [SS.aged_len]; exact hk')
      rw [this]
      exact .inr rfl
end Go.Proofs.Ytnpoholeemcklaa
