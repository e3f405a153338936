/- Learn and Fix, with what they answer. By an AI agent. -/
import Derived.Test.YtcdklbhfcfamnaaLearnAny
namespace Go.Proofs.Ytcdklbhfcfamnaa
open Go.RowKit Go.MapKept Go.Maps Go.WideShapes Go.Sort Grow

def Ent.is (v : Int) (m : Mac6) (e : Ent) : Bool := decide (e.v = v) && eqB e.m.l m.l
theorem is_true {v : Int} {m : Mac6} {e : Ent} : e.is v m = true ↔ e.v = v ∧ e.m = m := by
  unfold Ent.is
  rw [Bool.and_eq_true, decide_eq_true_eq, eqB_true]
  exact ⟨fun h => ⟨h.1, Mac6.l_inj h.2⟩, fun h => ⟨h.1, by rw [h.2]⟩⟩
def others (v : Int) (m : Mac6) (L : List Ent) : List Ent := L.filter fun e => !e.is v m
def mayN (lims : List Int) (L : List Ent) (v : Int) (m : Mac6) (port : Int) : Int := if mayBad lims v m port = true then 1 else if (L.any fun e => e.is v m && e.fixed) = true then 10 else 0
def learnN (lims : List Int) (L : List Ent) (v : Int) (m : Mac6) (port : Int) : Int := if mayN lims L v m port ≠ 0 then mayN lims L v m port else if (L.any fun e => e.is v m && decide (e.port = port)) = true then 0 else if lims.getD port.toNat 0 ≤ (onN port L : Int) then 8 else 0
theorem no_is {L : List Ent} {v : Int} {m : Mac6} (h : ¬ HasKey L v m) : ∀ e ∈ L, e.is v m = false := fun e he => by
  cases hi : e.is v m
  · rfl
  · exact absurd ⟨e, he, (is_true.1 hi).1, (is_true.1 hi).2⟩ h
theorem any_no {L : List Ent} {v : Int} {m : Mac6} (h : ¬ HasKey L v m) (f : Ent → Bool) : (L.any fun e => e.is v m && f e) = false := by
  rw [List.any_eq_false]
  intro e he
  rw [no_is h e he]
  simp
theorem others_no {L : List Ent} {v : Int} {m : Mac6} (h : ¬ HasKey L v m) : others v m L = L := List.filter_eq_self.2 fun e he => by rw [no_is h e he]; rfl
theorem tab_nodup {B T M : Nat} {w : World} {ageing : Int} {lims : List Int} {L : List Ent} (h : TabIs B T M w ageing lims L) : (L.map fun e => keyV e.v e.m).Nodup := by
  obtain ⟨_, _, _, _, _, _, hM, hI⟩ := h
  have hn := hM.nodup
  rw [List.map_map] at hn
  exact hn
theorem others_of {L L0 : List Ent} {e0 : Ent} (hn : (L.map fun e => keyV e.v e.m).Nodup) (hp : L.Perm (e0 :: L0)) : L0.Perm (others e0.v e0.m L) := by
  have h1 : (others e0.v e0.m L).Perm (others e0.v e0.m (e0 :: L0)) := hp.filter _
  have hn' := (hp.map fun e => keyV e.v e.m).nodup_iff.1 hn
  rw [List.map_cons, List.nodup_cons] at hn'
  have h2 : others e0.v e0.m (e0 :: L0) = L0 := by
    unfold others
    rw [List.filter_cons_of_neg (by rw [is_true.2 ⟨rfl, rfl⟩]; simp)]
    refine List.filter_eq_self.2 fun e he => ?_
    cases hi : e.is e0.v e0.m
    · rfl
    · obtain ⟨k1, k2⟩ := is_true.1 hi
      exact absurd (List.mem_map.2 ⟨e, he, by rw [k1, k2]⟩) hn'.1
  rw [h2] at h1
  exact h1.symm
theorem any_one {L L0 : List Ent} {e0 : Ent} (hn : (L.map fun e => keyV e.v e.m).Nodup) (hp : L.Perm (e0 :: L0)) (f : Ent → Bool) : (L.any fun e => e.is e0.v e0.m && f e) = f e0 := by
  have h1 := others_of hn hp
  have h2 : ∀ e ∈ L, e.is e0.v e0.m = true → e = e0 := fun e he hi => by
    rcases List.mem_cons.1 (hp.mem_iff.1 he) with h | h
    · exact h
    · have := (List.mem_filter.1 (h1.mem_iff.1 h)).2
      rw [hi] at this
      simp at this
  cases hf : f e0
  · rw [List.any_eq_false]
    intro e he hh
    rw [Bool.and_eq_true] at hh
    have := h2 e he hh.1
    rw [this, hf] at hh
    simp at hh
  · rw [List.any_eq_true]
    exact ⟨e0, hp.mem_iff.2 (by simp), by rw [is_true.2 ⟨rfl, rfl⟩, hf]; rfl⟩

theorem fix_says (B T M : Nat) (ageing : Int) (lims : List Int) (L : List Ent) (v : Int) (m : Mac6) (port : Int) (w : World) (h : TabIs B T M w ageing lims L) :
    Calls Try.prog 17 #[.pointer (some ⟨T, 0, none⟩), .int .i64 v, .agg #[.int .u8 (m.a.toNat : Int), .int .u8 (m.b.toNat : Int), .int .u8 (m.c.toNat : Int), .int .u8 (m.d.toNat : Int), .int .u8 (m.e.toNat : Int), .int .u8 (m.f.toNat : Int)], .int .i64 port] w fun e w' => e = .returned (.int .i64 (mayN lims L v m port)) ∧ ∃ L', TabIs B T M w' ageing lims L' ∧ w.grownBy w' (some M) ∧ (mayN lims L v m port = 0 ∧ L'.Perm (⟨v, m, port, 0, true⟩ :: others v m L) ∨ mayN lims L v m port ≠ 0 ∧ L' = L) := by
  cases hb : mayBad lims v m port
  · obtain ⟨q, rfl, hq, hv⟩ := mayBad_q hb
    obtain ⟨x, hx⟩ := keyOf_learn v hv m
    by_cases hk : HasKey L v m
    · obtain ⟨e0, he0, rfl, rfl⟩ := hk
      obtain ⟨l1, l2, hl⟩ := List.append_of_mem he0
      have hp : L.Perm (e0 :: (l1 ++ l2)) := by rw [hl]; exact List.perm_middle
      have hn := tab_nodup h
      have hma : mayN lims L e0.v e0.m q = if e0.fixed = true then 10 else 0 := by
        unfold mayN
        rw [any_one hn hp]
        simp [hb]
      cases hf : e0.fixed
      · have hm0 : mayN lims L e0.v e0.m q = 0 := by rw [hma, hf]; rfl
        rw [hm0]
        refine (fix_put B T M ageing lims (e0 :: (l1 ++ l2)) (⟨e0.v, e0.m, q, 0, true⟩ :: (l1 ++ l2)) e0.v e0.m q w (h.perm hp) ?_ (fun w' hb' => ?_) (fun w' hM => run_update_oldP learn_keyed Try.underlying61 hM hx _)).mono ?_
        · intro e he
          rcases List.mem_cons.1 he with rfl | he
          · exact hv
          · obtain ⟨_, _, _, _, _, _, _, h6⟩ := h
            exact h6 e (hp.mem_iff.2 (List.mem_cons_of_mem _ he))
        · have H := may_fixed B T M ageing lims L e0 q w' (h.later hb') hb he0
          rw [hf] at H
          exact H
        · rintro e w' ⟨rfl, hT', hg⟩
          exact ⟨rfl, _, hT', hg, .inl ⟨rfl, (others_of hn hp).cons _⟩⟩
      · have hm0 : mayN lims L e0.v e0.m q = 10 := by rw [hma, hf]; rfl
        rw [hm0]
        refine (fix_may T e0.v e0.m q 10 (by decide) w (fun w' hb' => ?_)).mono ?_
        · have H := may_fixed B T M ageing lims L e0 q w' (h.later hb') hb he0
          rw [hf] at H
          exact H
        · rintro e w' ⟨rfl, hb'⟩
          exact ⟨rfl, L, h.later hb', grown_below hb', .inr ⟨by decide, rfl⟩⟩
    · have hm0 : mayN lims L v m q = 0 := by
        unfold mayN
        rw [any_no hk]
        simp [hb]
      rw [hm0]
      refine (fix_put B T M ageing lims L (⟨v, m, q, 0, true⟩ :: L) v m q w h ?_ (fun w' hb' => may_new B T M ageing lims L v hv m q w' (h.later hb') hb hk) (fun w' hM => run_update_newP learn_keyed Try.underlying61 hM hx (no_key hk) _)).mono ?_
      · intro e he
        rcases List.mem_cons.1 he with rfl | he
        · exact hv
        · obtain ⟨_, _, _, _, _, _, _, h6⟩ := h
          exact h6 e he
      · rintro e w' ⟨rfl, hT', hg⟩
        exact ⟨rfl, _, hT', hg, .inl ⟨rfl, by rw [others_no hk]⟩⟩
  · have hm0 : mayN lims L v m port = 1 := by
      unfold mayN
      simp [hb]
    rw [hm0]
    refine (fix_may T v m port 1 (by decide) w (fun w' hb' => may_bad B T M ageing lims L v m port w' (h.later hb') hb)).mono ?_
    rintro e w' ⟨rfl, hb'⟩
    exact ⟨rfl, L, h.later hb', grown_below hb', .inr ⟨by decide, rfl⟩⟩

theorem learn_says (B T M : Nat) (ageing : Int) (lims : List Int) (L : List Ent) (v : Int) (m : Mac6) (port : Int) (w : World) (h : TabIs B T M w ageing lims L) (hL : L.length ≤ 1000000) (hlims : lims.length ≤ 1000000) :
    Calls Try.prog 11 #[.pointer (some ⟨T, 0, none⟩), .int .i64 v, .agg #[.int .u8 (m.a.toNat : Int), .int .u8 (m.b.toNat : Int), .int .u8 (m.c.toNat : Int), .int .u8 (m.d.toNat : Int), .int .u8 (m.e.toNat : Int), .int .u8 (m.f.toNat : Int)], .int .i64 port] w fun e w' => e = .returned (.int .i64 (learnN lims L v m port)) ∧ ∃ L', TabIs B T M w' ageing lims L' ∧ w.grownBy w' (some M) ∧ (learnN lims L v m port = 0 ∧ L'.Perm (⟨v, m, port, 0, false⟩ :: others v m L) ∨ learnN lims L v m port ≠ 0 ∧ L' = L) := by
  cases hb : mayBad lims v m port
  · obtain ⟨q, rfl, hq, hv⟩ := mayBad_q hb
    by_cases hk : HasKey L v m
    · obtain ⟨e0, he0, rfl, rfl⟩ := hk
      obtain ⟨l1, l2, hl⟩ := List.append_of_mem he0
      have hp : L.Perm (e0 :: (l1 ++ l2)) := by rw [hl]; exact List.perm_middle
      have hT := h.perm hp
      have hn := tab_nodup h
      have hlen : (e0 :: (l1 ++ l2)).length ≤ 1000000 := by rw [← hp.length_eq]; exact hL
      have hma : mayN lims L e0.v e0.m q = if e0.fixed = true then 10 else 0 := by
        unfold mayN
        rw [any_one hn hp]
        simp [hb]
      cases hf : e0.fixed
      · rw [hf] at hma
        have hle : learnN lims L e0.v e0.m q = if e0.port = (q : Int) then 0 else if lims.getD q 0 ≤ (onN q L : Int) then 8 else 0 := by
          unfold learnN
          rw [hma, any_one hn hp]
          simp
        by_cases hon : e0.port = (q : Int) ∨ (onN q L : Int) < lims.getD q 0
        · have hm0 : learnN lims L e0.v e0.m q = 0 := by
            rw [hle]
            by_cases h1 : e0.port = (q : Int)
            · rw [if_pos h1]
            · rw [if_neg h1, if_neg (by omega)]
          rw [hm0]
          refine (learn_again B T M ageing lims (l1 ++ l2) e0 q w hT hlen hlims hb hf (by rw [← onN_perm hp]; exact hon)).mono ?_
          rintro e w' ⟨rfl, hT', hg⟩
          exact ⟨rfl, _, hT', hg, .inl ⟨rfl, (others_of hn hp).cons _⟩⟩
        · have hm0 : learnN lims L e0.v e0.m q = 8 := by
            rw [hle, if_neg (fun e => hon (.inl e)), if_pos (by omega)]
          rw [hm0]
          obtain ⟨x, hx⟩ := keyOf_learn e0.v hv e0.m
          refine (learn_full B T M ageing lims L e0.v e0.m q hq _ rfl e0.port e0.age e0.fixed true w h hL hlims (fun w' hb' => ?_) (fun w' hM => run_lookup_hitP learn_keyed Try.underlying61 hM hx (key_of_mem he0) true) (.inr (fun e => hon (.inl e))) (by omega)).mono ?_
          · have H := may_fixed B T M ageing lims L e0 q w' (h.later hb') hb he0
            rw [hf] at H
            exact H
          · rintro e w' ⟨rfl, hb'⟩
            exact ⟨rfl, L, h.later hb', grown_below hb', .inr ⟨by decide, rfl⟩⟩
      · rw [hf] at hma
        have hm0 : learnN lims L e0.v e0.m q = 10 := by
          unfold learnN
          rw [hma]
          simp
        rw [hm0]
        refine (learn_may T e0.v e0.m q 10 (by decide) w (fun w' hb' => ?_)).mono ?_
        · have H := may_fixed B T M ageing lims L e0 q w' (h.later hb') hb he0
          rw [hf] at H
          exact H
        · rintro e w' ⟨rfl, hb'⟩
          exact ⟨rfl, L, h.later hb', grown_below hb', .inr ⟨by decide, rfl⟩⟩
    · have hma : mayN lims L v m q = 0 := by
        unfold mayN
        rw [any_no hk]
        simp [hb]
      have hle : learnN lims L v m q = if lims.getD q 0 ≤ (onN q L : Int) then 8 else 0 := by
        unfold learnN
        rw [hma, any_no hk]
        simp
      by_cases hon : (onN q L : Int) < lims.getD q 0
      · rw [hle, if_neg (by omega)]
        refine (learn_new B T M ageing lims L v m q w h hL hlims hb hk hon).mono ?_
        rintro e w' ⟨rfl, hT', hg⟩
        exact ⟨rfl, _, hT', hg, .inl ⟨rfl, by rw [others_no hk]⟩⟩
      · rw [hle, if_pos (by omega)]
        refine (learn_no B T M ageing lims L v m q w h hL hlims hb hk (by omega)).mono ?_
        rintro e w' ⟨rfl, hb'⟩
        exact ⟨rfl, L, h.later hb', grown_below hb', .inr ⟨by decide, rfl⟩⟩
  · have hma : mayN lims L v m port = 1 := by
      unfold mayN
      simp [hb]
    have hm0 : learnN lims L v m port = 1 := by
      unfold learnN
      rw [hma]
      simp
    rw [hm0]
    refine (learn_may T v m port 1 (by decide) w (fun w' hb' => may_bad B T M ageing lims L v m port w' (h.later hb') hb)).mono ?_
    rintro e w' ⟨rfl, hb'⟩
    exact ⟨rfl, L, h.later hb', grown_below hb', .inr ⟨by decide, rfl⟩⟩

/-! ### what stays -/
/-- every entry on a port, none older than k -/
def Kept (n k : Nat) (L : List Ent) : Prop := ∀ e ∈ L, 0 ≤ e.port ∧ e.port < n ∧ 0 ≤ e.age ∧ e.age ≤ k
def Limited (lims : List Int) (L : List Ent) : Prop := ∀ q < lims.length, (onN q L : Int) ≤ lims.getD q 0
theorem others_len (v : Int) (m : Mac6) (L : List Ent) : (others v m L).length ≤ L.length := List.length_filter_le _ _
theorem onN_filter (q : Int) (f : Ent → Bool) (L : List Ent) : onN q (L.filter f) ≤ onN q L := by
  unfold onN
  have e : (L.filter f).filter (fun e => e.port == q && !e.fixed) = (L.filter fun e => e.port == q && !e.fixed).filter f := by
    rw [List.filter_filter, List.filter_filter]
    exact List.filter_congr fun e _ => Bool.and_comm _ _
  rw [e]
  exact List.length_filter_le _ _
theorem onN_cons (q : Int) (e : Ent) (L : List Ent) : onN q (e :: L) = onN q L + (if e.port == q && !e.fixed then 1 else 0) := by
  unfold onN
  rw [List.filter_cons]
  split <;> simp
theorem kept_put {n k : Nat} {L L' : List Ent} {v : Int} {m : Mac6} {q : Nat} {f : Bool} (hq : q < n) (h : Kept n k L) (hp : L'.Perm (⟨v, m, q, 0, f⟩ :: others v m L)) : Kept n (k + 1) L' := fun e he => by
  rcases List.mem_cons.1 (hp.mem_iff.1 he) with rfl | h1
  · exact ⟨by simp, by simpa using hq, by simp, by simp; omega⟩
  · obtain ⟨a1, a2, a3, a4⟩ := h e (List.mem_filter.1 h1).1
    exact ⟨a1, a2, a3, by omega⟩
theorem kept_up {n k : Nat} {L : List Ent} (h : Kept n k L) : Kept n (k + 1) L := fun e he => by
  obtain ⟨a1, a2, a3, a4⟩ := h e he
  exact ⟨a1, a2, a3, by omega⟩
theorem kept_tick {n k : Nat} {L : List Ent} (a : Int) (h : Kept n k L) : Kept n (k + 1) (tickL a L) := fun e he => by
  obtain ⟨e0, he0, rfl⟩ := List.mem_map.1 (List.mem_filter.1 he).1
  obtain ⟨a1, a2, a3, a4⟩ := h e0 he0
  exact ⟨a1, a2, by show 0 ≤ e0.age + 1; omega, by show e0.age + 1 ≤ _; omega⟩
theorem tick_len (a : Int) (L : List Ent) : (tickL a L).length ≤ L.length := by
  refine Nat.le_trans (List.length_filter_le _ _) ?_
  simp
theorem onN_map (q : Int) (g : Ent → Ent) (hg : ∀ e, (g e).port = e.port ∧ (g e).fixed = e.fixed) (L : List Ent) : onN q (L.map g) = onN q L := by
  induction L with
  | nil => rfl
  | cons e L ih => rw [List.map_cons, onN_cons, onN_cons, ih, (hg e).1, (hg e).2]
theorem limited_tick {lims : List Int} {L : List Ent} (a : Int) (h : Limited lims L) : Limited lims (tickL a L) := fun q hq => by
  have h1 := onN_filter q (Ent.stays fun e => decide (a ≤ e.age)) (L.map Ent.older)
  rw [onN_map q Ent.older (fun e => ⟨rfl, rfl⟩)] at h1
  have := h q hq
  unfold tickL
  omega
theorem limited_fix {lims : List Int} {L L' : List Ent} {v : Int} {m : Mac6} {p : Int} (h : Limited lims L) (hp : L'.Perm (⟨v, m, p, 0, true⟩ :: others v m L)) : Limited lims L' := fun q hq => by
  rw [onN_perm hp, onN_cons]
  have h1 := onN_filter q (fun e => !e.is v m) L
  have := h q hq
  change onN q (others v m L) ≤ _ at h1
  generalize lims.getD q 0 = z at *
  simp
  omega
theorem onN_one {L : List Ent} {e0 : Ent} {v : Int} {m : Mac6} {q : Int} (he : e0 ∈ L) (hi : e0.is v m = true) (hp : e0.port = q) (hf : e0.fixed = false) : onN q (others v m L) + 1 ≤ onN q L := by
  obtain ⟨l1, l2, hl⟩ := List.append_of_mem he
  have h1 : L.Perm (e0 :: (l1 ++ l2)) := by rw [hl]; exact List.perm_middle
  have h3 : (others v m L).Perm (others v m (e0 :: (l1 ++ l2))) := h1.filter _
  have h4 : others v m (e0 :: (l1 ++ l2)) = others v m (l1 ++ l2) := List.filter_cons_of_neg (by rw [hi]; simp)
  rw [onN_perm h1, onN_cons, onN_perm h3, h4]
  have h2 := onN_filter q (fun e => !e.is v m) (l1 ++ l2)
  change onN q (others v m (l1 ++ l2)) ≤ _ at h2
  rw [hp, hf]
  simp
  omega
theorem limited_learn {lims : List Int} {L L' : List Ent} {v : Int} {m : Mac6} {p : Int} (h : Limited lims L) (h0 : learnN lims L v m p = 0) (hp : L'.Perm (⟨v, m, p, 0, false⟩ :: others v m L)) : Limited lims L' := fun q hq => by
  rw [onN_perm hp, onN_cons]
  have h1 := onN_filter q (fun e => !e.is v m) L
  have h2 := h q hq
  change onN q (others v m L) ≤ _ at h1
  by_cases hpq : p = q
  · subst hpq
    have hma : mayN lims L v m q = 0 := by
      unfold learnN at h0
      by_cases hm : mayN lims L v m q = 0
      · exact hm
      · rw [if_pos hm] at h0
        exact h0
    have hmi : ∀ e ∈ L, e.is v m = true → e.fixed = false := fun e he hi => by
      cases hf : e.fixed
      · rfl
      · have : (L.any fun e => e.is v m && e.fixed) = true := List.any_eq_true.2 ⟨e, he, by rw [hi, hf]; rfl⟩
        unfold mayN at hma
        rw [if_pos this] at hma
        split at hma <;> simp at hma
    cases ha : L.any fun e => e.is v m && decide (e.port = (q : Int))
    · have hn : (onN q L : Int) < lims.getD q 0 := by
        unfold learnN at h0
        rw [hma] at h0
        simp only [ne_eq, not_true_eq_false, if_false, ha] at h0
        simp only [Int.toNat_natCast] at h0
        by_cases h3 : lims.getD q 0 ≤ (onN q L : Int)
        · rw [if_pos h3] at h0
          simp at h0
        · omega
      generalize lims.getD q 0 = z at *
      simp
      omega
    · obtain ⟨e0, he0, hh⟩ := List.any_eq_true.1 ha
      rw [Bool.and_eq_true, decide_eq_true_eq] at hh
      have := onN_one he0 hh.1 hh.2 (hmi e0 he0 hh.1)
      clear h0 hma
      generalize lims.getD q 0 = z at *
      simp
      omega
  · clear h0
    generalize lims.getD q 0 = z at *
    simp [hpq]
    omega
theorem mayN_port {lims : List Int} {L : List Ent} {v : Int} {m : Mac6} {port : Int} (h : mayN lims L v m port = 0) : ∃ q : Nat, port = q ∧ q < lims.length := by
  have hb : mayBad lims v m port = false := by
    unfold mayN at h
    cases hb : mayBad lims v m port
    · rfl
    · rw [hb] at h
      simp at h
  obtain ⟨q, h1, h2, _⟩ := mayBad_q hb
  exact ⟨q, h1, h2⟩
theorem learnN_may {lims : List Int} {L : List Ent} {v : Int} {m : Mac6} {port : Int} (h : learnN lims L v m port = 0) : mayN lims L v m port = 0 := by
  unfold learnN at h
  by_cases hm : mayN lims L v m port = 0
  · exact hm
  · rw [if_pos hm] at h
    exact h
end Go.Proofs.Ytcdklbhfcfamnaa
