/- Learn, whatever comes of it; one order of a table's entries. By an AI agent. -/
import Derived.Test.YtcdklbhfcfamnaaLearnFixed
import Derived.Test.YtcdklbhfcfamnaaArrays
namespace Go.Proofs.Ytcdklbhfcfamnaa
open Go.RowKit Go.MapKept Go.Maps Go.WideShapes Go.Sort Grow

/-- what Learn may make of a table -/
def LearnStep (lims : List Int) (L : List Ent) (v : Int) (m : Mac6) (port : Int) (L' : List Ent) : Prop := L' = L ∨ ∃ q : Nat, port = q ∧ q < lims.length ∧ ∃ L0, L' = ⟨v, m, q, 0, false⟩ :: L0 ∧ ((L0 = L ∧ ¬ HasKey L v m ∧ (onN q L : Int) < lims.getD q 0) ∨ ∃ e0, L.Perm (e0 :: L0) ∧ e0.v = v ∧ e0.m = m ∧ e0.fixed = false ∧ (e0.port = (q : Int) ∨ (onN q L : Int) < lims.getD q 0))

theorem grown_below {w w' : World} {M : Nat} (hb : Below w.heap.size w w') : w.grownBy w' (some M) := grown_of_below ⟨rfl, rfl, rfl, Nat.le_refl _, fun _ _ _ => rfl⟩ hb

theorem learn_any (B T M : Nat) (ageing : Int) (lims : List Int) (L : List Ent) (v : Int) (m : Mac6) (port : Int) (w : World) (h : TabIs B T M w ageing lims L) (hL : L.length ≤ 1000000) (hlims : lims.length ≤ 1000000) :
    Calls Try.prog 11 #[.pointer (some ⟨T, 0, none⟩), .int .i64 v, .agg #[.int .u8 (m.a.toNat : Int), .int .u8 (m.b.toNat : Int), .int .u8 (m.c.toNat : Int), .int .u8 (m.d.toNat : Int), .int .u8 (m.e.toNat : Int), .int .u8 (m.f.toNat : Int)], .int .i64 port] w fun e w' => (∃ r, e = .returned (.int .i64 r)) ∧ ∃ L', TabIs B T M w' ageing lims L' ∧ w.grownBy w' (some M) ∧ LearnStep lims L v m port L' := by
  cases hb : mayBad lims v m port
  · obtain ⟨q, rfl, hq, hv⟩ := mayBad_q hb
    by_cases hk : HasKey L v m
    · obtain ⟨e0, he0, rfl, rfl⟩ := hk
      obtain ⟨l1, l2, hl⟩ := List.append_of_mem he0
      have hp : L.Perm (e0 :: (l1 ++ l2)) := by rw [hl]; exact List.perm_middle
      have hT := h.perm hp
      have hlen : (e0 :: (l1 ++ l2)).length ≤ 1000000 := by rw [← hp.length_eq]; exact hL
      cases hf : e0.fixed
      · by_cases hon : e0.port = (q : Int) ∨ (onN q L : Int) < lims.getD q 0
        · refine (learn_again B T M ageing lims (l1 ++ l2) e0 q w hT hlen hlims hb hf (by rw [← onN_perm hp]; exact hon)).mono ?_
          rintro e w' ⟨rfl, hT', hg⟩
          exact ⟨⟨_, rfl⟩, _, hT', hg, .inr ⟨q, rfl, hq, _, rfl, .inr ⟨e0, hp, rfl, rfl, hf, hon⟩⟩⟩
        · obtain ⟨x, hx⟩ := keyOf_learn e0.v hv e0.m
          refine (learn_full B T M ageing lims L e0.v e0.m q hq _ rfl e0.port e0.age e0.fixed true w h hL hlims (fun w' hb' => ?_) (fun w' hM => run_lookup_hitP learn_keyed Try.underlying61 hM hx (key_of_mem he0) true) (.inr (fun e => hon (.inl e))) (by omega)).mono ?_
          · have H := may_fixed B T M ageing lims L e0 q w' (h.later hb') hb he0
            rw [hf] at H
            exact H
          · rintro e w' ⟨rfl, hb'⟩
            exact ⟨⟨_, rfl⟩, L, h.later hb', grown_below hb', .inl rfl⟩
      · refine (learn_may T e0.v e0.m q 10 (by decide) w (fun w' hb' => ?_)).mono ?_
        · have H := may_fixed B T M ageing lims L e0 q w' (h.later hb') hb he0
          rw [hf] at H
          exact H
        · rintro e w' ⟨rfl, hb'⟩
          exact ⟨⟨_, rfl⟩, L, h.later hb', grown_below hb', .inl rfl⟩
    · by_cases hon : (onN q L : Int) < lims.getD q 0
      · refine (learn_new B T M ageing lims L v m q w h hL hlims hb hk hon).mono ?_
        rintro e w' ⟨rfl, hT', hg⟩
        exact ⟨⟨_, rfl⟩, _, hT', hg, .inr ⟨q, rfl, hq, _, rfl, .inl ⟨rfl, hk, hon⟩⟩⟩
      · refine (learn_no B T M ageing lims L v m q w h hL hlims hb hk (by omega)).mono ?_
        rintro e w' ⟨rfl, hb'⟩
        exact ⟨⟨_, rfl⟩, L, h.later hb', grown_below hb', .inl rfl⟩
  · refine (learn_may T v m port 1 (by decide) w (fun w' hb' => may_bad B T M ageing lims L v m port w' (h.later hb') hb)).mono ?_
    rintro e w' ⟨rfl, hb'⟩
    exact ⟨⟨_, rfl⟩, L, h.later hb', grown_below hb', .inl rfl⟩

/-! ### one order -/
theorem key_once {B T M : Nat} {w : World} {ageing : Int} {lims : List Int} {L : List Ent} (h : TabIs B T M w ageing lims L) {a b : Ent} (ha : a ∈ L) (hb : b ∈ L) (hv : a.v = b.v) (hm : a.m = b.m) : a = b := by
  obtain ⟨_, _, _, _, _, _, hM, hI⟩ := h
  clear hI
  have hn := hM.nodup
  rw [List.map_map] at hn
  clear hM
  induction L with
  | nil => cases ha
  | cons y L ih =>
    rw [List.map_cons, List.nodup_cons] at hn
    have key : ∀ c ∈ L, c.v = y.v → c.m = y.m → False := fun c hc h1 h2 => hn.1 (List.mem_map.2 ⟨c, hc, by
      show keyV c.v c.m = keyV y.v y.m
      rw [h1, h2]⟩)
    rcases List.mem_cons.1 ha with e1 | ha'
    · rcases List.mem_cons.1 hb with e2 | hb'
      · rw [e1, e2]
      · rw [e1] at hv hm
        exact (key b hb' hv.symm hm.symm).elim
    · rcases List.mem_cons.1 hb with e2 | hb'
      · rw [e2] at hv hm
        exact (key a ha' hv hm).elim
      · exact ih ha' hb' hn.2

theorem one_order {L ds ds' : List Ent} (honce : ∀ a ∈ L, ∀ b ∈ L, a.key = b.key → a = b) (h1 : ds.Perm L) (h2 : ds'.Perm L) (s1 : ds.Pairwise fun x y => x.key ≤ y.key) (s2 : ds'.Pairwise fun x y => x.key ≤ y.key) : ds = ds' :=
  List.Perm.eq_of_pairwise (fun a b ha hb hab hba => honce a (h1.mem_iff.1 ha) b (h2.mem_iff.1 hb) (by omega)) s1 s2 (h1.trans h2.symm)

/-- an entry is as it is -/
theorem entry_neq_self (e : Ent) (w : World) : (binOp .neq 42 (.agg (encE e).toArray) (.agg (encE e).toArray)).run Try.prog w = .ok (.bool false) w := by
  have m1 := run_equalIn_mac 9997 e.m.a e.m.b e.m.c e.m.d e.m.e e.m.f e.m.a e.m.b e.m.c e.m.d e.m.e e.m.f
  rw [eqB_true.2 rfl] at m1
  unfold encE
  go_simp
end Go.Proofs.Ytcdklbhfcfamnaa
