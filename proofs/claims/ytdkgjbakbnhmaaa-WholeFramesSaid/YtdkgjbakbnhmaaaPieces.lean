/- pieces that are read; Joiner.open and Take of what is kept. By an AI agent. -/
import Derived.Test.YtdkgjbakbnhmaaaTake
import Derived.Test.YtdkgjbakbnhmaaaOpenNew
import Derived.Test.YtdkgjbakbnhmaaaTunCut
namespace Go.Proofs.Ytdkgjbakbnhmaaa
open Go.RowKit Go.Sort Grow

namespace Tun
def part (s : ByteArray) (i : Nat) : ByteArray := s.extract (i * 512) (min ((i + 1) * 512) s.size)

theorem part_size (s : ByteArray) (i : Nat) (hi : i < count s.size) : 1 ≤ (part s i).size ∧ (part s i).size ≤ 512 ∧ (i + 1 = count s.size ∨ (part s i).size = 512) := by
  unfold part count at *
  rw [ByteArray.size_extract]
  omega

theorem piece_list (n c : Nat) (s : ByteArray) (i : Nat) : (piece n c s i).data.toList = 1 :: (Oct.be 4 n ++ (UInt8.ofNat i :: UInt8.ofNat c :: (part s i).data.toList)) := by
  unfold piece part
  simp

theorem piece_len (n c : Nat) (s : ByteArray) (i : Nat) : (piece n c s i).size = 7 + (part s i).size := by
  have h : (piece n c s i).data.toList.length = (piece n c s i).size := by simp
  rw [← h, piece_list]
  simp [Oct.be_length]
  omega

theorem cat_part (s : ByteArray) : ∀ k, cat (part s) k = s.extract 0 (min (k * 512) s.size)
  | 0 => by
    apply ByteArray.ext
    simp [cat]
  | k + 1 => by
    rw [cat, cat_part s k, part]
    apply ByteArray.ext
    apply Array.toList_inj.1
    rw [ByteArray.data_append, Array.toList_append, Oct.ext_toList, Oct.ext_toList, Oct.ext_toList]
    simp only [Nat.sub_zero, List.drop_zero]
    have hl : s.data.toList.length = s.size := by simp
    rcases Nat.le_total (k * 512) s.size with h | h
    · rw [Nat.min_eq_left h]
      have h2 : k * 512 ≤ min ((k + 1) * 512) s.size := by omega
      generalize min ((k + 1) * 512) s.size = z at h2 ⊢
      generalize k * 512 = a at h2 ⊢
      obtain ⟨d, rfl⟩ := Nat.exists_eq_add_of_le h2
      rw [Nat.add_sub_cancel_left]
      exact List.take_add.symm
    · rw [Nat.min_eq_right h, Nat.min_eq_right (Nat.le_trans h (Nat.mul_le_mul_right 512 (Nat.le_succ k))), List.drop_eq_nil_of_le (show s.data.toList.length ≤ k * 512 from hl ▸ h)]
      simp
theorem cat_all (s : ByteArray) : cat (part s) (count s.size) = s := by
  rw [cat_part]
  apply ByteArray.ext
  apply Array.toList_inj.1
  rw [Oct.ext_toList]
  have hl : s.data.toList.length = s.size := by simp
  unfold count
  simp only [Nat.sub_zero, List.drop_zero]
  exact List.take_of_length_le (by omega)
theorem pieces_at {n : Nat} {s : ByteArray} {ao : Option Addr} {w : World} (h : Strs.At w ao (pieces n s)) (hc : 1 ≤ count s.size) : ∃ b off, ao = some ⟨b, off, none⟩ ∧ b < w.heap.size ∧ ∀ i, i < count s.size → w.cell? ⟨b, off + i, none⟩ = some (.string (piece n (count s.size) s i)) := by
  obtain ⟨b, off, e, h1, h2⟩ := h.some_of (by simp [pieces]; omega)
  refine ⟨b, off, e, h1, fun i hi => ?_⟩
  rw [h2 i (by simpa [pieces] using hi)]
  simp [pieces]
end Tun

theorem read_piece (n : Nat) (s : ByteArray) (i : Nat) (w : World) (hn : n < 4294967296) (h2 : s.size ≤ 1536) (hi : i < Tun.count s.size) :
    Calls Try.prog 16 #[.string (Tun.piece n (Tun.count s.size) s i)] w fun e w' => e = .returned (.tuple #[.agg #[U32 n, .int .i64 (i : Nat), .int .i64 (Tun.count s.size : Nat), .string (Tun.part s i)], .bool true, .int .i64 0]) ∧ Below w.heap.size w w' := by
  obtain ⟨p1, p2, p3⟩ := Tun.part_size s i hi
  have hc : Tun.count s.size ≤ 3 := by unfold Tun.count; omega
  generalize Tun.count s.size = c at *
  have hz := Tun.piece_len n c s i
  have hl := Tun.piece_list n c s i
  have hb := Oct.be_length 4 n
  have hnum := Oct.num_be 4 n (by simpa using hn)
  generalize hB : Oct.be 4 n = be at hl hb hnum
  match be, hb with
  | [a0, a1, a2, a3], _ =>
  have hg : ∀ k (h : k < (Tun.piece n c s i).size), (Tun.piece n c s i).data.toList[k]? = some (Tun.piece n c s i)[k] := fun k h => by
    simp [ByteArray.getElem_eq_getElem_data, show k < (Tun.piece n c s i).data.size from h]
  have e5 : (Tun.piece n c s i)[5]'(by omega) = UInt8.ofNat i := by
    have := hg 5 (by omega)
    rw [hl] at this
    simpa using this.symm
  have e6 : (Tun.piece n c s i)[6]'(by omega) = UInt8.ofNat c := by
    have := hg 6 (by omega)
    rw [hl] at this
    simpa using this.symm
  have H := read_ok (Tun.piece n c s i) w i c (by omega) (by omega) (by rw [Lib.toList_data, Oct.ext_toList, hl]; rfl) (by rw [Lib.toList_data, hl]; rfl) (by rw [e5, UInt8.toNat_ofNat']; omega) (by rw [e6, UInt8.toNat_ofNat']; omega) ⟨by omega, hc, hi, by omega, by omega⟩
  have x1 : Oct.num ((Tun.piece n c s i).extract 1 5).data.toList = n := by
    rw [Oct.ext_toList, hl]
    simpa using hnum
  have x2 : (Tun.piece n c s i).extract 7 (Tun.piece n c s i).size = Tun.part s i := by
    apply ByteArray.ext
    apply Array.toList_inj.1
    rw [Oct.ext_toList, hl, hz]
    show List.take _ (Tun.part s i).data.toList = _
    have hpl : (Tun.part s i).data.toList.length = (Tun.part s i).size := by simp
    exact List.take_of_length_le (by omega)
  rw [x1, x2] at H
  exact H

/-! ### open -/
def openA (L : List Ab) (n y : Nat) : List Ab := if n ∈ L.map (·.1) then L else (if L.length = 8 then L.tail else L) ++ [(n, y, [])]

theorem open_list (B J n x y : Nat) (bd : ByteArray) (l : List Tx) (w : World) (h : JoinIs B J w l) (h8 : l.length ≤ 8) (hBw : B ≤ w.heap.size) :
    Calls Try.prog 17 #[.pointer (some ⟨J, 0, none⟩), .agg #[U32 n, .int .i64 (x : Nat), .int .i64 (y : Nat), .string bd]] w fun e w' => ∃ (l' : List Tx) (t : Tx), e = .returned (.pointer (some ⟨t.tb, 0, none⟩)) ∧ JoinIs B J w' l' ∧ t ∈ l' ∧ t.n = n ∧ l'.map Tx.ab = openA (l.map Tx.ab) n y ∧ Below B w w' ∧ Others w w' := by
  by_cases hin : ∃ t ∈ l, t.n = n
  · obtain ⟨t, htl, rfl⟩ := hin
    refine (open_there B J x y bd l t w h htl).mono ?_
    rintro e w' ⟨rfl, hb⟩
    refine ⟨l, t, rfl, h.later hb, htl, rfl, ?_, hb.mono hBw, Others.of_below hb⟩
    rw [openA, if_pos]
    rw [List.map_map]
    exact List.mem_map.2 ⟨t, htl, rfl⟩
  · have hn : ∀ u ∈ l, u.n ≠ n := fun u hu e => hin ⟨u, hu, e⟩
    have ho : openA (l.map Tx.ab) n y = (if l.length = 8 then l.tail else l).map Tx.ab ++ [(n, y, [])] := by
      rw [openA, if_neg]
      · rw [List.length_map]
        split <;> simp
      · rw [List.map_map]
        intro hm
        obtain ⟨u, hu, e⟩ := List.mem_map.1 hm
        exact hn u hu e
    by_cases hnn : RowIs w J 42 #[.slice none 0 0, .map none]
    · have hl : l = [] := by
        obtain ⟨ord, mv, hJ, _, _, hm, _⟩ := h
        have e1 := hnn.symm.trans hJ
        simp only [Option.some.injEq, Obj.cells.injEq, Array.mk.injEq, List.cons.injEq, and_true] at e1
        obtain ⟨rfl, rfl⟩ := e1
        rcases hm with ⟨_, h, _⟩ | ⟨M, h, _⟩
        · exact h
        · cases h
      subst hl
      obtain ⟨_, _, _, hBJ, _⟩ := h
      refine (open_fresh B J n y x bd w hnn hBJ).mono ?_
      rintro e w' ⟨tb, pb, rfl, hj, hb, hs⟩
      exact ⟨_, ⟨n, y, [], tb, pb⟩, rfl, hj, by simp, rfl, by rw [ho]; rfl, hb, fun b t cs hr h1 _ _ => (hs b hr.lt (row_row hr hnn h1)).trans hr⟩
    · rw [ho]
      by_cases hf : l.length = 8
      · obtain ⟨t0, l', rfl⟩ : ∃ t0 l', l = t0 :: l' := by
          cases l with
          | nil => simp at hf
          | cons a b => exact ⟨a, b, rfl⟩
        refine (open_full B J n y x bd t0 l' w h hn (by simpa using hf)).mono ?_
        rintro e w' ⟨t, rfl, rfl, rfl, ht, hj, hb, hs⟩
        refine ⟨_, t, rfl, hj, by simp, rfl, ?_, hb, hs⟩
        rw [if_pos hf]
        simp [Tx.ab, ht]
      · refine (open_room B J n y x bd l w h hn (by omega) hnn).mono ?_
        rintro e w' ⟨t, rfl, rfl, rfl, ht, hj, hb, hs⟩
        refine ⟨_, t, rfl, hj, by simp, rfl, ?_, hb, hs⟩
        rw [if_neg hf]
        simp [Tx.ab, ht]

theorem open_any (B J n c x y : Nat) (bd : ByteArray) (ps : List (Nat × ByteArray)) (A1 A2 L : List Ab) (w : World) (h : JIs B J w L) (h8 : L.length ≤ 8) (hBw : B ≤ w.heap.size) (ho : openA L n y = A1 ++ (n, c, ps) :: A2) :
    Calls Try.prog 17 #[.pointer (some ⟨J, 0, none⟩), .agg #[U32 n, .int .i64 (x : Nat), .int .i64 (y : Nat), .string bd]] w fun e w' => ∃ (l1 : List Tx) (t : Tx) (l2 : List Tx), e = .returned (.pointer (some ⟨t.tb, 0, none⟩)) ∧ JoinIs B J w' (l1 ++ t :: l2) ∧ l1.map Tx.ab = A1 ∧ l2.map Tx.ab = A2 ∧ t.n = n ∧ t.cnt = c ∧ t.parts = ps ∧ Below B w w' ∧ Others w w' := by
  obtain ⟨l, hj, rfl⟩ := h
  refine (open_list B J n x y bd l w hj (by simpa using h8) hBw).mono ?_
  rintro e w' ⟨l', t, rfl, hj', htl, htn, hm, hb, hs⟩
  rw [ho] at hm
  obtain ⟨l1, lr, rfl, hA1, hr⟩ := List.map_eq_append_iff.1 hm
  obtain ⟨t', l2, rfl, ht', hA2⟩ := List.map_eq_cons_iff.1 hr
  have e1 : t'.n = n := congrArg (fun a : Ab => a.1) ht'
  have e2 : t'.cnt = c := congrArg (fun a : Ab => a.2.1) ht'
  have e3 : t'.parts = ps := congrArg (fun a : Ab => a.2.2) ht'
  have : t = t' := by
    obtain ⟨_, _, _, _, _, _, _, hd, _⟩ := hj'
    exact nodup_of_map hd htl (by simp) (by rw [htn, e1])
  subst this
  exact ⟨l1, t, l2, rfl, hj', hA1, hA2, e1, e2, e3, hb, hs⟩

/-! ### Take, of pieces of a text -/
def partKV (s : ByteArray) (k : Nat) : Nat × ByteArray := (k, Tun.part s k)

theorem take_place (B J n k : Nat) (s : ByteArray) (K : List Nat) (A1 A2 L : List Ab) (w : World) (h : JIs B J w L) (h8 : L.length ≤ 8) (hBw : B ≤ w.heap.size) (hn : n < 4294967296) (h2 : s.size ≤ 1536) (hk : k < Tun.count s.size) (hkK : k ∉ K) (hK : K.Nodup) (hKc : ∀ i ∈ K, i < Tun.count s.size)
    (ho : openA L n (Tun.count s.size) = A1 ++ (n, Tun.count s.size, K.map (partKV s)) :: A2) (hmore : K.length + 1 < Tun.count s.size) :
    Calls Try.prog 8 #[.pointer (some ⟨J, 0, none⟩), .string (Tun.piece n (Tun.count s.size) s k)] w fun e w' => e = .returned (.tuple #[.string ⟨#[]⟩, .bool false, .int .i64 0]) ∧ JIs B J w' (A1 ++ (n, Tun.count s.size, (K ++ [k]).map (partKV s)) :: A2) ∧ Below B w w' ∧ Others w w' := by
  have hc : Tun.count s.size ≤ 3 := by unfold Tun.count; omega
  have H := take_some B J n (Tun.count s.size) k (Tun.count s.size) (Tun.part s k) (Tun.piece n (Tun.count s.size) s k) (K.map (partKV s)) A1 A2 w hBw (by simp; omega) hc hc (fun w' => read_piece n s k w' hn h2 hk)
    (fun w0 hb => open_any B J n (Tun.count s.size) k (Tun.count s.size) _ _ A1 A2 L w0 (h.later hb) h8 (Nat.le_trans hBw hb.size) ho) rfl (by
      intro p hp e
      obtain ⟨i, hi, rfl⟩ := List.mem_map.1 hp
      exact hkK (by rw [← e]; exact hi)) (by simpa using hmore)
  rw [List.map_append]
  exact H

theorem nodup_le : ∀ (c : Nat) (K : List Nat), K.Nodup → (∀ i ∈ K, i < c) → K.length ≤ c
  | 0, [], _, _ => Nat.le_refl _
  | 0, a :: K, _, h => absurd (h a (by simp)) (by omega)
  | c + 1, K, hK, h => by
    have h1 := nodup_le c (K.erase c) (hK.erase c) (fun i hi => by
      have h2 := (hK.mem_erase_iff).1 hi
      have := h i h2.2
      omega)
    rw [List.length_erase] at h1
    split at h1 <;> omega

theorem nodup_full {K : List Nat} {c : Nat} (hK : K.Nodup) (hlt : ∀ i ∈ K, i < c) (hl : K.length = c) : ∀ i, i < c → i ∈ K := by
  intro i hi
  by_cases hm : i ∈ K
  · exact hm
  · have := nodup_le c (i :: K) (List.nodup_cons.2 ⟨hm, hK⟩) (fun j hj => by
      rcases List.mem_cons.1 hj with rfl | h
      · exact hi
      · exact hlt j h)
    simp at this
    omega

theorem take_place_whole (B J n k : Nat) (s : ByteArray) (K : List Nat) (A1 A2 L : List Ab) (w : World) (h : JIs B J w L) (h8 : L.length ≤ 8) (hBw : B ≤ w.heap.size) (hn : n < 4294967296) (h2 : s.size ≤ 1536) (hk : k < Tun.count s.size) (hkK : k ∉ K) (hK : K.Nodup) (hKc : ∀ i ∈ K, i < Tun.count s.size)
    (ho : openA L n (Tun.count s.size) = A1 ++ (n, Tun.count s.size, K.map (partKV s)) :: A2) (hmore : K.length + 1 = Tun.count s.size) (hA : A1.length + A2.length ≤ 100) :
    Calls Try.prog 8 #[.pointer (some ⟨J, 0, none⟩), .string (Tun.piece n (Tun.count s.size) s k)] w fun e w' => e = .returned (.tuple #[.string s, .bool true, .int .i64 0]) ∧ JIs B J w' (A1 ++ A2) ∧ Below B w w' ∧ Others w w' := by
  have hc : Tun.count s.size ≤ 3 := by unfold Tun.count; omega
  have hfull := nodup_full (K := K ++ [k]) (c := Tun.count s.size) (List.nodup_append.2 ⟨hK, by simp, by intro a ha b hb e; rw [List.mem_singleton.1 hb] at e; rw [e] at ha; exact hkK ha⟩) (by
    intro i hi
    rcases List.mem_append.1 hi with h | h
    · exact hKc i h
    · rw [List.mem_singleton.1 h]; exact hk) (by simpa using hmore)
  have e0 : K.map (partKV s) ++ [(k, Tun.part s k)] = (K ++ [k]).map (partKV s) := by rw [List.map_append]; rfl
  have H := take_whole B J n (Tun.count s.size) k (Tun.count s.size) (Tun.part s k) (Tun.piece n (Tun.count s.size) s k) (K.map (partKV s)) A1 A2 w hBw (by simp; omega) hc hc (fun w' => read_piece n s k w' hn h2 hk)
    (fun w0 hb => open_any B J n (Tun.count s.size) k (Tun.count s.size) _ _ A1 A2 L w0 (h.later hb) h8 (Nat.le_trans hBw hb.size) ho) rfl (by
      intro p hp e
      obtain ⟨i, hi, rfl⟩ := List.mem_map.1 hp
      exact hkK (by rw [← e]; exact hi)) (by simpa using hmore) (Tun.part s) (by
      rw [e0]
      intro p hp
      obtain ⟨i, hi, rfl⟩ := List.mem_map.1 hp
      rfl) (by
      rw [e0]
      intro i hi
      exact ⟨_, List.mem_map.2 ⟨i, hfull i hi, rfl⟩, rfl⟩) (fun i hi => (Tun.part_size s i hi).2.1) hA
  rw [Tun.cat_all] at H
  exact H

theorem take_place_twice (B J n k : Nat) (s : ByteArray) (K : List Nat) (A1 A2 L : List Ab) (w : World) (h : JIs B J w L) (h8 : L.length ≤ 8) (hBw : B ≤ w.heap.size) (hn : n < 4294967296) (h2 : s.size ≤ 1536) (hk : k < Tun.count s.size) (hkK : k ∈ K) (hlen : K.length ≤ 3)
    (ho : openA L n (Tun.count s.size) = A1 ++ (n, Tun.count s.size, K.map (partKV s)) :: A2) :
    Calls Try.prog 8 #[.pointer (some ⟨J, 0, none⟩), .string (Tun.piece n (Tun.count s.size) s k)] w fun e w' => e = .returned (.tuple #[.string ⟨#[]⟩, .bool false, .int .i64 10]) ∧ JIs B J w' (A1 ++ (n, Tun.count s.size, K.map (partKV s)) :: A2) ∧ Below B w w' ∧ Others w w' := by
  have hc : Tun.count s.size ≤ 3 := by unfold Tun.count; omega
  exact take_twice B J n (Tun.count s.size) k (Tun.count s.size) (Tun.part s k) (Tun.piece n (Tun.count s.size) s k) (K.map (partKV s)) A1 A2 w hBw (by simp; omega) hc hc (fun w' => read_piece n s k w' hn h2 hk)
    (fun w0 hb => open_any B J n (Tun.count s.size) k (Tun.count s.size) _ _ A1 A2 L w0 (h.later hb) h8 (Nat.le_trans hBw hb.size) ho) rfl (Tun.part s k) ⟨_, List.mem_map.2 ⟨k, hkK, rfl⟩, rfl⟩ (by
      intro p hp e
      obtain ⟨i, hi, rfl⟩ := List.mem_map.1 hp
      have : i = k := e
      rw [this]
      rfl)
end Go.Proofs.Ytdkgjbakbnhmaaa
