/- tun.Cut: the pieces of a text. By an AI agent. -/
import Derived.Test.YtdkgjbakbnhmaaaTunGram
import Derived.Test.YtdkgjbakbnhmaaaStrs
import Derived.Deep.DeepCutAuto
import Derived.BigQuiet
import Derived.Laws.BitsAllLaws
import Derived.Lib.Strings
namespace Go.Proofs.Ytdkgjbakbnhmaaa
open Go.RowKit Go.Sort Grow

/-- a piece of a text -/
def Tun.piece (n cnt : Nat) (s : ByteArray) (i : Nat) : ByteArray := ⟨(1 :: (Oct.be 4 n ++ [UInt8.ofNat i, UInt8.ofNat cnt])).toArray⟩ ++ s.extract (i * 512) (min ((i + 1) * 512) s.size)
def Tun.count (m : Nat) : Nat := (m + 511) / 512
def Tun.pieces (n : Nat) (s : ByteArray) : List ByteArray := (List.range (Tun.count s.size)).map (Tun.piece n (Tun.count s.size) s)

theorem cut_bad (n : Int) (s : ByteArray) (w : World) (h : s.size < 1 ∨ 1 ≤ s.size ∧ 1536 < s.size) :
    Calls Try.prog 7 #[.int .u32 n, .string s] w fun e w' => e = .returned (.tuple #[.slice none 0 0, .int .i64 1]) ∧ w = w' := by
  rcases h with h | ⟨h1, h⟩
  all_goals
    go_enter Try.func7, Try.ntmps7
    go_wp2_with fail
    go_ret2
    exact ⟨rfl, rfl⟩

set_option maxRecDepth 100000 in
set_option maxHeartbeats 1000000 in
theorem cut_any (n : Nat) (s : ByteArray) (w : World) (hn : n < 4294967296) (h1 : 1 ≤ s.size) (h2 : s.size ≤ 1536) :
    Calls Try.prog 7 #[.int .u32 n, .string s] w fun e w' => ∃ ao cap, e = .returned (.tuple #[.slice ao (Tun.count s.size) cap, .int .i64 0]) ∧ Strs.At w' ao (Tun.pieces n s) ∧ Below w.heap.size w w' := by
  obtain ⟨ti, tz, hi, hz, hz1, hz2, hz3⟩ := info_str
  have hi := Lib.hid hi
  have hz := Lib.hid hz
  have hz1 := Lib.hid hz1
  have hz2 := Lib.hid hz2
  have hz3 := Lib.hid hz3
  obtain ⟨c, hc, hc1, hc3⟩ : ∃ c : Nat, c = Tun.count s.size ∧ 1 ≤ c ∧ c ≤ 3 := ⟨_, rfl, by unfold Tun.count; omega, by unfold Tun.count; omega⟩
  have hcI : ((s.size : Int) + 511) / 512 = (c : Int) := by rw [hc]; unfold Tun.count; omega
  have hcI' : ((s.size : Int) + 512 - 1) / 512 = (c : Int) := by rw [hc]; unfold Tun.count; omega
  have hcs : (c - 1) * 512 < s.size ∧ s.size ≤ c * 512 := by rw [hc]; unfold Tun.count; omega
  have HP : Hid (Tun.pieces n s = (List.range c).map (Tun.piece n c s)) := by show _ = _; rw [hc]; rfl
  have F4 := fun w => four_any (n : Int) w
  rw [Oct.four_of n hn] at F4
  have hl := Oct.be_length 4 n
  rw [← hc]
  have HC := Lib.hid hc
  clear hc
  have F4 := Lib.hid F4
  have q1 : ¬ 9223372036854775807 < 1 + (Oct.be 4 n).length := by omega
  go_enter Try.func7, Try.ntmps7
  go_wp2_with fail
  simp only [hcI']
  go_loopw [7, 23] (fun v i wr => ∃ k : Nat, k ≤ c ∧ i = .int .i64 k ∧ Hid (wr.ownsRow w.heap.size 9 1 v k (Strs.all ((List.range k).map (Tun.piece n c s)))) ∧ Below w.heap.size w wr) (fun _ i _ => c - (intOf i).toNat)
  case atStart => exact ⟨0, Nat.zero_le _, rfl, ⟨rfl, .inl ⟨rfl, rfl⟩⟩, Below.refl _ _⟩
  case round =>
    rename_i mv _ wr
    obtain ⟨k, hk, rfl, hown, hbW⟩ := hrel
    by_cases hkc : k < c
    · go_upto_region 8 with fail
      have w1 : IntKind.i64.wrap (n : Int) = n := by rw [IntKind.wrap_i64]; omega
      have w2 : IntKind.u8.wrap (k : Int) = k := by rw [IntKind.wrap_u8']; omega
      have w3 : IntKind.u8.wrap (c : Int) = c := by rw [IntKind.wrap_u8']; omega
      obtain ⟨a, ha⟩ : ∃ a : Nat, a = k * 512 := ⟨_, rfl⟩
      obtain ⟨e, he⟩ : ∃ e : Nat, e = min ((k + 1) * 512) s.size := ⟨_, rfl⟩
      have hae : a ≤ e := by omega
      have hes : e ≤ s.size := by omega
      have hea : e - a ≤ 512 := by omega
      have w4 : IntKind.i64.wrap ((k : Int) * 512) = (a : Int) := by rw [IntKind.wrap_i64]; omega
      have w7 : (if (s.size : Int) < ((k : Int) + 1) * 512 then (s.size : Int) else ((k : Int) + 1) * 512) = (e : Int) := by split <;> omega
      have HA := Lib.hid ha
      have HE := Lib.hid he
      have HK8 := Lib.hid (show ((UInt8.ofNat k).toNat : Int) = k by rw [UInt8.toNat_ofNat']; omega)
      have HC8 := Lib.hid (show ((UInt8.ofNat c).toNat : Int) = c by rw [UInt8.toNat_ofNat']; omega)
      clear ha he
      have w5 : IntKind.i64.wrap ((k : Int) + 1) = (k : Int) + 1 := by rw [IntKind.wrap_i64]; omega
      have w6 : IntKind.i64.wrap (((k : Int) + 1) * 512) = ((k : Int) + 1) * 512 := by rw [IntKind.wrap_i64]; omega
      refine wp_region_mix 24 (by kernel_rfl) (by kernel_rfl) (by kernel_rfl) ?_
      (refine mix_step (by kernel_rfl) (by kernel_rfl) (fun K hK => ?_); go_simp; (try (simp only [↓IntWalk.iteOmega]; go_simp)); (first | (refine hK _ ?_; clear hK K) | (apply Exists.intro; refine ⟨fun _ => ?_, hK _ ?_⟩; (first | fail); clear hK K)))
      (refine mix_step (by kernel_rfl) (by kernel_rfl) (fun K hK => ?_); go_simp; (try (simp only [↓IntWalk.iteOmega]; go_simp)); (first | (refine hK _ ?_; clear hK K) | (apply Exists.intro; refine ⟨fun _ => ?_, hK _ ?_⟩; (first | fail); clear hK K)))
      (refine mix_step (by kernel_rfl) (by kernel_rfl) (fun K hK => ?_); go_simp; (try (simp only [↓IntWalk.iteOmega]; go_simp)); (first | (refine hK _ ?_; clear hK K) | (apply Exists.intro; refine ⟨fun _ => ?_, hK _ ?_⟩; (first | fail); clear hK K)))
      (refine mix_step (by kernel_rfl) (by kernel_rfl) (fun K hK => ?_); go_simp; (try (simp only [↓IntWalk.iteOmega]; go_simp)); (first | (refine hK _ ?_; clear hK K) | (apply Exists.intro; refine ⟨fun _ => ?_, hK _ ?_⟩; (first | exact F4.out _); clear hK K)))
      (refine mix_step (by kernel_rfl) (by kernel_rfl) (fun K hK => ?_); go_simp; (try (simp only [↓IntWalk.iteOmega]; go_simp)); (first | (refine hK _ ?_; clear hK K) | (apply Exists.intro; refine ⟨fun _ => ?_, hK _ ?_⟩; (first | fail); clear hK K)))
      (refine mix_step (by kernel_rfl) (by kernel_rfl) (fun K hK => ?_); go_simp; (try (simp only [↓IntWalk.iteOmega]; go_simp)); (first | (refine hK _ ?_; clear hK K) | (apply Exists.intro; refine ⟨fun _ => ?_, hK _ ?_⟩; (first | fail); clear hK K)))
      (refine mix_step (by kernel_rfl) (by kernel_rfl) (fun K hK => ?_); go_simp; (try (simp only [↓IntWalk.iteOmega]; go_simp)); (first | (refine hK _ ?_; clear hK K) | (apply Exists.intro; refine ⟨fun _ => ?_, hK _ ?_⟩; (first | fail); clear hK K)))
      (refine mix_step (by kernel_rfl) (by kernel_rfl) (fun K hK => ?_); go_simp; (try (simp only [↓IntWalk.iteOmega]; go_simp)); (first | (refine hK _ ?_; clear hK K) | (apply Exists.intro; refine ⟨fun _ => ?_, hK _ ?_⟩; (first | fail); clear hK K)))
      (refine mix_step (by kernel_rfl) (by kernel_rfl) (fun K hK => ?_); go_simp; (try (simp only [↓IntWalk.iteOmega]; go_simp)); (first | (refine hK _ ?_; clear hK K) | (apply Exists.intro; refine ⟨fun _ => ?_, hK _ ?_⟩; (first | fail); clear hK K)))

      refine mix_special _ 35 rfl rfl (stable_row _ _ _ _) (owes_buildSlice (cells := #[.int .u8 (k : Int), .int .u8 (c : Int)]) rfl (by simp) Try.underlying53 (sz := 1) (z := .int .u8 0) (by kernel_rfl) (by decide) (by decide) (by kernel_rfl)) ?_
      refine mix_exact (.string ⟨#[UInt8.ofNat k, UInt8.ofNat c]⟩) rfl (exact_string (B := wr.heap.size) (t := 5) (l := [UInt8.ofNat k, UInt8.ofNat c]) rfl (by simp only [byteVals, List.map_cons, List.map_nil, HK8.out, HC8.out, List.length_cons, List.length_nil]; simp) Try.underlying53 Try.underlying5 Try.underlying9) ?_
      (refine mix_step (by kernel_rfl) (by kernel_rfl) (fun K hK => ?_); go_simp; (try (simp only [↓IntWalk.iteOmega]; go_simp)); (first | (refine hK _ ?_; clear hK K) | (apply Exists.intro; refine ⟨fun _ => ?_, hK _ ?_⟩; (first | fail); clear hK K)))
      (refine mix_step (by kernel_rfl) (by kernel_rfl) (fun K hK => ?_); go_simp; (try (simp only [↓IntWalk.iteOmega]; go_simp)); (first | (refine hK _ ?_; clear hK K) | (apply Exists.intro; refine ⟨fun _ => ?_, hK _ ?_⟩; (first | fail); clear hK K)))
      (refine mix_step (by kernel_rfl) (by kernel_rfl) (fun K hK => ?_); go_simp; (try (simp only [↓IntWalk.iteOmega]; go_simp)); (first | (refine hK _ ?_; clear hK K) | (apply Exists.intro; refine ⟨fun _ => ?_, hK _ ?_⟩; (first | fail); clear hK K)))
      (refine mix_step (by kernel_rfl) (by kernel_rfl) (fun K hK => ?_); go_simp; (try (simp only [↓IntWalk.iteOmega]; go_simp)); (first | (refine hK _ ?_; clear hK K) | (apply Exists.intro; refine ⟨fun _ => ?_, hK _ ?_⟩; (first | fail); clear hK K)))
      (refine mix_step (by kernel_rfl) (by kernel_rfl) (fun K hK => ?_); go_simp; (try (simp only [↓IntWalk.iteOmega]; go_simp)); (first | (refine hK _ ?_; clear hK K) | (apply Exists.intro; refine ⟨fun _ => ?_, hK _ ?_⟩; (first | fail); clear hK K)))
      (refine mix_step (by kernel_rfl) (by kernel_rfl) (fun K hK => ?_); go_simp; (try (simp only [↓IntWalk.iteOmega]; go_simp)); (first | (refine hK _ ?_; clear hK K) | (apply Exists.intro; refine ⟨fun _ => ?_, hK _ ?_⟩; (first | fail); clear hK K)))
      (refine mix_step (by kernel_rfl) (by kernel_rfl) (fun K hK => ?_); go_simp; (try (simp only [↓IntWalk.iteOmega]; go_simp)); (first | (refine hK _ ?_; clear hK K) | (apply Exists.intro; refine ⟨fun _ => ?_, hK _ ?_⟩; (first | fail); clear hK K)))
      (refine mix_step (by kernel_rfl) (by kernel_rfl) (fun K hK => ?_); go_simp; (try (simp only [↓IntWalk.iteOmega]; go_simp)); (first | (refine hK _ ?_; clear hK K) | (apply Exists.intro; refine ⟨fun _ => ?_, hK _ ?_⟩; (first | fail); clear hK K)))
      (refine mix_step (by kernel_rfl) (by kernel_rfl) (fun K hK => ?_); go_simp; (try (simp only [↓IntWalk.iteOmega]; go_simp)); (first | (refine hK _ ?_; clear hK K) | (apply Exists.intro; refine ⟨fun _ => ?_, hK _ ?_⟩; (first | fail); clear hK K)))
      (refine mix_step (by kernel_rfl) (by kernel_rfl) (fun K hK => ?_); go_simp; (try (simp only [↓IntWalk.iteOmega]; go_simp)); (first | (refine hK _ ?_; clear hK K) | (apply Exists.intro; refine ⟨fun _ => ?_, hK _ ?_⟩; (first | fail); clear hK K)))
      (refine mix_step (by kernel_rfl) (by kernel_rfl) (fun K hK => ?_); go_simp; (try (simp only [↓IntWalk.iteOmega]; go_simp)); (first | (refine hK _ ?_; clear hK K) | (apply Exists.intro; refine ⟨fun _ => ?_, hK _ ?_⟩; (first | fail); clear hK K)))
      (refine mix_step (by kernel_rfl) (by kernel_rfl) (fun K hK => ?_); go_simp; (try (simp only [↓IntWalk.iteOmega]; go_simp)); (first | (refine hK _ ?_; clear hK K) | (apply Exists.intro; refine ⟨fun _ => ?_, hK _ ?_⟩; (first | fail); clear hK K)))

      refine mix_special _ 49 rfl rfl (stable_row _ _ _ _) (owes_buildSlice (cells := #[.string ((⟨#[1]⟩ : ByteArray) ++ ⟨(Oct.be 4 n).toArray⟩ ++ ⟨#[UInt8.ofNat k, UInt8.ofNat c]⟩ ++ s.extract a e)]) rfl (by simp) Try.underlying35 (sz := 1) (z := .string ByteArray.empty) (by kernel_rfl) (by decide) (by decide) (by kernel_rfl)) ?_
      refine mix_nil ?_
      rintro ⟨dq, osq⟩ u35 - u49 ⟨bn, rfl, hbn, hRn⟩
      have hb3 := below_regrown wr dq osq
      have hbW3 := hbW.trans (hb3.mono hbW.size)
      have hown3 := Lib.hid (owns_later hown.out hb3)
      have hRn := Lib.hid hRn
      have hX : ((⟨#[1]⟩ : ByteArray) ++ ⟨(Oct.be 4 n).toArray⟩ ++ ⟨#[UInt8.ofNat k, UInt8.ofNat c]⟩ ++ s.extract a e) = Tun.piece n c s k := by
        unfold Tun.piece
        rw [← HA.out, ← HE.out]
        congr 1
      rw [hX] at hRn
      clear hX hb3
      generalize grow (redrawn wr dq) osq = W9 at *
      refine (show wpList _ _ _ _ _ _ from ?_)
      simp only [List.drop, Act.put, List.setIfInBounds_toArray, List.set]
      have HL := Lib.hid (show Strs.all ((List.range (k + 1)).map (Tun.piece n c s)) = Strs.all ((List.range k).map (Tun.piece n c s)) ++ [.string (Tun.piece n c s k)] by rw [List.range_succ, List.map_append]; exact Strs.all_snoc _ _)
      refine wpList_append_lies _ rfl (.tmp 26) (.tmp 49) 35 rfl w.heap.size 9 ti tz 1 16 Try.underlying35 hi.out hz.out hz1.out hz2.out hz3.out (by decide) _ k _ rfl hown3.out ⟨bn, 0, none⟩ 1 1 [.string (Tun.piece n c s k)] rfl rfl (World.news_of_block hRn.out) (by intro u hu; simp at hu; subst hu; rfl) (by decide) (by unfold maxLen; omega) (by omega) (Nat.le_trans hbW3.size (Nat.le_refl _)) _ rfl ?_
      intro g cap' w5 hown5 hgrow _ _
      have hbW5 := hbW3.trans (below_of_grown hgrow hbW3.size (fun q hq => (hown3.out.lt q hq).1))
      have HO := Lib.hid hown5
      clear hown5 hgrow
      go_wp2_with fail
      exact ⟨⟨k + 1, by omega, by go_num, by rw [HL.out]; exact HO.out, hbW5⟩, by simp [intOf]; omega⟩
    · obtain rfl : k = c := by omega
      have hown := hown.out
      rw [← HP.out] at hown
      obtain ⟨ao, cap, rfl, _, _, hA⟩ := Strs.at_of_owns hown (by rw [HP.out]; simp)
      have hlp : (Tun.pieces n s).length = k := by rw [HP.out]; simp
      rw [hlp]
      have hA := Lib.hid hA
      clear hown hlp
      go_wp2_with fail
      go_ret2
      exact ⟨ao, cap, rfl, hA.out, hbW⟩
end Go.Proofs.Ytdkgjbakbnhmaaa
