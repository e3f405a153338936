/- The document's example of chapter 12. By an AI agent. -/
import Derived.Test.YtmipdbmmhoacpaaTunCut
import Derived.Deep.OwnRows
namespace Go.Proofs.Ytmipdbmmhoacpaa
open Go.RowKit Go.Sort Grow

theorem Tun.piece_size (n cnt : Nat) (s : ByteArray) (i : Nat) (h : i * 512 ≤ s.size) : (Tun.piece n cnt s i).size = 7 + (min ((i + 1) * 512) s.size - i * 512) := by
  unfold Tun.piece
  have e : (⟨(1 :: (Oct.be 4 n ++ [UInt8.ofNat i, UInt8.ofNat cnt])).toArray⟩ : ByteArray).size = 7 := by
    show (1 :: (Oct.be 4 n ++ [UInt8.ofNat i, UInt8.ofNat cnt])).toArray.size = 7
    rw [List.size_toArray, List.length_cons, List.length_append, Oct.be_length]
    rfl
  rw [ByteArray.size_append, e, ByteArray.size_extract]
  omega

theorem Tun.pieces_get (n : Nat) (s : ByteArray) (i : Nat) (h : i < (Tun.pieces n s).length) : (Tun.pieces n s)[i] = Tun.piece n (Tun.count s.size) s i := by
  simp [Tun.pieces]
theorem Tun.pieces_length (n : Nat) (s : ByteArray) : (Tun.pieces n s).length = Tun.count s.size := by simp [Tun.pieces]

theorem made_600 (w : World) : ∃ cs : Array Value, (Instr.makeSlice 60 (.int .i64 600) (.int .i64 600)).run Try.prog w = .ok (.slice (some ⟨w.heap.size, 0, none⟩) 600 600) (w.alloc (.cells cs 5)) ∧ ∀ j, j < 600 → cs[j]? = some (.int .u8 0) := by
  have h := run_make_row' (P := Try.prog) 60 5 (.int .u8 0) 1 Try.underlying60 Try.infoU8 rfl .i64 .i64 600 (by decide) (by decide) w
  exact ⟨_, h, fun j hj => by simp [madeCells, hj, Nat.mod_one]⟩

set_option maxRecDepth 100000 in
set_option maxHeartbeats 1000000 in
theorem awake_any (w : World) : Calls Try.prog 9 #[] w fun e w' => e = .returned (.bool true) ∧ Below w.heap.size w w' := by
  obtain ⟨cs, hm, hcs⟩ := made_600 w
  have hs := run_convert_bytes_back (P := Try.prog) (w.alloc (.cells cs 5)) 60 9 5 ⟨w.heap.size, 0, none⟩ 600 (List.replicate 600 0) Try.underlying60 Try.underlying5 Try.underlying9 (fun j hj => by
    rw [List.length_replicate] at hj
    rw [addr_add, (rowIs_new w 5 cs).cell j, hcs j hj, List.getElem_replicate]
    rfl)
  rw [List.length_replicate] at hs
  have h600 : (⟨(List.replicate 600 (0 : UInt8)).toArray⟩ : ByteArray).size = 600 := by
    show (List.replicate 600 (0 : UInt8)).toArray.size = 600
    rw [List.size_toArray, List.length_replicate]
  generalize (⟨(List.replicate 600 (0 : UInt8)).toArray⟩ : ByteArray) = s at hs h600
  have HC := fun w => cut_any 1 s w (by decide) (by omega) (by omega)
  have hc2 : Tun.count s.size = 2 := by rw [h600]; rfl
  have hp0 : (Tun.piece 1 2 s 0).size = 519 := by rw [Tun.piece_size _ _ _ _ (by omega), h600]; rfl
  have hp1 : (Tun.piece 1 2 s 1).size = 95 := by rw [Tun.piece_size _ _ _ _ (by omega), h600]; rfl
  have hg0 : ∀ (i : Nat) (h : i < (Tun.pieces 1 s).length), (Tun.pieces 1 s)[i] = Tun.piece 1 2 s i := fun i h => by rw [Tun.pieces_get, hc2]
  have hln : (Tun.pieces 1 s).length = 2 := by rw [Tun.pieces_length, hc2]
  rw [hc2] at HC
  generalize Tun.pieces 1 s = ps at *
  generalize Tun.piece 1 2 s = pc at *
  have HC := Lib.hid HC
  have hbA : Below w.heap.size w (w.alloc (.cells cs 5)) := (Below.refl _ _).alloc (Nat.le_refl _) _
  have HG := Lib.hid hg0
  have HP0 := Lib.hid hp0
  have HP1 := Lib.hid hp1
  have HL := Lib.hid hln
  clear hcs h600 hc2 hp0 hp1 hg0 hln
  go_enter Try.func9, Try.ntmps9
  go_wp2_with fail
  refine (HC.out _).mono ?_
  rintro e w1 ⟨ao, cap, rfl, hA, hb⟩
  have hbW := hbA.trans (hb.mono (by simp))
  obtain ⟨b, off, rfl, hlt, hc⟩ := hA.some_of (by rw [HL.out]; decide)
  have c0 : w1.cell? ⟨b, off, none⟩ = some (.string (pc 0)) := by rw [← HG.out 0 (by rw [HL.out]; decide)]; exact hc 0 (by rw [HL.out]; decide)
  have c1 : w1.cell? ⟨b, off + 1, none⟩ = some (.string (pc 1)) := by rw [← HG.out 1 (by rw [HL.out]; decide)]; exact hc 1 (by rw [HL.out]; decide)
  have hp0 := HP0.out
  have hp1 := HP1.out
  generalize pc 0 = p0 at c0 hp0
  generalize pc 1 = p1 at c1 hp1
  clear hc hA hb
  go_wp2_with fail
  go_ret
  exact ⟨rfl, hbW⟩
end Go.Proofs.Ytmipdbmmhoacpaa
