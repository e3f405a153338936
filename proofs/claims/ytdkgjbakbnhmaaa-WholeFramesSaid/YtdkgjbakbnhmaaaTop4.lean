/- ether's tag and body: what is read into a frame. By an AI agent. -/
import Derived.Test.YtdkgjbakbnhmaaaTop3
namespace Go.Proofs.Ytdkgjbakbnhmaaa
open Go.RowKit Go.Sort Grow

theorem and_strange (p v : Nat) (hp : p < 8) (hv : v < 4096) : bits .and .i64 ((8192 * p + v : Nat) : Int) 4096 = 0 := by
  have key : (BitVec.ofInt 64 ((8192 * p + v : Nat) : Int) &&& BitVec.ofInt 64 4096).toNat = 0 := by
    rw [BitVec.toNat_and, BitVec.toNat_ofInt, BitVec.toNat_ofInt]
    rw [show (((8192 * p + v : Nat) : Int) % ((2 ^ 64 : Nat) : Int)).toNat = 8192 * p + v by omega, show ((4096 : Int) % ((2 ^ 64 : Nat) : Int)).toNat = 2 ^ 12 by decide]
    apply Nat.eq_of_testBit_eq
    intro i
    rw [Nat.testBit_and, Nat.testBit_two_pow, Nat.zero_testBit]
    by_cases h : 12 = i
    · subst h
      have : (8192 * p + v).testBit 12 = false := by
        rw [Nat.testBit_eq_decide_div_mod_eq]
        simp
        omega
      rw [this]
      rfl
    · simp [h]
  show IntKind.i64.wrap ((BitVec.ofInt 64 ((8192 * p + v : Nat) : Int) &&& BitVec.ofInt 64 4096).toNat : Nat) = _
  rw [key]
  rfl
theorem and_vlan (p v : Nat) (hp : p < 8) (hv : v < 4096) : bits .and .i64 ((8192 * p + v : Nat) : Int) 4095 = (v : Int) := by
  have key : (BitVec.ofInt 64 ((8192 * p + v : Nat) : Int) &&& BitVec.ofInt 64 4095).toNat = v := by
    rw [BitVec.toNat_and, BitVec.toNat_ofInt, BitVec.toNat_ofInt]
    rw [show (((8192 * p + v : Nat) : Int) % ((2 ^ 64 : Nat) : Int)).toNat = 8192 * p + v by omega, show ((4095 : Int) % ((2 ^ 64 : Nat) : Int)).toNat = 2 ^ 12 - 1 by decide, Nat.and_two_pow_sub_one_eq_mod]
    omega
  show IntKind.i64.wrap ((BitVec.ofInt 64 ((8192 * p + v : Nat) : Int) &&& BitVec.ofInt 64 4095).toNat : Nat) = _
  rw [key, IntKind.wrap_i64]
  omega

set_option maxRecDepth 20000 in
set_option maxHeartbeats 4000000 in
theorem rtag_any (B R X : Nat) (d s : Nat → UInt8) (Y : ByteArray) (p v : Nat) (w : World) (h : RowIs w R 69 #[.string (Eth.ba (Oct.be 2 (8192 * p + v)) ++ Y)]) (hX : RowIs w X 33 #[.int .u8 ((d 0).toNat : Int), .int .u8 ((d 1).toNat : Int), .int .u8 ((d 2).toNat : Int), .int .u8 ((d 3).toNat : Int), .int .u8 ((d 4).toNat : Int), .int .u8 ((d 5).toNat : Int), .int .u8 ((s 0).toNat : Int), .int .u8 ((s 1).toNat : Int), .int .u8 ((s 2).toNat : Int), .int .u8 ((s 3).toNat : Int), .int .u8 ((s 4).toNat : Int), .int .u8 ((s 5).toNat : Int), .int .i64 0, .string ⟨#[]⟩, .int .i64 (-1), .int .i64 0]) (hB : B ≤ R) (hBX : B ≤ X) (hne : X ≠ R) (hs : (Eth.ba (Oct.be 2 (8192 * p + v)) ++ Y).size < 1000000) (hp : p < 8) (hv : v < 4096) :
    Calls Try.prog 22 #[.pointer (some ⟨X, 0, none⟩), .pointer (some ⟨R, 0, none⟩)] w fun e w' => e = .returned (.tuple #[]) ∧ RowIs w' R 69 #[.string Y] ∧ RowIs w' X 33 #[.int .u8 ((d 0).toNat : Int), .int .u8 ((d 1).toNat : Int), .int .u8 ((d 2).toNat : Int), .int .u8 ((d 3).toNat : Int), .int .u8 ((d 4).toNat : Int), .int .u8 ((d 5).toNat : Int), .int .u8 ((s 0).toNat : Int), .int .u8 ((s 1).toNat : Int), .int .u8 ((s 2).toNat : Int), .int .u8 ((s 3).toNat : Int), .int .u8 ((s 4).toNat : Int), .int .u8 ((s 5).toNat : Int), .int .i64 0, .string ⟨#[]⟩, .int .i64 (v : Nat), .int .i64 (p : Nat)] ∧ Only [R, X] w w' ∧ Below B w w' := by
  have hsz : (Eth.ba (Oct.be 2 (8192 * p + v))).size = 2 := by rw [Eth.ba_size, Oct.be_length]
  have H := rtwo_any B R _ Y w h hB hs hsz
  rw [Eth.ba_list, Oct.num_be 2 _ (by omega)] at H
  have HT := Lib.hid H
  have HX := Lib.hid hX
  have a1 := and_strange p v hp hv
  have a2 := and_vlan p v hp hv
  have hn : 8192 * p + v < 65536 := by omega
  have a3 : ((8192 * p + v : Nat) : Int) / 8192 = (p : Int) := by omega
  clear H h hs hsz hX
  generalize 8192 * p + v = n at *
  go_enter Try.func22, Try.ntmps22
  go_wp2_with fail
  refine HT.out.mono ?_
  rintro e w1 ⟨rfl, hR, hO, hb⟩
  have R1 := Lib.hid hR
  have X1 := Lib.hid (HX.out.only hO (by simpa using hne))
  have HB1 := Lib.hid hb
  have O1 := Lib.hid (hO.mono (cs := [R, X]) (by simp))
  clear hR hO hb HX HT
  go_wp2_with fail
  refine (must_yes _ _).mono ?_
  rintro e w2 ⟨rfl, rfl⟩
  go_wp2_with ((with_reducible refine at_store 3 (.tmp 18) (.tmp 14) ?_); refine wpList_store_cell rfl 3 (.tmp 18) (.tmp 14) rfl X 14 _ rfl rfl 33 _ X1.out (by simp) (by kernel_rfl) rfl B hBX ?_)
  intro w2 hX2 ho2 hs2 hb2
  have R2 := Lib.hid (show RowIs w2 R 69 #[.string Y] from (ho2 R (Ne.symm hne)).trans R1.out)
  have X2 := Lib.hid hX2
  have HB2 := Lib.hid (HB1.out.trans hb2)
  have O2 := Lib.hid (O1.out.store (S := X) (by simp) ho2 hs2)
  clear hX2 ho2 hs2 hb2 R1 X1 HB1
  go_wp2_with ((with_reducible refine at_store 3 (.tmp 20) (.tmp 16) ?_); refine wpList_store_cell rfl 3 (.tmp 20) (.tmp 16) rfl X 15 _ rfl rfl 33 _ X2.out (by simp) (by kernel_rfl) rfl B hBX ?_)
  intro w3 hX3 ho3 hs3 hb3
  have R3 := Lib.hid (show RowIs w3 R 69 #[.string Y] from (ho3 R (Ne.symm hne)).trans R2.out)
  have X3 := Lib.hid hX3
  have HB3 := Lib.hid (HB2.out.trans hb3)
  have O3 := Lib.hid (O2.out.store (S := X) (by simp) ho3 hs3)
  clear hX3 ho3 hs3 hb3 R2 X2 HB2
  go_wp2_with fail
  go_end0
  exact ⟨rfl, R3.out, X3.out, O3.out, HB3.out⟩

set_option maxRecDepth 20000 in
set_option maxHeartbeats 4000000 in
theorem rbody_short (B R X : Nat) (d s : Nat → UInt8) (Y : ByteArray) (v pr : Int) (w : World) (h : RowIs w R 69 #[.string Y]) (hX : RowIs w X 33 #[.int .u8 ((d 0).toNat : Int), .int .u8 ((d 1).toNat : Int), .int .u8 ((d 2).toNat : Int), .int .u8 ((d 3).toNat : Int), .int .u8 ((d 4).toNat : Int), .int .u8 ((d 5).toNat : Int), .int .u8 ((s 0).toNat : Int), .int .u8 ((s 1).toNat : Int), .int .u8 ((s 2).toNat : Int), .int .u8 ((s 3).toNat : Int), .int .u8 ((s 4).toNat : Int), .int .u8 ((s 5).toNat : Int), .int .i64 0, .string ⟨#[]⟩, .int .i64 v, .int .i64 pr]) (hB : B ≤ R) (hBX : B ≤ X) (hne : X ≠ R) (hs : Y.size ≤ 1500) :
    Calls Try.prog 24 #[.pointer (some ⟨X, 0, none⟩), .pointer (some ⟨R, 0, none⟩), .int .i64 (Y.size : Nat)] w fun e w' => e = .returned (.tuple #[]) ∧ RowIs w' X 33 #[.int .u8 ((d 0).toNat : Int), .int .u8 ((d 1).toNat : Int), .int .u8 ((d 2).toNat : Int), .int .u8 ((d 3).toNat : Int), .int .u8 ((d 4).toNat : Int), .int .u8 ((d 5).toNat : Int), .int .u8 ((s 0).toNat : Int), .int .u8 ((s 1).toNat : Int), .int .u8 ((s 2).toNat : Int), .int .u8 ((s 3).toNat : Int), .int .u8 ((s 4).toNat : Int), .int .u8 ((s 5).toNat : Int), .int .i64 0, .string Y, .int .i64 v, .int .i64 pr] ∧ Only [R, X] w w' ∧ Below B w w' := by
  have h' : RowIs w R 69 #[.string (Y ++ ByteArray.empty)] := by rw [ByteArray.append_empty]; exact h
  have H := rtake_any B R Y ByteArray.empty w h' hB (by rw [ByteArray.append_empty]; omega)
  have HT := Lib.hid H
  have HX := Lib.hid hX
  clear H h h' hX
  go_enter Try.func24, Try.ntmps24
  go_wp2_with fail
  refine HT.out.mono ?_
  rintro e w1 ⟨rfl, hR, hO, hb⟩
  have X1 := Lib.hid (HX.out.only hO (by simpa using hne))
  have HB1 := Lib.hid hb
  have O1 := Lib.hid (hO.mono (cs := [R, X]) (by simp))
  clear hR hO hb HX HT
  go_wp2_with ((with_reducible refine at_store 9 (.tmp 14) (.tmp 11) ?_); refine wpList_store_cell rfl 9 (.tmp 14) (.tmp 11) rfl X 13 _ rfl rfl 33 _ X1.out (by simp) (by kernel_rfl) rfl B hBX ?_)
  intro w2 hX2 ho2 hs2 hb2
  have X2 := Lib.hid hX2
  have HB2 := Lib.hid (HB1.out.trans hb2)
  have O2 := Lib.hid (O1.out.store (S := X) (by simp) ho2 hs2)
  clear hX2 ho2 hs2 hb2 X1 HB1
  go_wp2_with fail
  refine bodyPost_ret (results_none Try.results24 _ _ _) rfl ?_
  exact ⟨rfl, X2.out, O2.out, HB2.out⟩

set_option maxRecDepth 20000 in
set_option maxHeartbeats 4000000 in
theorem rbody_typed (B R X : Nat) (d s : Nat → UInt8) (Y : ByteArray) (ty : Nat) (v pr : Int) (w : World) (h : RowIs w R 69 #[.string Y]) (hX : RowIs w X 33 #[.int .u8 ((d 0).toNat : Int), .int .u8 ((d 1).toNat : Int), .int .u8 ((d 2).toNat : Int), .int .u8 ((d 3).toNat : Int), .int .u8 ((d 4).toNat : Int), .int .u8 ((d 5).toNat : Int), .int .u8 ((s 0).toNat : Int), .int .u8 ((s 1).toNat : Int), .int .u8 ((s 2).toNat : Int), .int .u8 ((s 3).toNat : Int), .int .u8 ((s 4).toNat : Int), .int .u8 ((s 5).toNat : Int), .int .i64 0, .string ⟨#[]⟩, .int .i64 v, .int .i64 pr]) (hBX : B ≤ X) (hne : X ≠ R) (ht : 1536 ≤ ty ∧ ty ≤ 65535 ∧ ty ≠ 33024) :
    Calls Try.prog 24 #[.pointer (some ⟨X, 0, none⟩), .pointer (some ⟨R, 0, none⟩), .int .i64 (ty : Nat)] w fun e w' => e = .returned (.tuple #[]) ∧ RowIs w' X 33 #[.int .u8 ((d 0).toNat : Int), .int .u8 ((d 1).toNat : Int), .int .u8 ((d 2).toNat : Int), .int .u8 ((d 3).toNat : Int), .int .u8 ((d 4).toNat : Int), .int .u8 ((d 5).toNat : Int), .int .u8 ((s 0).toNat : Int), .int .u8 ((s 1).toNat : Int), .int .u8 ((s 2).toNat : Int), .int .u8 ((s 3).toNat : Int), .int .u8 ((s 4).toNat : Int), .int .u8 ((s 5).toNat : Int), .int .i64 (ty : Nat), .string Y, .int .i64 v, .int .i64 pr] ∧ Only [R, X] w w' ∧ Below B w w' := by
  have c0 : w.cell? ⟨R, 0, none⟩ = some (.string Y) := h.cell 0
  have hn1 : ((ty : Int) != 33024) = true := by rw [bne_iff_ne]; omega
  have HR := Lib.hid h
  have HX := Lib.hid hX
  clear h hX
  go_enter Try.func24, Try.ntmps24
  go_wp2_with fail
  refine (must_yes _ _).mono ?_
  rintro e w2 ⟨rfl, rfl⟩
  go_wp2_with ((with_reducible refine at_store 3 (.tmp 31) (.tmp 24) ?_); refine wpList_store_cell rfl 3 (.tmp 31) (.tmp 24) rfl X 12 _ rfl rfl 33 _ HX.out (by simp) (by kernel_rfl) rfl B hBX ?_)
  intro w2 hX2 ho2 hs2 hb2
  have X2 := Lib.hid hX2
  have HB2 := Lib.hid hb2
  have O2 := Lib.hid ((Only.refl [R, X] w).store (S := X) (by simp) ho2 hs2)
  clear hX2 ho2 hs2 hb2 HX c0
  go_wp2_with ((with_reducible refine at_store 9 (.tmp 34) (.tmp 28) ?_); refine wpList_store_cell rfl 9 (.tmp 34) (.tmp 28) rfl X 13 _ rfl rfl 33 _ X2.out (by simp) (by kernel_rfl) rfl B hBX ?_)
  intro w3 hX3 ho3 hs3 hb3
  have X3 := Lib.hid hX3
  have HB3 := Lib.hid (HB2.out.trans hb3)
  have O3 := Lib.hid (O2.out.store (S := X) (by simp) ho3 hs3)
  clear hX3 ho3 hs3 hb3 X2 HB2
  go_wp2_with fail
  go_end0
  exact ⟨rfl, X3.out, O3.out, HB3.out⟩
end Go.Proofs.Ytdkgjbakbnhmaaa
