/- ether's reader: what is taken of a text whose parts are known. By an AI agent. -/
import Derived.Test.YtdkgjbakbnhmaaaTop2
import Derived.Test.YtdkgjbakbnhmaaaCell
namespace Go.Proofs.Ytdkgjbakbnhmaaa
open Go.RowKit Go.Sort Grow

/-- of the old blocks only some have turned -/
def Only (bs : List Nat) (w w' : World) : Prop := w.heap.size ≤ w'.heap.size ∧ ∀ j, j < w.heap.size → j ∉ bs → w'.heap[j]? = w.heap[j]?
theorem Only.refl (bs : List Nat) (w : World) : Only bs w w := ⟨Nat.le_refl _, fun _ _ _ => rfl⟩
theorem Only.below {bs : List Nat} {w w' w'' : World} (h : Only bs w w') (hb : Below w'.heap.size w' w'') : Only bs w w'' :=
  ⟨Nat.le_trans h.1 hb.size, fun j hj hn => (hb.block j (Nat.lt_of_lt_of_le hj h.1)).trans (h.2 j hj hn)⟩
theorem Only.store {bs : List Nat} {w w' w'' : World} (h : Only bs w w') {S : Nat} (hS : S ∈ bs) (ho : ∀ j, j ≠ S → w''.heap[j]? = w'.heap[j]?) (hs : w''.heap.size = w'.heap.size) : Only bs w w'' :=
  ⟨by rw [hs]; exact h.1, fun j hj hn => (ho j (fun e => hn (by rw [e]; exact hS))).trans (h.2 j hj hn)⟩
theorem Only.trans {bs : List Nat} {w w' w'' : World} (h : Only bs w w') (k : Only bs w' w'') : Only bs w w'' :=
  ⟨Nat.le_trans h.1 k.1, fun j hj hn => (k.2 j (Nat.lt_of_lt_of_le hj h.1) hn).trans (h.2 j hj hn)⟩
theorem Only.mono {bs cs : List Nat} {w w' : World} (h : Only bs w w') (hs : ∀ b ∈ bs, b ∈ cs) : Only cs w w' := ⟨h.1, fun j hj hn => h.2 j hj (fun hb => hn (hs j hb))⟩
theorem RowIs.only {bs : List Nat} {w w' : World} {n : Nat} {t : TypeId} {cs : Array Value} (h : RowIs w n t cs) (ho : Only bs w w') (hn : n ∉ bs) : RowIs w' n t cs := (ho.2 n h.lt hn).trans h

section
variable {P : Program} {ops : Array Oper} {rest : List Oper} {o : Oper} {a : Act} {w : World} {Q : Exit → Act → World → Prop}
/-- []byte(s) -/
theorem wpList_bytes (hgd : Region.wanted o (yielded ops a.tmps) = true) (src dst e : TypeId) (x : Operand) (ho : o.op = .convert src dst x) (s : ByteArray) (hx : a.eval x = .string s)
    (hs : P.underlying src = some .string) (hd : P.underlying dst = some (.slice e)) (he : P.underlying e = some (.int .u8))
    (h : ∀ w' b cap, CellsAt w' b (byteVals s.data.toList) → Below w.heap.size w w' → wpList P ops Q rest (a.put o.dst (.slice (some ⟨b, 0, none⟩) s.size cap)) w') : wpList P ops Q (o :: rest) a w :=
  BigFrame.wpList_want hgd fun _ hK => by
    unfold Oper.wp execOp
    simp only [ho, hx, Sem.run_bind, run_bytes_of_string w src dst e s hs hd he, Result.andThen_ok, Sem.run_pure]
    have hb : Below w.heap.size w (w.drew.alloc (.cells (bytesRow s (grownCap w s.size 0 e)) e ((bytesRow s (grownCap w s.size 0 e)).size, (bytesRow s (grownCap w s.size 0 e)).size + 1))) :=
      (show Below w.heap.size w w.drew from ⟨rfl, rfl, rfl, Nat.le_refl _, fun _ _ => rfl⟩).alloc (Nat.le_refl _) _
    refine hK _ _ (h _ _ _ ⟨by simp, fun j v hj => ?_⟩ hb)
    have hh : (w.drew.alloc (.cells (bytesRow s (grownCap w s.size 0 e)) e ((bytesRow s (grownCap w s.size 0 e)).size, (bytesRow s (grownCap w s.size 0 e)).size + 1))).heap[w.heap.size]? = some (.cells (bytesRow s (grownCap w s.size 0 e)) e ((bytesRow s (grownCap w s.size 0 e)).size, (bytesRow s (grownCap w s.size 0 e)).size + 1)) := by
      show (w.heap.push _)[w.heap.size]? = _
      simp
    have hlt : j < s.size := by
      have := (List.getElem?_eq_some_iff.1 hj).1
      rw [byteVals_length] at this
      simpa using this
    simp only [World.cell?, hh]
    unfold bytesRow
    rw [Array.getElem?_append_left (by simpa using hlt)]
    rw [← hj]
    simp [byteVals]
theorem wpList_arrayAt (hgd : Region.wanted o (yielded ops a.tmps) = true) (arr e : TypeId) (n : Nat) (x : Operand) (ho : o.op = .sliceToArrayPointer arr x) (b m cap : Nat) (hx : a.eval x = .slice (some ⟨b, 0, none⟩) m cap)
    (ha : P.underlying arr = some (.array n e)) (hn : n ≤ m)
    (h : wpList P ops Q rest (a.put o.dst (.pointer (some ⟨b, 0, none⟩))) w) : wpList P ops Q (o :: rest) a w :=
  BigFrame.wpList_want hgd fun _ hK => by
    unfold Oper.wp execOp
    simp only [ho, hx, Sem.run_bind, run_arrayAt w arr e n _ _ cap ha hn, Result.andThen_ok, Sem.run_pure]
    exact hK _ _ h
theorem wpList_load_cells (hgd : Region.wanted o (yielded ops a.tmps) = true) (ty e : TypeId) (n : Nat) (x : Operand) (ho : o.op = .load ty x) (b : Nat) (vs : List Value) (hx : a.eval x = .pointer (some ⟨b, 0, none⟩)) (hc : CellsAt w b vs)
    (hu : P.underlying ty = some (.array n e)) (hi : (P.info? ty).map (·.size) = some vs.length)
    (h : wpList P ops Q rest (a.put o.dst (.agg vs.toArray)) w) : wpList P ops Q (o :: rest) a w :=
  BigFrame.wpList_want hgd fun _ hK => by
    unfold Oper.wp execOp
    simp only [ho, hx, Instr.loadAt, Instr.sureAddr, Sem.run_bind, Sem.run_pure, Result.andThen_ok, run_loadVar_cells hc hu hi]
    exact hK _ _ h
theorem at_arr (ty : TypeId) (x : Operand) {dst : Option Tmp} {t : TypeId} {pos : String} {aft : Array Edge} {g : Option _}
    (h : wpList P ops Q (⟨dst, .sliceToArrayPointer ty x, t, pos, aft, g⟩ :: rest) a w) : wpList P ops Q (⟨dst, .sliceToArrayPointer ty x, t, pos, aft, g⟩ :: rest) a w := h
end

set_option maxHeartbeats 1000000 in
theorem must_yes (e0 : Int) (w : World) : Calls Try.prog 23 #[.bool true, .int .i64 e0] w fun e w' => e = .returned (.tuple #[]) ∧ w = w' := by
  go_enter Try.func23, Try.ntmps23
  go_wp2_with fail
  go_end0
  exact ⟨rfl, rfl⟩

set_option maxHeartbeats 2000000 in
theorem rtake_any (B R : Nat) (X Y : ByteArray) (w : World) (h : RowIs w R 69 #[.string (X ++ Y)]) (hB : B ≤ R) (hs : (X ++ Y).size < 1000000) :
    Calls Try.prog 30 #[.pointer (some ⟨R, 0, none⟩), .int .i64 (X.size : Nat)] w fun e w' => e = .returned (.string X) ∧ RowIs w' R 69 #[.string Y] ∧ Only [R] w w' ∧ Below B w w' := by
  have HX := Lib.hid (Eth.cut_front X Y)
  have hxy : (X ++ Y).size = X.size + Y.size := ByteArray.size_append
  have c0 : w.cell? ⟨R, 0, none⟩ = some (.string (X ++ Y)) := h.cell 0
  have HR := Lib.hid h
  clear h
  generalize hZ : X ++ Y = Z at *
  have HZ := Lib.hid hZ
  clear hZ
  have hle : X.size ≤ Z.size := by omega
  generalize hn : X.size = n at *
  have HN := Lib.hid hn
  clear hn
  go_enter Try.func30, Try.ntmps30
  go_wp2_with ((with_reducible refine at_store 9 (.tmp 28) (.tmp 26) ?_); refine wpList_store_cell rfl 9 (.tmp 28) (.tmp 26) rfl R 0 _ rfl rfl 69 _ HR.out (by simp) (by kernel_rfl) rfl B hB ?_)
  intro w1 hR hO hsz hb
  have hR' : Hid (RowIs w1 R 69 #[.string Y]) := by
    show RowIs _ _ _ _
    have e : Z.extract n (n + Y.size) = Y := by rw [← hxy]; exact HX.out.2
    rw [e] at hR
    exact hR
  have HO : Hid (Only [R] w w1) := (Only.refl [R] w).store (List.mem_singleton.2 rfl) hO hsz
  have HB := Lib.hid hb
  have HE := Lib.hid HX.out.1
  clear hR hO hsz hb c0 HR HX
  go_wp2_with fail
  go_ret
  refine ⟨?_, hR'.out, HO.out, HB.out⟩
  show Ending.returned (.string (Z.extract 0 n)) = _
  rw [HE.out]

set_option maxHeartbeats 2000000 in
theorem rtwo_any (B R : Nat) (X Y : ByteArray) (w : World) (h : RowIs w R 69 #[.string (X ++ Y)]) (hB : B ≤ R) (hs : (X ++ Y).size < 1000000) (hx : X.size = 2) :
    Calls Try.prog 21 #[.pointer (some ⟨R, 0, none⟩)] w fun e w' => e = .returned (.int .i64 (Oct.num X.data.toList : Nat)) ∧ RowIs w' R 69 #[.string Y] ∧ Only [R] w w' ∧ Below B w w' := by
  have H := rtake_any B R X Y w h hB hs
  rw [hx] at H
  have HT := Lib.hid H
  have HN := Lib.hid (fun w => number_any X w (by omega))
  clear H h hs
  go_enter Try.func21, Try.ntmps21
  go_wp2_with fail
  refine HT.out.mono ?_
  rintro e w1 ⟨rfl, hR, hO, hb⟩
  have H1 : Hid (RowIs w1 R 69 #[.string Y] ∧ Only [R] w w1 ∧ Below B w w1) := ⟨hR, hO, hb⟩
  clear hR hO hb
  go_wp2_with fail
  refine (HN.out _).mono ?_
  rintro e w2 ⟨rfl, rfl⟩
  go_wp2_with fail
  go_ret
  exact ⟨rfl, H1.out⟩

set_option maxHeartbeats 2000000 in
theorem rmac_any (B R : Nat) (d : Nat → UInt8) (Y : ByteArray) (w : World) (h : RowIs w R 69 #[.string (Eth.ba [d 0, d 1, d 2, d 3, d 4, d 5] ++ Y)]) (hB : B ≤ R) (hs : (Eth.ba [d 0, d 1, d 2, d 3, d 4, d 5] ++ Y).size < 1000000) :
    Calls Try.prog 20 #[.pointer (some ⟨R, 0, none⟩)] w fun e w' => e = .returned (.agg #[.int .u8 ((d 0).toNat : Int), .int .u8 ((d 1).toNat : Int), .int .u8 ((d 2).toNat : Int), .int .u8 ((d 3).toNat : Int), .int .u8 ((d 4).toNat : Int), .int .u8 ((d 5).toNat : Int)]) ∧ RowIs w' R 69 #[.string Y] ∧ Only [R] w w' ∧ Below B w w' := by
  have HT := Lib.hid (fun w' (h' : RowIs w' R 69 #[.string (Eth.ba [d 0, d 1, d 2, d 3, d 4, d 5] ++ Y)]) => rtake_any B R (Eth.ba [d 0, d 1, d 2, d 3, d 4, d 5]) Y w' h' hB hs)
  rw [show (Eth.ba [d 0, d 1, d 2, d 3, d 4, d 5]).size = 6 from rfl] at HT
  have hv : byteVals (Eth.ba [d 0, d 1, d 2, d 3, d 4, d 5]).data.toList = [.int .u8 ((d 0).toNat : Int), .int .u8 ((d 1).toNat : Int), .int .u8 ((d 2).toNat : Int), .int .u8 ((d 3).toNat : Int), .int .u8 ((d 4).toNat : Int), .int .u8 ((d 5).toNat : Int)] := rfl
  have hz : (Eth.ba [d 0, d 1, d 2, d 3, d 4, d 5]).size = 6 := rfl
  have hBw : B ≤ w.heap.size := Nat.le_trans hB (Nat.le_of_lt h.lt)
  generalize Eth.ba [d 0, d 1, d 2, d 3, d 4, d 5] = D at *
  have HV := Lib.hid hv
  clear hv hs
  have HI : Hid ((Try.prog.info? 23).map (·.size) = some 6) := by show _ = _; kernel_rfl
  have R0 := Lib.hid (h.alloc (.cells #[.int .u8 0, .int .u8 0, .int .u8 0, .int .u8 0, .int .u8 0, .int .u8 0] 23))
  go_enter Try.func20, Try.ntmps20
  have RC : Hid (RowIs (w.alloc (.cells #[.int .u8 0, .int .u8 0, .int .u8 0, .int .u8 0, .int .u8 0, .int .u8 0] 23)) w.heap.size 23 #[.int .u8 0, .int .u8 0, .int .u8 0, .int .u8 0, .int .u8 0, .int .u8 0]) := by show RowIs _ _ _ _; exact rowIs_new w _ _
  have hne : w.heap.size ≠ R := fun e => by have := h.lt; omega
  have HBA : Hid (Below B w (w.alloc (.cells #[.int .u8 0, .int .u8 0, .int .u8 0, .int .u8 0, .int .u8 0, .int .u8 0] 23))) := (Below.refl _ _).alloc hBw _
  have HOA : Hid (Only [R] w (w.alloc (.cells #[.int .u8 0, .int .u8 0, .int .u8 0, .int .u8 0, .int .u8 0, .int .u8 0] 23))) := (Only.refl _ _).below ((Below.refl _ _).alloc (Nat.le_refl _) _)
  clear h
  go_wp2_with fail
  refine (HT.out _ R0.out).mono ?_
  rintro e w1 ⟨rfl, hR, hO, hb⟩
  have RC1 := Lib.hid (RC.out.only hO (by simpa using hne))
  have RR1 := Lib.hid hR
  have HB1 := Lib.hid (HBA.out.trans hb)
  have HO1 := Lib.hid (HOA.out.trans hO)
  clear hR hO hb RC R0 HBA HOA HT
  go_wp2_with (first
    | ((with_reducible refine at_conv 9 53 (.tmp 4) ?_); refine wpList_bytes rfl 9 53 5 (.tmp 4) rfl D rfl Try.underlying9 Try.underlying53 Try.underlying5 ?_))
  intro w2 b cap hc hb2
  rw [hz, HV.out] at *
  have HC := Lib.hid hc
  have RC2 := Lib.hid (RC1.out.kept hb2)
  have RR2 := Lib.hid (RR1.out.kept hb2)
  have HB2 := Lib.hid (HB1.out.trans (hb2.mono (Nat.le_trans hBw HB1.out.size)))
  have HO2 := Lib.hid (HO1.out.below hb2)
  clear hc hb2 RC1 RR1 HB1 HO1
  go_wp2_with (first
    | ((with_reducible refine at_arr 23 (.tmp 5) ?_); refine wpList_arrayAt rfl 23 5 6 (.tmp 5) rfl b 6 cap rfl Try.underlying23 (Nat.le_refl _) ?_)
    | ((with_reducible refine at_load 23 (.tmp 6) ?_); refine wpList_load_cells rfl 23 5 6 (.tmp 6) rfl b _ rfl HC.out Try.underlying23 HI.out ?_)
    | ((with_reducible refine at_store 23 (.tmp 2) (.tmp 7) ?_); refine wpList_store_own rfl 23 (.tmp 2) (.tmp 7) rfl w.heap.size _ rfl rfl _ _ RC2.out HI.out rfl (by kernel_rfl) w.heap.size (Nat.le_refl _) ?_))
  intro w3 hR3 ho3 hs3 hb3
  have RR3 := Lib.hid (show RowIs w3 R 69 #[.string Y] from (ho3 R (Ne.symm hne)).trans RR2.out)
  have HB3 := Lib.hid (HB2.out.trans (hb3.mono hBw))
  have HO3 : Hid (Only [R] w w3) := ⟨by rw [hs3]; exact HO2.out.1, fun j hj hn => (ho3 j (by omega)).trans (HO2.out.2 j hj hn)⟩
  clear RR2 HB2 HO2 ho3 hs3 hb3 RC2 HC
  go_wp2_with fail
  refine bodyPost_ret (results_row Try.results20 _ _ w.heap.size _ _ _ rfl hR3 Try.underlying23 rfl HI.out) rfl ?_
  exact ⟨rfl, RR3.out, HO3.out, HB3.out⟩
end Go.Proofs.Ytdkgjbakbnhmaaa
