/- causeytop.goes: the document's example holds. By an AI agent. -/
import Derived.Test.YtdkgjbakbnhmaaaCell
import Derived.Test.YtdkgjbakbnhmaaaInts
import Derived.Test.YtdkgjbakbnhmaaaGrowKit
import Derived.Shelf.Strings.Repeat
import Derived.Laws.AppendOwnNone
import Derived.Deep.DeepCutAuto
namespace Go.Proofs.Ytdkgjbakbnhmaaa
open Go.RowKit Go.Shelf Go.Lib Go.Sort Go.Proofs

def rep105_ren : Go.Shelf.Ren := ⟨fun | 105 => 25 | 212 => 31 | 99 => 32 | 165 => 33 | 166 => 34 | 170 => 35 | 169 => 36 | 263 => 38 | 264 => 39 | 206 => 40 | 240 => 41 | 241 => 42 | 276 => 43 | 277 => 44 | n => n, fun | 9 => 9 | 3 => 3 | 4 => 4 | 20 => 20 | 0 => 0 | 46 => 55 | 109 => 84 | 5 => 5 | 72 => 89 | 76 => 93 | 51 => 28 | 146 => 97 | 53 => 75 | 148 => 99 | 70 => 87 | 37 => 53 | 75 => 92 | 127 => 101 | 164 => 102 | 80 => 95 | n => n, fun n => n⟩
set_option maxRecDepth 100000 in
theorem rep105 : Lays.n105 Try.prog rep105_ren := {
  mixed := by kernel_rfl,
  f99 := Try.func32.trans (congrArg some (by kernel_rfl)),
  f105 := Try.func25.trans (congrArg some (by kernel_rfl)),
  f165 := Try.func33.trans (congrArg some (by kernel_rfl)),
  f166 := Try.func34.trans (congrArg some (by kernel_rfl)),
  f169 := Try.func36.trans (congrArg some (by kernel_rfl)),
  f170 := Try.func35.trans (congrArg some (by kernel_rfl)),
  f206 := Try.func40.trans (congrArg some (by kernel_rfl)),
  f212 := Try.func31.trans (congrArg some (by kernel_rfl)),
  f240 := Try.func41.trans (congrArg some (by kernel_rfl)),
  f241 := Try.func42.trans (congrArg some (by kernel_rfl)),
  f263 := Try.func38.trans (congrArg some (by kernel_rfl)),
  f264 := Try.func39.trans (congrArg some (by kernel_rfl)),
  f276 := Try.func43.trans (congrArg some (by kernel_rfl)),
  f277 := Try.func44.trans (congrArg some (by kernel_rfl)),
  t0 := Try.underlying0,
  a0 := Try.isAgg0,
  z0 := Try.sizeOf0,
  v0 := Try.zeroValue0,
  t3 := Try.underlying3,
  a3 := Try.isAgg3,
  z3 := Try.sizeOf3,
  v3 := Try.zeroValue3,
  t4 := Try.underlying4,
  a4 := Try.isAgg4,
  z4 := Try.sizeOf4,
  v4 := Try.zeroValue4,
  t5 := Try.underlying5,
  a5 := Try.isAgg5,
  z5 := Try.sizeOf5,
  v5 := Try.zeroValue5,
  t9 := Try.underlying9,
  a9 := Try.isAgg9,
  z9 := Try.sizeOf9,
  v9 := Try.zeroValue9,
  t20 := Try.underlying20,
  a20 := Try.isAgg20,
  z20 := Try.sizeOf20,
  v20 := Try.zeroValue20,
  t37 := Try.underlying53,
  a37 := Try.isAgg53,
  z37 := Try.sizeOf53,
  v37 := Try.zeroValue53,
  t46 := Try.underlying55,
  a46 := Try.isAgg55,
  z46 := Try.sizeOf55,
  v46 := Try.zeroValue55,
  t51 := Try.underlying28,
  a51 := Try.isAgg28,
  z51 := Try.sizeOf28,
  v51 := Try.zeroValue28,
  t53 := Try.underlying75,
  a53 := Try.isAgg75,
  z53 := Try.sizeOf75,
  v53 := Try.zeroValue75,
  t70 := Try.underlying87,
  a70 := Try.isAgg87,
  z70 := Try.sizeOf87,
  v70 := Try.zeroValue87,
  t72 := Try.underlying89,
  a72 := Try.isAgg89,
  z72 := Try.sizeOf89,
  v72 := Try.zeroValue89,
  t75 := Try.underlying92,
  a75 := Try.isAgg92,
  z75 := Try.sizeOf92,
  v75 := Try.zeroValue92,
  t76 := Try.underlying93,
  a76 := Try.isAgg93,
  z76 := Try.sizeOf93,
  v76 := Try.zeroValue93,
  t109 := Try.underlying84,
  a109 := Try.isAgg84,
  z109 := Try.sizeOf84,
  v109 := Try.zeroValue84,
  t127 := Try.underlying101,
  a127 := Try.isAgg101,
  z127 := Try.sizeOf101,
  v127 := Try.zeroValue101,
  t146 := Try.underlying97,
  a146 := Try.isAgg97,
  z146 := Try.sizeOf97,
  v146 := Try.zeroValue97,
  t148 := Try.underlying99,
  a148 := Try.isAgg99,
  z148 := Try.sizeOf99,
  v148 := Try.zeroValue99,
  t164 := Try.underlying102,
  a164 := Try.isAgg102,
  z164 := Try.sizeOf102,
  v164 := Try.zeroValue102 }

theorem repX : Go.Proofs.Builder.Extra Try.prog rep105_ren := {
  sizeBuilder := by kernel_rfl, liesBuilder := by kernel_rfl, t5 := Try.underlying5, a5 := Try.isAgg5, z5 := Try.sizeOf5, v5 := Try.zeroValue5, infoByte := by kernel_rfl, cellsByte := by kernel_rfl, sizeByte := by kernel_rfl, neB5 := by decide }

theorem repeat_any (s : ByteArray) (c : Nat) (w : World) (hc : c ≤ 9223372036854775807) (hlen : s.size * c ≤ 140737488355328) :
    Calls Try.prog 25 #[.string s, .int .i64 c] w fun e w' => e = .returned (.string ⟨(Lib.repeatL s.data.toList c).toArray⟩) ∧ Below w.heap.size w w' := by
  have h := Any.strings_Repeat rep105 repX s c w hc hlen
  change Calls Try.prog 25 _ _ _ at h
  exact h

theorem info_int : ∃ i z, Try.prog.info? 3 = some i ∧ i.zero = some z ∧ i.size = 1 ∧ i.bytes = 8 ∧ z.cells.size = 1 := by
  have h : (Try.prog.info? 3).map (fun i => (i.zero.map (·.cells.size), i.size, i.bytes)) = some (some 1, 1, 8) := by kernel_rfl
  obtain ⟨i, hi, h⟩ := Option.map_eq_some_iff.1 h
  simp only [Prod.mk.injEq] at h
  obtain ⟨z, hz, h18⟩ := Option.map_eq_some_iff.1 h.1
  exact ⟨i, z, hi, hz, h.2.1, h.2.2, h18⟩

/-- a slice of the call's own that holds the numbers -/
def OutInts (w : World) (base : Nat) (v : Value) (zs : List Int) : Prop := w.ownsRow base 3 1 v zs.length (zs.map (Value.int .i64))
theorem outInts_nil (w : World) (base : Nat) : OutInts w base (.slice none 0 0) [] := World.ownsRow_nil _ _ _ _
theorem OutInts.later {w w' : World} {base : Nat} {v : Value} {zs : List Int} (h : OutInts w base v zs) (hb : Below w.heap.size w w') : OutInts w' base v zs := by
  refine ⟨h.1, ?_⟩
  rcases h.2 with h2 | ⟨g, cap, cur, e1, e2, e3, e4⟩
  · exact .inl h2
  · exact .inr ⟨g, cap, cur, e1, e2, (hb.block g (Array.getElem?_eq_some_iff.1 e3).1).trans e3, e4⟩
theorem OutInts.form {w : World} {base : Nat} {v : Value} {zs : List Int} (h : OutInts w base v zs) : ∃ ao cap, v = .slice ao zs.length cap ∧ IntsAt w ao zs := by
  rcases h.2 with ⟨rfl, h0⟩ | ⟨g, cap, cur, rfl, _⟩
  · rw [h0]
    exact ⟨none, 0, rfl, .inl (List.length_eq_zero_iff.1 h0)⟩
  · refine ⟨_, cap, rfl, .inr ⟨g, 0, rfl, fun i hi => ?_⟩⟩
    rw [Nat.zero_add, World.ownsRow.cellAt h i (by omega)]
    simp [List.getD, hi]


set_option maxRecDepth 20000 in
set_option maxHeartbeats 1000000 in
theorem fill_abc (w : World) :
    Calls Try.prog 11 #[.string ⟨#[97, 98, 99]⟩] w fun e w' => ∃ b : ByteArray, e = .returned (.string b) ∧ b.size = 64 ∧ Below w.heap.size w w' := by
  have HR := Lib.hid (fun w => repeat_any ⟨#[0]⟩ 52 w (by decide) (by decide))
  have hb0 : (⟨(Lib.repeatL (⟨#[0]⟩ : ByteArray).data.toList 52).toArray⟩ : ByteArray).size = 52 := by simp [ByteArray.size, Lib.repeatL_length]
  generalize (⟨(Lib.repeatL (⟨#[0]⟩ : ByteArray).data.toList 52).toArray⟩ : ByteArray) = z at *
  go_enter Try.func11, Try.ntmps11
  go_wp2_with fail
  refine (HR.out _).mono ?_
  rintro e w1 ⟨rfl, hb1⟩
  have q : ¬ 9223372036854775807 < 4 + z.size := by omega
  go_upto_region 5 with fail
  go_loopw [4, 5] (fun s i wr => ∃ k : Nat, ∃ b : ByteArray, k ≤ 8 ∧ s = .string b ∧ b.size = 56 + k ∧ i = .int .i64 (7 - (k : Int)) ∧ Below w.heap.size w wr) (fun _ i _ => (RowKit.intOf i + 1).toNat)
  case atStart => exact ⟨0, _, by omega, rfl, by rw [ByteArray.size_append, hb0]; rfl, rfl, hb1⟩
  case round =>
    rename_i wr
    obtain ⟨k, b, hk, rfl, hbs, rfl, hbr⟩ := hrel
    have HBS := Lib.hid hbs
    by_cases hlt : k < 8
    · have q : ¬ 9223372036854775807 < 1 + b.size := by omega
      clear hbs
      have HS := fun x => run_string_one wr x
      go_wp2_with fail
      refine ⟨⟨k + 1, _, by omega, rfl, ?_, by go_num, hbr.alloc hbr.size _⟩, by simp [RowKit.intOf]; omega⟩
      rw [ByteArray.size_append, HBS.out]
      rfl
    · obtain rfl : k = 8 := by omega
      clear hbs
      go_wp2_with fail
      go_ret
      exact ⟨b, rfl, HBS.out, hbr⟩

namespace Pr
def upTo (k : Nat) : List Int := [2, 3, 5, 7].filter fun p => decide (p < 2 + (k : Int))
def free (x : Int) (l : List Int) : Bool := l.all fun p => x % p != 0
theorem next (k : Nat) (h : k < 6) : (if free (2 + (k : Int)) (upTo k) = true then upTo k ++ [2 + (k : Int)] else upTo k) = upTo (k + 1) := by
  have : k = 0 ∨ k = 1 ∨ k = 2 ∨ k = 3 ∨ k = 4 ∨ k = 5 := by omega
  rcases this with rfl | rfl | rfl | rfl | rfl | rfl <;> decide
theorem few (k : Nat) (h : k < 6) : (upTo k).length < 4 := by
  have : k = 0 ∨ k = 1 ∨ k = 2 ∨ k = 3 ∨ k = 4 ∨ k = 5 := by omega
  rcases this with rfl | rfl | rfl | rfl | rfl | rfl <;> decide
theorem pos (k : Nat) (p : Int) (h : p ∈ upTo k) : 2 ≤ p := by
  have := (List.mem_filter.1 h).1
  simp at this
  omega
theorem free_next (x : Int) (l : List Int) (j : Nat) (h : j < l.length) : free x (l.take (j + 1)) = (free x (l.take j) && (x % l[j] != 0)) := by
  unfold free
  rw [List.take_succ_eq_append_getElem h, List.all_append]
  simp
end Pr

set_option maxRecDepth 20000 in
set_option maxHeartbeats 2000000 in
theorem primes_four (w : World) :
    Calls Try.prog 12 #[.int .i64 4] w fun e w' => ∃ ao cap, e = .returned (.slice ao 4 cap) ∧ RowKit.Below w.heap.size w w' := by
  obtain ⟨ti, tz, hi, hzz, hz1, hz2, hz3⟩ := info_int
  have HI := Lib.hid hi
  have HZZ := Lib.hid hzz
  clear hi hzz
  go_enter Try.func12, Try.ntmps12
  go_upto_region 5 with fail
  go_loopw [3, 4] (fun o x wr => ∃ k : Nat, k ≤ 6 ∧ x = .int .i64 (2 + (k : Int)) ∧ Hid (OutInts wr w.heap.size o (Pr.upTo k)) ∧ RowKit.Below w.heap.size w wr) (fun _ x _ => (9 - RowKit.intOf x).toNat)
  case atStart => exact ⟨0, by omega, rfl, outInts_nil _ _, RowKit.Below.refl _ _⟩
  case round =>
    rename_i wr
    obtain ⟨k, hk, rfl, HO, hbr⟩ := hrel
    obtain ⟨ao, cap, rfl, hI⟩ := HO.out.form
    have HIA := Lib.hid hI
    clear hI
    by_cases hlt : k < 6
    · have hfew := Pr.few k hlt
      have HP := Lib.hid (Pr.pos k)
      have HN := Lib.hid (Pr.next k hlt)
      generalize hL : Pr.upTo k = L at *
      clear hL
      generalize hX : 2 + (k : Int) = x at *
      have hx2 : 2 ≤ x ∧ x < 8 := by omega
      go_upto_region 9 with fail
      go_loopw [5, 7, 22] (fun p s7 i wx => ∃ j : Nat, j ≤ L.length ∧ i = .int .i64 j ∧ p = .bool (Pr.free x (L.take j)) ∧ wx = wr) (fun _ _ i _ => L.length - (RowKit.intOf i).toNat)
      case atStart => exact ⟨0, by omega, rfl, by simp [Pr.free], rfl⟩
      case round =>
        obtain ⟨j, hj, rfl, rfl, rfl⟩ := hrel
        by_cases hjl : j < L.length
        · have hp2 := HP.out L[j] (List.getElem_mem hjl)
          have HNX := Lib.hid (Pr.free_next x L j hjl)
          obtain ⟨b, off, hao, hcell⟩ : ∃ b off, ao = some ⟨b, off, none⟩ ∧ wr.cell? ⟨b, off + j, none⟩ = some (.int .i64 L[j]) := by
            rcases HIA.out with h | ⟨b, off, h1, h2⟩
            · rw [h] at hjl
              exact absurd hjl (Nat.not_lt_zero _)
            · refine ⟨b, off, h1, ?_⟩
              rw [h2 j hjl]
              simp [List.getD, hjl]
          subst hao
          generalize L[j] = pp at *
          have hne : ¬ pp = 0 := by omega
          cases hf : Pr.free x (L.take j)
          · rw [hf] at HNX
            go_wp2_with fail
            refine ⟨⟨j + 1, by omega, by go_num, by rw [HNX.out]; rfl, trivial⟩, by simp [RowKit.intOf]; omega⟩
          · rw [hf] at HNX
            go_wp2_with fail
            refine ⟨⟨j + 1, by omega, by go_num, by rw [HNX.out]; rfl, trivial⟩, by simp [RowKit.intOf]; omega⟩
        · obtain rfl : j = L.length := by omega
          rw [List.take_length] at *
          go_upto_region 13 with fail
          cases hf : Pr.free x L
          · rw [hf] at HN
            go_wp2_with fail
            refine ⟨⟨k + 1, by omega, by rw [← hX]; go_num, ?_, hbr⟩, by simp [RowKit.intOf]; omega⟩
            show OutInts _ _ _ _
            rw [← HN.out, if_neg (by decide)]
            exact HO.out
          · rw [hf] at HN
            have hsz3 := hbr.size
            have HO4 := Lib.hid (World.ownsRow.alloc HO.out (.cells #[.int .i64 x] 3))
            go_wp2_with (at_builtin; refine wpList_append_own _ rfl (.tmp 35) (.tmp 37) 50 rfl w.heap.size 3 ti tz 1 8 Try.underlying50 HI.out HZZ.out hz1 hz2 hz3 (by decide) _ L.length _ rfl HO4.out ⟨wr.heap.size, 0, none⟩ 1 1 [.int .i64 x] rfl rfl (fun j u hj => by rw [addr_add, (rowIs_new wr 3 #[.int .i64 x]).cell j, ← Array.getElem?_toList]; exact hj) ?d2 ?d3 ?d4 ?d5 ?_)
            case d2 => rfl
            case d3 => simp [maxLen]; omega
            case d4 => omega
            case d5 => first | exact hsz3 | omega | (simp; omega)
            intro v' w' ho hg _
            have HOUT : Hid (OutInts w' w.heap.size v' (Pr.upTo (k + 1))) := by
              show OutInts _ _ _ _
              rw [← HN.out, if_pos trivial]
              unfold OutInts
              simpa using ho
            have hbw : RowKit.Below w.heap.size w w' := hbr.trans (((RowKit.Below.refl _ _).alloc hsz3 _).grown hg (by simp; omega) (fun k e => (HO4.out.lt k e).1))
            clear ho hg HO4
            go_wp2_with fail
            refine ⟨⟨k + 1, by omega, by rw [← hX]; go_num, HOUT, hbw⟩, by simp [RowKit.intOf]; omega⟩
    · obtain rfl : k = 6 := by omega
      go_wp2_with fail
      go_ret
      exact ⟨ao, cap, rfl, hbr⟩

set_option maxRecDepth 20000 in
set_option maxHeartbeats 1000000 in
theorem goes_any (w : World) :
    Calls Try.prog 4 #[] w fun e w' => e = .returned (.bool true) ∧ RowKit.Below w.heap.size w w' := by
  go_enter Try.func4, Try.ntmps4
  go_wp2_with fail
  refine (fill_abc _).mono ?_
  rintro e w1 ⟨b, rfl, hbs, hb1⟩
  go_wp2_with fail
  refine (primes_four _).mono ?_
  rintro e w2 ⟨ao, cap, rfl, hb2⟩
  go_wp2_with fail
  go_ret
  exact ⟨rfl, hb1.trans (hb2.mono hb1.size)⟩

end Go.Proofs.Ytdkgjbakbnhmaaa
