/- causeyref07.Dec: any number. By an AI agent. -/
import Derived.Test.YthfckdnennfnoaaGreatDoorConfLaw
import Derived.Test.YthfckdnennfnoaaGreatDoorConf0
import Derived.Test.YthfckdnennfnoaaGreatDoorConfE
import Derived.Test.YthfckdnennfnoaaGreatDoorConfPa
import Derived.Test.YthfckdnennfnoaaGreatDoorGrowKit
import Derived.Test.YthfckdnennfnoaaGreatDoorCell
import Derived.Test.YthfckdnennfnoaaGreatDoorConfA
import Derived.Laws.OwnMore
namespace Go.Proofs.YthfckdnennfnoaaGreatDoor
open Go.RowKit
namespace Cf
theorem digit_add (m : Nat) : 48 + UInt8.ofNat (m % 10) = UInt8.ofNat (48 + m % 10) := by
  apply UInt8.toNat_inj.1
  rw [UInt8.toNat_add, UInt8.toNat_ofNat', UInt8.toNat_ofNat']
  have : (48 : UInt8).toNat = 48 := rfl
  rw [this]
  omega
theorem dec_small (n : Nat) (h : n < 10) : dec n = [UInt8.ofNat (48 + n % 10)] := by
  unfold dec Oct.decF
  rw [if_pos h]
theorem dec_big (n : Nat) (h : n < 9223372036854775808) (h10 : 10 ≤ n) : dec n = dec (n / 10) ++ [UInt8.ofNat (48 + n % 10)] := by
  have h1 := Oct.decF_fuel 19 (n / 10) (by omega) 20 (by omega)
  have e : Oct.decF 20 n = Oct.decF 19 (n / 10) ++ [UInt8.ofNat (48 + n % 10)] := by rw [Oct.decF, if_neg (by omega)]
  show Oct.decF 20 n = Oct.decF 20 (n / 10) ++ _
  rw [e, h1]
theorem ba_append (l r : List UInt8) : (⟨l.toArray⟩ : ByteArray) ++ ⟨r.toArray⟩ = ⟨(l ++ r).toArray⟩ := by
  refine ByteArray.ext ?_
  rw [ByteArray.data_append]
  simp
theorem decF_pos : ∀ (f n : Nat), 0 < (Oct.decF f n).length
  | 0, n => by simp [Oct.decF]
  | f + 1, n => by
    unfold Oct.decF
    split
    · simp
    · simp
end Cf
set_option maxHeartbeats 2000000 in
theorem rdec_any (n : Nat) (hn : n < 9223372036854775808) (w : World) : Calls Tryz.prog 31 #[.int .i64 (n : Int)] w fun e w' => e = .returned (.string ⟨(Cf.dec n).toArray⟩) ∧ Below w.heap.size w w' := by
  go_enter Tryz.func31, Tryz.ntmps31
  go_wp2_with fail
  go_loopw [0, 3] (fun s0 s3 wr => ∃ (m : Nat) (b : ByteArray) (l : List UInt8), m ≤ n ∧ s0 = .int .i64 m ∧ s3 = .string b ∧ Hid (b = ⟨l.toArray⟩) ∧ Hid (l.length ≤ 40) ∧ Hid ((l = [] ∧ m = n) ∨ (l ≠ [] ∧ l.length + m ≤ 10 + n ∧ (m = 0 → l = Cf.dec n) ∧ (0 < m → Cf.dec m ++ l = Cf.dec n))) ∧ Below w.heap.size w wr) (fun s0 s3 _ => (match s3 with | .string s => if s.size = 0 then 1 else 0 | _ => 0) + (intOf s0).toNat)
  case atStart => exact ⟨n, _, [], Nat.le_refl _, rfl, rfl, Lib.hid rfl, Lib.hid (by decide), Lib.hid (.inl ⟨rfl, rfl⟩), Below.refl _ _⟩
  case round =>
    rename_i wr
    obtain ⟨m, b, l, hm, rfl, rfl, HB, HLL, HL, hbr⟩ := hrel
    have hdl : ∀ k, (Cf.dec k).length ≤ 21 := fun k => Oct.decF_length 20 k
    have hbz : b.size = l.length := by rw [HB.out]; simp [ByteArray.size]
    have hbl : b.toList = l := by rw [Lib.toList_data, HB.out]
    have HDL := Lib.hid hdl
    clear hdl
    by_cases hgo : 0 < m ∨ l = []
    · have HS := fun x => run_string_one wr x
      have hbz10 : b.size ≤ 40 := by have := HLL.out; omega
      have q : ¬ 9223372036854775807 < 1 + b.size := by omega
      have HNEW : Hid (⟨[UInt8.ofNat (48 + m % 10)].toArray⟩ ++ b = (⟨(UInt8.ofNat (48 + m % 10) :: l).toArray⟩ : ByteArray)) := by show _ = _; rw [HB.out, Cf.ba_append]; rfl
      have key : (UInt8.ofNat (48 + m % 10) :: l ≠ [] ∧ (UInt8.ofNat (48 + m % 10) :: l).length + m / 10 ≤ 10 + n ∧ (m / 10 = 0 → UInt8.ofNat (48 + m % 10) :: l = Cf.dec n) ∧ (0 < m / 10 → Cf.dec (m / 10) ++ UInt8.ofNat (48 + m % 10) :: l = Cf.dec n)) ∧ (UInt8.ofNat (48 + m % 10) :: l).length ≤ 40 := by
        rcases HL.out with ⟨rfl, rfl⟩ | ⟨h1, h2, h3, h4⟩
        · refine ⟨⟨by simp, by simp; omega, fun h => ?_, fun h => ?_⟩, by simp⟩
          · rw [Cf.dec_small m (by omega)]
          · rw [Cf.dec_big m (by omega) (by omega)]
        · have hm0 : 0 < m := hgo.elim id (fun h => absurd h h1)
          have h5 := h4 hm0
          have hlen := HDL.out n
          rw [← h5, List.length_append] at hlen
          have h6 := Cf.decF_pos 20 m
          have h6 : 0 < (Cf.dec m).length := h6
          refine ⟨⟨by simp, by simp; omega, fun h => ?_, fun h => ?_⟩, by simp; omega⟩
          · rw [← h5, Cf.dec_small m (by omega)]
            rfl
          · rw [← h5, Cf.dec_big m (by omega) (by omega), List.append_assoc]
            rfl
      have KEY := Lib.hid key
      clear key
      by_cases hm0 : 0 < m
      · go_wp2_with fail
        refine ⟨⟨m / 10, _, UInt8.ofNat (48 + m % 10) :: l, by omega, by go_num, rfl, ?_, Lib.hid KEY.out.2, Lib.hid (.inr KEY.out.1), hbr.alloc hbr.size _⟩, ?_⟩
        · show _ = _
          rw [← HNEW.out]
          rw [← Cf.digit_add m]
        · have e1 : ((⟨#[48 + UInt8.ofNat (m % 10)]⟩ : ByteArray) ++ b).size ≠ 0 := by rw [ByteArray.size_append]; show 1 + b.size ≠ 0; omega
          show (if _ = 0 then 1 else 0) + _ < (if b.size = 0 then 1 else 0) + _
          rw [if_neg e1]
          simp only [intOf]
          have hl1 : b.size = 0 → m = n ∨ m = 0 ∨ 0 < m := fun _ => by omega
          split <;> omega
      · have hl0 : l = [] := hgo.resolve_left hm0
        have he : b.toList.isEmpty = true := by rw [hbl, hl0]; rfl
        clear hbl
        have d0 : decide (0 < (m : Int)) = false := decide_eq_false (by omega)
        go_wp2_with fail
        refine ⟨⟨m / 10, _, UInt8.ofNat (48 + m % 10) :: l, by omega, by go_num, rfl, ?_, Lib.hid KEY.out.2, Lib.hid (.inr KEY.out.1), hbr.alloc hbr.size _⟩, ?_⟩
        · show _ = _
          rw [← HNEW.out]
          rw [← Cf.digit_add m]
        · have e1 : ((⟨#[48 + UInt8.ofNat (m % 10)]⟩ : ByteArray) ++ b).size ≠ 0 := by rw [ByteArray.size_append]; show 1 + b.size ≠ 0; omega
          have e2 : b.size = 0 := by rw [hbz, hl0]; rfl
          show (if _ = 0 then 1 else 0) + _ < (if b.size = 0 then 1 else 0) + _
          rw [if_neg e1, if_pos e2]
          simp only [intOf]
          omega
    · have hm0 : m = 0 := by omega
      have hl0 : l ≠ [] := fun h => hgo (.inr h)
      have he : b.toList.isEmpty = false := by
        rw [hbl]
        cases l with
        | nil => exact absurd rfl hl0
        | cons => rfl
      clear hbl
      have d0 : decide (0 < (m : Int)) = false := decide_eq_false (by omega)
      go_wp2_with fail
      go_ret
      rcases HL.out with ⟨h1, _⟩ | ⟨_, _, h3, _⟩
      · exact absurd h1 hl0
      · rw [HB.out, h3 hm0]
        exact ⟨rfl, hbr⟩

end Go.Proofs.YthfckdnennfnoaaGreatDoor
-- The document's Port and Conf: their sizes. By an AI agent. 
namespace Go.Proofs.YthfckdnennfnoaaGreatDoor
open Go.RowKit Go.WideShapes Go.Sort Grow
theorem RPsize : (Tryz.prog.info? 50).map (·.size) = some 39 := by kernel_rfl
theorem rpc_info {na tg ho li lk ra gr : Value} {psk : List UInt8} (h : psk.length = 32) : (Tryz.prog.info? 50).map (·.size) = some ((na :: tg :: ho :: li :: lk :: ra :: gr :: byteVals psk).toArray).size := by
  have e : ((na :: tg :: ho :: li :: lk :: ra :: gr :: byteVals psk).toArray).size = 39 := by simp [byteVals_length, h]
  rw [e]
  exact RPsize
theorem rzport_is : ((Tryz.prog.info? 50).bind fun i => i.zero.map (·.cells)) = some Cf.zport := by kernel_rfl
theorem Cf.rinfo_conf : (Tryz.prog.info? 25).map (·.size) = some 13 := by kernel_rfl
theorem Cf.info_rp : ∃ i z, Tryz.prog.info? 50 = some i ∧ i.zero = some z ∧ i.size = 39 ∧ i.bytes = 104 ∧ z.cells.size = 39 := by
  have h : (Tryz.prog.info? 50).map (fun i => (i.zero.map (·.cells.size), i.size, i.bytes)) = some (some 39, 39, 104) := by kernel_rfl
  obtain ⟨i, hi, h⟩ := Option.map_eq_some_iff.1 h
  simp only [Prod.mk.injEq] at h
  obtain ⟨z, hz, h18⟩ := Option.map_eq_some_iff.1 h.1
  exact ⟨i, z, hi, hz, h.2.1, h.2.2, h18⟩
end Go.Proofs.YthfckdnennfnoaaGreatDoor
-- Few: of a size that is looked at. By an AI agent. 
namespace Go.Proofs.YthfckdnennfnoaaGreatDoor
open Go.RowKit Go.WideShapes Go.Sort Grow
namespace Cf
/-- ports in a slice, of any size -/
def PIn0 (w : World) (b off : Nat) (L : List Pv) : Prop := (∀ i, i < L.length → ∀ j v, (pvc (L.getD i .zero))[j]? = some v → w.cell? ⟨b, off + i * 39 + j, none⟩ = some v) ∧ (0 < L.length → b < w.heap.size) ∧ (∀ p ∈ L, IntsAt w p.ta p.tags ∧ p.psk.length = 32)
def fewOk (L : List Pv) : Bool := decide (L.length ≤ 50) && L.all fun p => decide (p.tags.length ≤ 100)
theorem PIn0.full {w : World} {b off : Nat} {L : List Pv} (h : PIn0 w b off L) (hf : fewOk L = true) : PIn w b off L := by
  unfold fewOk at hf
  rw [Bool.and_eq_true, List.all_eq_true] at hf
  refine ⟨h.1, h.2.1, fun p hp => ⟨(h.2.2 p hp).1, ?_, (h.2.2 p hp).2⟩⟩
  have := of_decide_eq_true (hf.2 p hp)
  omega
theorem PIn0.after {w w' : World} {b off : Nat} {L : List Pv} (h : PIn0 w b off L) (hb : Below w.heap.size w w') : PIn0 w' b off L :=
  ⟨fun i hi j v hj => by rw [hb.cell (p := ⟨b, off + i * 39 + j, none⟩) (h.2.1 (by omega))]; exact h.1 i hi j v hj, fun h0 => Nat.lt_of_lt_of_le (h.2.1 h0) hb.size, fun p hp => ⟨(h.2.2 p hp).1.after hb, (h.2.2 p hp).2⟩⟩
def fewN (L : List Pv) : Int := if fewOk L then 1 else 0
theorem few_next {L : List Pv} {k : Nat} (hk : k < L.length) (h : (L.take k).all (fun p => decide (p.tags.length ≤ 100)) = true) (hp : (L.getD k .zero).tags.length ≤ 100) : (L.take (k + 1)).all (fun p => decide (p.tags.length ≤ 100)) = true := by
  rw [List.take_succ_eq_append_getElem hk, List.all_append, h]
  rw [List.getD_eq_getElem?_getD, List.getElem?_eq_getElem hk, Option.getD_some] at hp
  simp [hp]
theorem few_bad {L : List Pv} {k : Nat} (hk : k < L.length) (hp : 100 < (L.getD k .zero).tags.length) : fewN L = 0 := by
  unfold fewN fewOk
  rw [List.getD_eq_getElem?_getD, List.getElem?_eq_getElem hk, Option.getD_some] at hp
  have : L.all (fun p => decide (p.tags.length ≤ 100)) = false := by
    rw [List.all_eq_false]
    exact ⟨L[k], List.getElem_mem hk, by simp; omega⟩
  rw [this, Bool.and_false]
  rfl
end Cf
set_option maxRecDepth 20000 in
set_option maxHeartbeats 4000000 in
theorem few_any (x : Id8) (ma he de ag : Int) (b off cap : Nat) (L : List Cf.Pv) (w : World) (ao : Option Addr) (hao : ao = some ⟨b, off, none⟩ ∨ L = []) (hL : Cf.PIn0 w b off L) :
    Calls Tryz.prog 5 #[.agg #[.int .u8 ((x.f 0).toNat : Int), .int .u8 ((x.f 1).toNat : Int), .int .u8 ((x.f 2).toNat : Int), .int .u8 ((x.f 3).toNat : Int), .int .u8 ((x.f 4).toNat : Int), .int .u8 ((x.f 5).toNat : Int), .int .u8 ((x.f 6).toNat : Int), .int .u8 ((x.f 7).toNat : Int), .int .i64 ma, .int .i64 he, .int .i64 de, .int .i64 ag, .slice ao L.length cap]] w fun e w' => e = .returned (.int .i64 (Cf.fewN L)) ∧ Below w.heap.size w w' := by
  have HLL := Lib.hid hL
  clear hL
  by_cases h50 : 50 < L.length
  · have hF : Cf.fewN L = 0 := by unfold Cf.fewN Cf.fewOk; rw [decide_eq_false (by omega), Bool.false_and]; rfl
    have HF := Lib.hid hF
    have t1 : decide ((50 : Int) < (L.length : Int)) = true := decide_eq_true (by omega)
    have t2 : decide (50 < L.length) = true := decide_eq_true (by omega)
    clear hF h50
    go_enter Tryz.func5, Tryz.ntmps5
    go_upto_region 1 with fail
    have HX : Hid (RowIs (w.alloc (.cells #[.int .u8 ((x.f 0).toNat : Int), .int .u8 ((x.f 1).toNat : Int), .int .u8 ((x.f 2).toNat : Int), .int .u8 ((x.f 3).toNat : Int), .int .u8 ((x.f 4).toNat : Int), .int .u8 ((x.f 5).toNat : Int), .int .u8 ((x.f 6).toNat : Int), .int .u8 ((x.f 7).toNat : Int), .int .i64 ma, .int .i64 he, .int .i64 de, .int .i64 ag, .slice ao L.length cap] 25)) w.heap.size 25 #[.int .u8 ((x.f 0).toNat : Int), .int .u8 ((x.f 1).toNat : Int), .int .u8 ((x.f 2).toNat : Int), .int .u8 ((x.f 3).toNat : Int), .int .u8 ((x.f 4).toNat : Int), .int .u8 ((x.f 5).toNat : Int), .int .u8 ((x.f 6).toNat : Int), .int .u8 ((x.f 7).toNat : Int), .int .i64 ma, .int .i64 he, .int .i64 de, .int .i64 ag, .slice ao L.length cap]) := by show RowIs _ _ _ _; exact rowIs_new w _ _
    have hbx : Below w.heap.size w (w.alloc (.cells #[.int .u8 ((x.f 0).toNat : Int), .int .u8 ((x.f 1).toNat : Int), .int .u8 ((x.f 2).toNat : Int), .int .u8 ((x.f 3).toNat : Int), .int .u8 ((x.f 4).toNat : Int), .int .u8 ((x.f 5).toNat : Int), .int .u8 ((x.f 6).toNat : Int), .int .u8 ((x.f 7).toNat : Int), .int .i64 ma, .int .i64 he, .int .i64 de, .int .i64 ag, .slice ao L.length cap] 25)) := (Below.refl _ _).alloc (Nat.le_refl _) _
    generalize w.alloc (.cells #[.int .u8 ((x.f 0).toNat : Int), .int .u8 ((x.f 1).toNat : Int), .int .u8 ((x.f 2).toNat : Int), .int .u8 ((x.f 3).toNat : Int), .int .u8 ((x.f 4).toNat : Int), .int .u8 ((x.f 5).toNat : Int), .int .u8 ((x.f 6).toNat : Int), .int .u8 ((x.f 7).toNat : Int), .int .i64 ma, .int .i64 he, .int .i64 de, .int .i64 ag, .slice ao L.length cap] 25) = w1 at *
    have d12 : w1.cell? ⟨w.heap.size, 12, none⟩ = some (.slice ao L.length cap) := HX.out.cell 12
    go_wp2_with fail
    go_ret
    exact ⟨by rw [HF.out]; rfl, hbx⟩
  have t1 : decide ((50 : Int) < (L.length : Int)) = false := decide_eq_false (by omega)
  have t2 : decide (50 < L.length) = false := decide_eq_false (by omega)
  go_enter Tryz.func5, Tryz.ntmps5
  go_upto_region 1 with fail
  have HX : Hid (RowIs (w.alloc (.cells #[.int .u8 ((x.f 0).toNat : Int), .int .u8 ((x.f 1).toNat : Int), .int .u8 ((x.f 2).toNat : Int), .int .u8 ((x.f 3).toNat : Int), .int .u8 ((x.f 4).toNat : Int), .int .u8 ((x.f 5).toNat : Int), .int .u8 ((x.f 6).toNat : Int), .int .u8 ((x.f 7).toNat : Int), .int .i64 ma, .int .i64 he, .int .i64 de, .int .i64 ag, .slice ao L.length cap] 25)) w.heap.size 25 #[.int .u8 ((x.f 0).toNat : Int), .int .u8 ((x.f 1).toNat : Int), .int .u8 ((x.f 2).toNat : Int), .int .u8 ((x.f 3).toNat : Int), .int .u8 ((x.f 4).toNat : Int), .int .u8 ((x.f 5).toNat : Int), .int .u8 ((x.f 6).toNat : Int), .int .u8 ((x.f 7).toNat : Int), .int .i64 ma, .int .i64 he, .int .i64 de, .int .i64 ag, .slice ao L.length cap]) := by show RowIs _ _ _ _; exact rowIs_new w _ _
  have hbx : Below w.heap.size w (w.alloc (.cells #[.int .u8 ((x.f 0).toNat : Int), .int .u8 ((x.f 1).toNat : Int), .int .u8 ((x.f 2).toNat : Int), .int .u8 ((x.f 3).toNat : Int), .int .u8 ((x.f 4).toNat : Int), .int .u8 ((x.f 5).toNat : Int), .int .u8 ((x.f 6).toNat : Int), .int .u8 ((x.f 7).toNat : Int), .int .i64 ma, .int .i64 he, .int .i64 de, .int .i64 ag, .slice ao L.length cap] 25)) := (Below.refl _ _).alloc (Nat.le_refl _) _
  generalize w.alloc (.cells #[.int .u8 ((x.f 0).toNat : Int), .int .u8 ((x.f 1).toNat : Int), .int .u8 ((x.f 2).toNat : Int), .int .u8 ((x.f 3).toNat : Int), .int .u8 ((x.f 4).toNat : Int), .int .u8 ((x.f 5).toNat : Int), .int .u8 ((x.f 6).toNat : Int), .int .u8 ((x.f 7).toNat : Int), .int .i64 ma, .int .i64 he, .int .i64 de, .int .i64 ag, .slice ao L.length cap] 25) = w1 at *
  have d12 : w1.cell? ⟨w.heap.size, 12, none⟩ = some (.slice ao L.length cap) := HX.out.cell 12
  go_upto_region 4 with fail
  clear t1 t2
  go_loopw [3] (fun i wr => ∃ k : Nat, k ≤ L.length ∧ i = .int .i64 k ∧ Hid ((L.take k).all (fun p => decide (p.tags.length ≤ 100)) = true) ∧ w1 = wr) (fun i _ => L.length - (RowKit.intOf i).toNat)
  case atStart => exact ⟨0, Nat.zero_le _, rfl, rfl, rfl⟩
  case round =>
    obtain ⟨k, hk, rfl, HG, rfl⟩ := hrel
    by_cases hlt : k < L.length
    · obtain rfl : ao = some ⟨b, off, none⟩ := hao.resolve_right (fun e => by rw [e] at hlt; exact absurd hlt (Nat.not_lt_zero _))
      have HLr := HLL.out.after hbx
      have hE := HLr.1 k hlt
      have HAN := Lib.hid (fun h2 => Cf.few_next hlt HG.out h2)
      have HAB := Lib.hid (fun h2 => Cf.few_bad hlt h2)
      obtain ⟨p, hp⟩ : ∃ p, L.getD k .zero = p := ⟨_, rfl⟩
      rw [hp] at hE HAN HAB
      have c1 : w1.cell? ⟨b, off + k * 39 + 1, none⟩ = some (.slice p.ta p.tags.length p.tc) := hE 1 _ rfl
      clear hp hE HLr
      by_cases h100 : 100 < p.tags.length
      · have HN := Lib.hid (HAB.out h100)
        have t3 : decide ((100 : Int) < (p.tags.length : Int)) = true := decide_eq_true (by omega)
        have t4 : decide (100 < p.tags.length) = true := decide_eq_true (by omega)
        clear h100 HAN HAB HG
        go_wp2_with fail
        go_ret
        exact ⟨by rw [HN.out]; rfl, hbx⟩
      · have HN := Lib.hid (HAN.out (by omega))
        have t3 : decide ((100 : Int) < (p.tags.length : Int)) = false := decide_eq_false (by omega)
        have t4 : decide (100 < p.tags.length) = false := decide_eq_false (by omega)
        clear h100 HAN HAB HG
        go_wp2_with fail
        exact ⟨⟨k + 1, by omega, by go_num, HN, trivial⟩, by simp [RowKit.intOf]; omega⟩
    · obtain rfl : k = L.length := by omega
      have hF : Cf.fewN L = 1 := by
        unfold Cf.fewN Cf.fewOk
        have := HG.out
        rw [List.take_length] at this
        rw [this, decide_eq_true (by omega)]
        rfl
      have HF := Lib.hid hF
      clear hF HG
      go_wp2_with fail
      go_ret
      exact ⟨by rw [HF.out]; rfl, hbx⟩
end Go.Proofs.YthfckdnennfnoaaGreatDoor
-- causeyref23.split. By an AI agent. 
namespace Go.Proofs.YthfckdnennfnoaaGreatDoor
open Go.RowKit Go.WideShapes Go.Sort Grow
namespace Cf
theorem parts_ne (c : UInt8) (l : List UInt8) : ∃ ps p, Oct.parts c l = ps ++ [p] := by
  have h : Oct.parts c l ≠ [] := by
    cases l with
    | nil => simp [Oct.parts]
    | cons a l =>
      unfold Oct.parts
      by_cases e : a = c
      · rw [if_pos e]; simp
      · rw [if_neg e]
        cases Oct.parts c l <;> simp
  exact ⟨_, _, (List.dropLast_concat_getLast h).symm⟩
theorem parts_snoc (c a : UInt8) : ∀ (l : List UInt8) (ps : List (List UInt8)) (p : List UInt8), Oct.parts c l = ps ++ [p] → Oct.parts c (l ++ [a]) = if a = c then ps ++ [p] ++ [[]] else ps ++ [p ++ [a]]
  | [], ps, p, h => by
    have h : [[]] = ps ++ [p] := h
    have hl := congrArg List.length h
    simp at hl
    subst hl
    simp at h
    subst h
    show Oct.parts c [a] = _
    unfold Oct.parts
    by_cases e : a = c
    · rw [if_pos e, if_pos e]; rfl
    · rw [if_neg e, if_neg e]; rfl
  | x :: l, ps, p, h => by
    obtain ⟨qs, q, hq⟩ := parts_ne c l
    have ih := parts_snoc c a l qs q hq
    unfold Oct.parts at h
    show Oct.parts c (x :: (l ++ [a])) = _
    rw [Oct.parts]
    by_cases e : x = c
    · rw [if_pos e, hq] at h
      rw [if_pos e, ih]
      have h : ([] :: qs) ++ [q] = ps ++ [p] := h
      obtain ⟨h1, h2⟩ := List.append_inj' h rfl
      simp at h2
      subst h1 h2
      by_cases e2 : a = c
      · rw [if_pos e2, if_pos e2]; rfl
      · rw [if_neg e2, if_neg e2]; rfl
    · rw [if_neg e, hq] at h
      rw [if_neg e, ih]
      cases qs with
      | nil =>
        have h : [] ++ [x :: q] = ps ++ [p] := h
        obtain ⟨h1, h2⟩ := List.append_inj' h rfl
        simp at h2
        subst h1 h2
        by_cases e2 : a = c
        · rw [if_pos e2, if_pos e2]; rfl
        · rw [if_neg e2, if_neg e2]; rfl
      | cons r rs =>
        have h : ((x :: r) :: rs) ++ [q] = ps ++ [p] := h
        obtain ⟨h1, h2⟩ := List.append_inj' h rfl
        simp at h2
        subst h1 h2
        by_cases e2 : a = c
        · rw [if_pos e2, if_pos e2]; rfl
        · rw [if_neg e2, if_neg e2]; rfl
theorem parts_count (c : UInt8) : ∀ l, (Oct.parts c l).length ≤ l.length + 1
  | [] => by simp [Oct.parts]
  | a :: l => by
    have ih := parts_count c l
    unfold Oct.parts
    by_cases e : a = c
    · rw [if_pos e]; simp; omega
    · rw [if_neg e]
      cases h : Oct.parts c l with
      | nil => simp
      | cons p ps => rw [h] at ih; simp at ih ⊢; omega
theorem owns_cur {w : World} {base : Nat} {e : TypeId} {g n cap : Nat} {xs : List Value} (h : w.ownsRow base e 1 (.slice (some ⟨g, 0, none⟩) n cap) n xs) : ∃ cur, RowIs w g e cur ∧ n ≤ cur.size ∧ base ≤ g ∧ ∀ (w' : World) (j : Nat) (v : Value), j < n → RowIs w' g e (cur.setIfInBounds j v) → w'.ownsRow base e 1 (.slice (some ⟨g, 0, none⟩) n cap) n (xs.set j v) := by
  rcases h.2 with ⟨h', _⟩ | ⟨g', cap', cur, h', hb, hg, hnc, hcm, hcs, htake⟩
  · simp at h'
  · simp only [Value.slice.injEq, Option.some.injEq, Addr.mk.injEq, and_true, true_and] at h'
    obtain ⟨rfl, rfl⟩ := h'
    refine ⟨cur, hg, by omega, hb, fun w' j v hj hr => ⟨by rw [List.length_set]; exact h.1, .inr ⟨_, _, _, rfl, hb, hr, hnc, hcm, by simpa using hcs, ?_⟩⟩⟩
    rw [← htake]
    simp [List.take_set]
/-- texts as lists -/
def tl (xs : List ByteArray) : List (List UInt8) := xs.map (·.data.toList)
theorem tl_inj {xs : List ByteArray} {L : List (List UInt8)} (h : tl xs = L) : xs = L.map fun l => (⟨l.toArray⟩ : ByteArray) := by
  rw [← h]
  unfold tl
  rw [List.map_map]
  have : ((fun l : List UInt8 => (⟨l.toArray⟩ : ByteArray)) ∘ fun x : ByteArray => x.data.toList) = id := by funext x; rfl
  rw [this, List.map_id]
end Cf
set_option maxRecDepth 20000 in
set_option maxHeartbeats 4000000 in
theorem rsplit_any (s : ByteArray) (c : UInt8) (hs : s.size ≤ 100000) (w : World) :
    Calls Tryz.prog 17 #[.string s, .int .u8 (c.toNat : Int)] w fun e w' => (∃ g cap, e = .returned (.slice (some ⟨g, 0, none⟩) (Oct.pieces c s).length cap) ∧ w'.ownsRow w.heap.size 9 1 (.slice (some ⟨g, 0, none⟩) (Oct.pieces c s).length cap) (Oct.pieces c s).length (Strs.all (Oct.pieces c s))) ∧ Below w.heap.size w w' := by
  obtain ⟨ti, tz, hi, hz, hz1, hz2, hz3⟩ := info_str
  have HTI := Lib.hid hi
  have HTZ := Lib.hid hz
  have hlz : s.data.toList.length = s.size := by simp
  clear hi hz
  go_enter Tryz.func17, Tryz.ntmps17
  go_upto_region 2 with fail
  have HO1 : Hid ((w.alloc (.cells #[.string ⟨#[]⟩] 9)).ownsRow w.heap.size 9 1 (.slice (some ⟨w.heap.size, 0, none⟩) 1 1) 1 (Strs.all [⟨#[]⟩])) := World.ownsRow_lit w #[.string ⟨#[]⟩] 1 (Nat.le_refl _) (by decide) rfl
  have hb1 : Below w.heap.size w (w.alloc (.cells #[.string ⟨#[]⟩] 9)) := (Below.refl _ _).alloc (Nat.le_refl _) _
  generalize w.alloc (.cells #[.string ⟨#[]⟩] 9) = w1 at *
  go_upto_region 3 with fail
  go_loopw [5, 6] (fun v5 i wr => ∃ (k : Nat) (xs : List ByteArray) (x : ByteArray) (g cap : Nat), k ≤ s.size ∧ i = .int .i64 k ∧ v5 = .slice (some ⟨g, 0, none⟩) (xs.length + 1) cap ∧ Hid (wr.ownsRow w.heap.size 9 1 (.slice (some ⟨g, 0, none⟩) (xs.length + 1) cap) (xs.length + 1) (Strs.all (xs ++ [x]))) ∧ Hid (Cf.tl (xs ++ [x]) = Oct.parts c (s.data.toList.take k)) ∧ Hid (Below w.heap.size w wr)) (fun _ i _ => s.size - (RowKit.intOf i).toNat)
  case atStart => exact ⟨0, [], ⟨#[]⟩, w.heap.size, 1, Nat.zero_le _, rfl, rfl, HO1, rfl, hb1⟩
  case round =>
    rename World => wr
    clear HO1 hb1
    obtain ⟨k, xs, x, g, cap, hk, rfl, rfl, HO, HP, HBR⟩ := hrel
    have hszr := HBR.out.size
    by_cases hlt : k < s.size
    · have hix : ∀ w, (Instr.index 9 (.string s) (.int .i64 (k : Int))).run Tryz.prog w = .ok (.int .u8 (s[k].toNat : Int)) w := fun w => by
        have h := run_index_string (P := Tryz.prog) (w := w) 9 s .i64 (k : Int) Tryz.underlying9
        rw [h]
        simp [hlt]
      have hgd : s.data.toList[k]'(by omega) = s[k] := by simp [ByteArray.getElem_eq_getElem_data]
      have hcnt : xs.length + 1 ≤ k + 1 := by
        have h1 := congrArg List.length HP.out
        have h2 := Cf.parts_count c (s.data.toList.take k)
        unfold Cf.tl at h1
        simp only [List.length_map, List.length_append, List.length_singleton] at h1
        rw [List.length_take] at h2
        omega
      have hxs : x.size ≤ k := by
        have h1 := Cf.parts_small c (s.data.toList.take k) x.data.toList (by rw [← HP.out]; unfold Cf.tl; simp)
        rw [List.length_take] at h1
        have h2 : x.data.toList.length = x.size := by simp
        omega
      have hsn := Cf.parts_snoc c s[k] (s.data.toList.take k) (Cf.tl xs) x.data.toList (by rw [← HP.out]; unfold Cf.tl; simp)
      rw [← hgd, ← List.take_succ_eq_append_getElem (by omega), hgd] at hsn
      have HSN := Lib.hid hsn
      have hex : (s.extract k (k + 1)).data.toList = [s[k]] := by
        rw [← hgd]
        simp only [ByteArray.data_extract, Array.toList_extract]
        rw [List.extract_eq_take_drop]
        have : k + 1 - k = 1 := by omega
        rw [this, List.drop_eq_getElem_cons (by omega)]
        rfl
      have HEX := Lib.hid hex
      clear hsn hex hgd
      generalize s[k] = a at *
      by_cases hc : a = c
      · have hq : ((a.toNat : Int) == (c.toNat : Int)) = true := by subst hc; exact beq_self_eq_true _
        have HPN : Hid (Cf.tl ((xs ++ [x]) ++ [⟨#[]⟩]) = Oct.parts c (s.data.toList.take (k + 1))) := by
          show _ = _
          rw [HSN.out, if_pos hc]
          unfold Cf.tl
          simp
        clear hc HSN HEX
        go_wp2_with (at_builtin; refine wpList_append_own _ rfl (.tmp 19) (.tmp 20) 51 rfl w.heap.size 9 ti tz 1 16 Tryz.underlying51 HTI.out HTZ.out hz1 hz2 hz3 (by decide) _ (xs.length + 1) _ rfl (World.ownsRow.alloc HO.out _) ⟨wr.heap.size, 0, none⟩ 1 1 [.string ⟨#[]⟩] rfl rfl (cell_one_new _ _ _) (by simp [Value.oneCell']) ?d2 ?d3 ?d4 ?_)
        case d2 => simp [maxLen]; omega
        case d3 => omega
        case d4 => simp; omega
        intro v' w' ho hg _
        have HO' := ho
        rw [← Strs.all_snoc] at HO'
        obtain ⟨g', cap', rfl⟩ := ownsRow_succ HO'
        have HO2 := Lib.hid HO'
        have HB2 : Hid (Below w.heap.size w w') := HBR.out.trans (((Below.refl _ _).alloc hszr _).grown hg (by simp; omega) (fun j e => (HO.out.lt j e).1))
        clear ho hg HO HO' HBR hix
        go_wp2_with fail
        exact ⟨⟨k + 1, xs ++ [x], ⟨#[]⟩, g', cap', by omega, by go_num, by rw [List.length_append]; rfl, by rw [List.length_append]; exact HO2, HPN, HB2⟩, by simp [RowKit.intOf]; omega⟩
      · have hq : ((a.toNat : Int) == (c.toNat : Int)) = false := beq_eq_false_iff_ne.2 (fun h => hc (UInt8.toNat_inj.1 (by omega)))
        have hcx : wr.cell? ⟨g, xs.length, none⟩ = some (.string x) := by
          rw [World.ownsRow.cellAt HO.out xs.length (by omega)]
          unfold Strs.all
          simp
        obtain ⟨cur, hrow, hcn, hgb, hset⟩ := Cf.owns_cur HO.out
        have HROW := Lib.hid hrow
        have HSET := Lib.hid hset
        have kx := cell_regrown hcx
        have hs1 : ∀ w, (Instr.slice 9 (.string s) (some (.int .i64 (k : Int))) (some (.int .i64 ((k : Int) + 1))) none).run Tryz.prog w = .ok (.string (s.extract k (k + 1))) w := fun w => by
          have h := run_slice_string (P := Tryz.prog) (w := w) 9 s .i64 .i64 (k : Int) ((k : Int) + 1) Tryz.underlying9 (by omega) (by omega) (by omega)
          simpa using h
        obtain ⟨u, hu⟩ : ∃ u, s.extract k (k + 1) = u := ⟨_, rfl⟩
        rw [hu] at hs1 HEX
        have huz : u.size = 1 := by
          have := congrArg List.length HEX.out
          simpa using this
        have HPN : Hid (Cf.tl (xs ++ [x ++ u]) = Oct.parts c (s.data.toList.take (k + 1))) := by
          show _ = _
          rw [HSN.out, if_neg hc]
          unfold Cf.tl
          rw [List.map_append, List.map_singleton, ByteArray.data_append, Array.toList_append, HEX.out]
        have hw1 : IntKind.i64.wrap (xs.length : Int) = (xs.length : Int) := IntWalk.i64_in _ (by omega)
        have hw2 : IntKind.i64.wrap ((k : Int) + 1) = (k : Int) + 1 := IntWalk.i64_in _ (by omega)
        clear hu hc HSN hrow hset hcx HO HEX HP
        go_upto_region 7 with fail
        refine wp_region_mix 16 (by kernel_rfl) (by kernel_rfl) (by kernel_rfl) ?_
        (refine mix_step (by kernel_rfl) (by kernel_rfl) (fun K hK => ?_); go_simp; (try (simp only [↓IntWalk.iteOmega]; go_simp)); (first | (refine hK _ ?_; clear hK K) | (apply Exists.intro; refine ⟨fun _ => ?_, hK _ ?_⟩; (first | fail); clear hK K)))
        (refine mix_step (by kernel_rfl) (by kernel_rfl) (fun K hK => ?_); go_simp; (try (simp only [↓IntWalk.iteOmega]; go_simp)); (first | (refine hK _ ?_; clear hK K) | (apply Exists.intro; refine ⟨fun _ => ?_, hK _ ?_⟩; (first | fail); clear hK K)))
        (refine mix_step (by kernel_rfl) (by kernel_rfl) (fun K hK => ?_); go_simp; (try (simp only [↓IntWalk.iteOmega]; go_simp)); (first | (refine hK _ ?_; clear hK K) | (apply Exists.intro; refine ⟨fun _ => ?_, hK _ ?_⟩; (first | fail); clear hK K)))
        (refine mix_step (by kernel_rfl) (by kernel_rfl) (fun K hK => ?_); go_simp; (try (simp only [↓IntWalk.iteOmega]; go_simp)); (first | (refine hK _ ?_; clear hK K) | (apply Exists.intro; refine ⟨fun _ => ?_, hK _ ?_⟩; (first | fail); clear hK K)))
        (refine mix_step (by kernel_rfl) (by kernel_rfl) (fun K hK => ?_); go_simp; (try (simp only [↓IntWalk.iteOmega]; go_simp)); (first | (refine hK _ ?_; clear hK K) | (apply Exists.intro; refine ⟨fun _ => ?_, hK _ ?_⟩; (first | fail); clear hK K)))
        (refine mix_step (by kernel_rfl) (by kernel_rfl) (fun K hK => ?_); go_simp; (try (simp only [↓IntWalk.iteOmega]; go_simp)); (first | (refine hK _ ?_; clear hK K) | (apply Exists.intro; refine ⟨fun _ => ?_, hK _ ?_⟩; (first | fail); clear hK K)))
        (refine mix_step (by kernel_rfl) (by kernel_rfl) (fun K hK => ?_); go_simp; (try (simp only [↓IntWalk.iteOmega]; go_simp)); (first | (refine hK _ ?_; clear hK K) | (apply Exists.intro; refine ⟨fun _ => ?_, hK _ ?_⟩; (first | fail); clear hK K)))
        (refine mix_step (by kernel_rfl) (by kernel_rfl) (fun K hK => ?_); go_simp; (try (simp only [↓IntWalk.iteOmega]; go_simp)); (first | (refine hK _ ?_; clear hK K) | (apply Exists.intro; refine ⟨fun _ => ?_, hK _ ?_⟩; (first | fail); clear hK K)))
        (refine mix_step (by kernel_rfl) (by kernel_rfl) (fun K hK => ?_); go_simp; (try (simp only [↓IntWalk.iteOmega]; go_simp)); (first | (refine hK _ ?_; clear hK K) | (apply Exists.intro; refine ⟨fun _ => ?_, hK _ ?_⟩; (first | fail); clear hK K)))
        (refine mix_step (by kernel_rfl) (by kernel_rfl) (fun K hK => ?_); go_simp; (try (simp only [↓IntWalk.iteOmega]; go_simp)); (first | (refine hK _ ?_; clear hK K) | (apply Exists.intro; refine ⟨fun _ => ?_, hK _ ?_⟩; (first | fail); clear hK K)))
        (refine mix_step (by kernel_rfl) (by kernel_rfl) (fun K hK => ?_); go_simp; (try (simp only [↓IntWalk.iteOmega]; go_simp)); (first | (refine hK _ ?_; clear hK K) | (apply Exists.intro; refine ⟨fun _ => ?_, hK _ ?_⟩; (first | fail); clear hK K)))
        (refine mix_step (by kernel_rfl) (by kernel_rfl) (fun K hK => ?_); go_simp; (try (simp only [↓IntWalk.iteOmega]; go_simp)); (first | (refine hK _ ?_; clear hK K) | (apply Exists.intro; refine ⟨fun _ => ?_, hK _ ?_⟩; (first | fail); clear hK K)))
        (refine mix_step (by kernel_rfl) (by kernel_rfl) (fun K hK => ?_); go_simp; (try (simp only [↓IntWalk.iteOmega]; go_simp)); (first | (refine hK _ ?_; clear hK K) | (apply Exists.intro; refine ⟨fun _ => ?_, hK _ ?_⟩; (first | fail); clear hK K)))
        (refine mix_step (by kernel_rfl) (by kernel_rfl) (fun K hK => ?_); go_simp; (try (simp only [↓IntWalk.iteOmega]; go_simp)); (first | (refine hK _ ?_; clear hK K) | (apply Exists.intro; refine ⟨fun _ => ?_, hK _ ?_⟩; (first | fail); clear hK K)))
        (refine mix_step (by kernel_rfl) (by kernel_rfl) (fun K hK => ?_); go_simp; (try (simp only [↓IntWalk.iteOmega]; go_simp)); (first | (refine hK _ ?_; clear hK K) | (apply Exists.intro; refine ⟨fun _ => ?_, hK _ ?_⟩; (first | fail); clear hK K)))
        (refine mix_step (by kernel_rfl) (by kernel_rfl) (fun K hK => ?_); go_simp; (try (simp only [↓IntWalk.iteOmega]; go_simp)); (first | (refine hK _ ?_; clear hK K) | (apply Exists.intro; refine ⟨fun _ => ?_, hK _ ?_⟩; (first | fail); clear hK K)))
        refine mix_nil ?_
        rintro ⟨dq, osq⟩
        have hbq := below_regrown wr dq osq
        have HROW2 := Lib.hid (HROW.out.kept hbq)
        have HBR2 := Lib.hid (HBR.out.trans (hbq.mono hszr))
        refine (show wpList _ _ _ _ _ _ from ?_)
        simp only [List.drop, Act.put, List.setIfInBounds_toArray, List.set]
        clear hbq kx HROW HBR hs1 hw1 hix
        generalize grow (redrawn wr dq) osq = w4 at *
        have hw1 : IntKind.i64.wrap (xs.length : Int) = (xs.length : Int) := IntWalk.i64_in _ (by omega)
        go_wp2_with ((with_reducible refine at_store 9 (.tmp 38) (.tmp 37) ?_); refine wpList_store_cell rfl 9 (.tmp 38) (.tmp 37) rfl g xs.length (.string (x ++ u)) rfl rfl 9 _ HROW2.out (by omega) (by kernel_rfl) rfl w.heap.size hgb ?_)
        intro w5 hK hO hsz hb
        have HO5 := Lib.hid (HSET.out w5 xs.length (.string (x ++ u)) (by omega) hK)
        have HB5 := Lib.hid (HBR2.out.trans hb)
        clear hK hO hsz hb HROW2 HBR2
        rw [show (Strs.all (xs ++ [x])).set xs.length (.string (x ++ u)) = Strs.all (xs ++ [x ++ u]) from by unfold Strs.all; simp [List.set_append_right]] at HO5
        go_wp2_with fail
        exact ⟨⟨k + 1, xs, x ++ u, g, cap, by omega, by go_num, rfl, HO5, HPN, HB5⟩, by simp [RowKit.intOf]; omega⟩
    · obtain rfl : k = s.size := by omega
      have hxx := Cf.tl_inj HP.out
      rw [List.take_of_length_le (by omega)] at hxx
      have hpc : xs ++ [x] = Oct.pieces c s := hxx
      have hpl : (Oct.pieces c s).length = xs.length + 1 := by rw [← hpc]; simp
      have HFI := HO.out
      have hbF := HBR.out
      rw [hpc] at HFI
      rw [← hpl] at HFI ⊢
      have HFI := Lib.hid HFI
      clear hxx hpc hpl HO HP HBR
      go_wp2_with fail
      go_ret
      exact ⟨⟨g, cap, rfl, HFI.out⟩, hbF⟩
namespace Cf
theorem pieces_some (c : UInt8) (s : ByteArray) : 0 < (Oct.pieces c s).length := by
  unfold Oct.pieces
  obtain ⟨ps, p, h⟩ := parts_ne c s.data.toList
  rw [List.length_map, h]
  simp
theorem pieces_le (c : UInt8) (s : ByteArray) : ∀ x ∈ Oct.pieces c s, x.size ≤ s.size := fun x hx => by
  unfold Oct.pieces at hx
  obtain ⟨l, hl, rfl⟩ := List.mem_map.1 hx
  have := parts_small c _ l hl
  have e : s.data.toList.length = s.size := by simp
  show l.toArray.size ≤ _
  rw [List.size_toArray]
  omega
end Cf
theorem rsplit_at (s : ByteArray) (c : UInt8) (hs : s.size ≤ 100000) (w : World) :
    Calls Tryz.prog 17 #[.string s, .int .u8 (c.toNat : Int)] w fun e w' => (∃ g cap, e = .returned (.slice (some ⟨g, 0, none⟩) (Oct.pieces c s).length cap) ∧ (Oct.pieces c s).length ≤ cap ∧ w.heap.size ≤ g ∧ Strs.At w' (some ⟨g, 0, none⟩) (Oct.pieces c s)) ∧ Below w.heap.size w w' := by
  refine (rsplit_any s c hs w).mono ?_
  rintro e w' ⟨⟨g, cap, rfl, ho⟩, hb⟩
  refine ⟨⟨g, cap, rfl, ?_⟩, hb⟩
  obtain ⟨ao, cp, hv, h1, _, hat⟩ := Strs.at_of_owns ho rfl
  simp only [Value.slice.injEq] at hv
  obtain ⟨rfl, _, rfl⟩ := hv
  exact ⟨h1, (ho.lt g rfl).1, hat⟩
end Go.Proofs.YthfckdnennfnoaaGreatDoor
-- causeyref23: digits, Number, numbers. By an AI agent. 
namespace Go.Proofs.YthfckdnennfnoaaGreatDoor
open Go.RowKit Go.WideShapes Go.Sort Grow
namespace Cf
def isHex (c : UInt8) : Bool := decide (48 ≤ c.toNat ∧ c.toNat ≤ 57) || decide (97 ≤ c.toNat ∧ c.toNat ≤ 102)
theorem hexV_all : ∀ n, n < 256 → hexV (UInt8.ofNat n) = if 48 ≤ n ∧ n ≤ 57 then (n : Int) - 48 else if 97 ≤ n ∧ n ≤ 102 then (n : Int) - 87 else -1 := by decide +kernel
theorem hexV_val (c : UInt8) : hexV c = if 48 ≤ c.toNat ∧ c.toNat ≤ 57 then (c.toNat : Int) - 48 else if 97 ≤ c.toNat ∧ c.toNat ≤ 102 then (c.toNat : Int) - 87 else -1 := by
  have h := hexV_all c.toNat c.toNat_lt
  rwa [UInt8.ofNat_toNat] at h
theorem isHex_iff (c : UInt8) : isHex c = decide (0 ≤ hexV c) := by
  rw [hexV_val, Bool.eq_iff_iff]
  unfold isHex
  simp only [Bool.or_eq_true, decide_eq_true_eq]
  split
  · omega
  · split <;> omega
theorem bytesOf_hex (l : List UInt8) (n : Nat) : (bytesOf l n).isSome = (l.all isHex && decide (l.length = 2 * n)) := by
  unfold bytesOf
  by_cases hl : l.length = 2 * n
  · have key : ∀ (n : Nat) (l : List UInt8), l.length = 2 * n → (List.range n).all (goodAt l) = l.all isHex := by
      intro n
      induction n with
      | zero => intro l h; rw [show l = [] from List.eq_nil_of_length_eq_zero (by omega)]; rfl
      | succ n ih =>
        intro l h
        match l, h with
        | a :: b :: l, h =>
          rw [List.range_succ_eq_map, List.all_cons, List.all_map, List.all_cons, List.all_cons, ← ih l (by simp at h; omega), isHex_iff, isHex_iff, ← Bool.and_assoc]
          rfl
    rw [decide_eq_true hl, Bool.and_true, ← key n l hl]
    cases h : (List.range n).all (goodAt l) with
    | true => rw [if_pos ⟨hl, rfl⟩]; rfl
    | false => rw [if_neg (fun hc => by cases hc.2)]; rfl
  · rw [if_neg (fun hc => hl hc.1), decide_eq_false hl, Bool.and_false]
    rfl
theorem all_next8 {s : ByteArray} {k : Nat} (h : k < s.size) (ha : (s.data.toList.take k).all isHex = true) (hx : isHex s[k] = true) : (s.data.toList.take (k + 1)).all isHex = true := by
  have hlz : s.data.toList.length = s.size := by simp
  have hgd : s.data.toList[k]'(by omega) = s[k] := by simp [ByteArray.getElem_eq_getElem_data]
  rw [List.take_succ_eq_append_getElem (by omega), List.all_append, ha, hgd]
  simp [hx]
theorem all_bad8 {s : ByteArray} {k : Nat} (h : k < s.size) (hx : isHex s[k] = false) : s.data.toList.all isHex = false := by
  rw [List.all_eq_false]
  exact ⟨s[k], by rw [ByteArray.getElem_eq_getElem_data]; simp, by rw [hx]; decide⟩
def RNumAns (l : List UInt8) (e : Ending) : Prop := match numOf l with
  | some v => e = .returned (.tuple #[.int .i64 v, .bool true])
  | none => ∃ x : Int, e = .returned (.tuple #[.int .i64 x, .bool false])
theorem rnumAns_no {l : List UInt8} (h : numOf l = none) (x : Int) : RNumAns l (.returned (.tuple #[.int .i64 x, .bool false])) := by unfold RNumAns; rw [h]; exact ⟨x, rfl⟩
theorem rnumAns_yes {l : List UInt8} {v : Nat} (h : numOf l = some v) : RNumAns l (.returned (.tuple #[.int .i64 v, .bool true])) := by unfold RNumAns; rw [h]
end Cf
set_option maxRecDepth 20000 in
set_option maxHeartbeats 4000000 in
theorem rdigits_any (s : ByteArray) (n : Nat) (hs : s.size ≤ 100000) (hn : n ≤ 1000) (w : World) :
    Calls Tryz.prog 19 #[.string s, .int .i64 (n : Int)] w fun e w' => e = .returned (.bool (s.data.toList.all Cf.isHex && decide (s.data.toList.length = n))) ∧ Below w.heap.size w w' := by
  have hlz : s.data.toList.length = s.size := by simp
  go_enter Tryz.func19, Tryz.ntmps19
  go_upto_region 2 with fail
  go_loopw [5] (fun i wr => ∃ k : Nat, k ≤ s.size ∧ i = .int .i64 k ∧ Hid ((s.data.toList.take k).all Cf.isHex = true) ∧ Hid (Below w.heap.size w wr)) (fun i _ => s.size - (RowKit.intOf i).toNat)
  case atStart => exact ⟨0, Nat.zero_le _, rfl, rfl, Below.refl _ _⟩
  case round =>
    rename World => wr
    obtain ⟨k, hk, rfl, HAL, HBR⟩ := hrel
    have hbF := HBR.out
    by_cases hlt : k < s.size
    · have HNO := Lib.hid (Cf.all_bad8 hlt)
      have HYE := Lib.hid (Cf.all_next8 hlt HAL.out)
      have hix : ∀ w, (Instr.index 9 (.string s) (.int .i64 (k : Int))).run Tryz.prog w = .ok (.int .u8 (s[k].toNat : Int)) w := fun w => by
        have h := run_index_string (P := Tryz.prog) (w := w) 9 s .i64 (k : Int) Tryz.underlying9
        rw [h]
        simp [hlt]
      generalize s[k] = a at *
      by_cases h1 : a.toNat < 48
      · have d1 : decide ((48 : Int) ≤ (a.toNat : Int)) = false := decide_eq_false (by omega)
        have d3 : decide ((97 : Int) ≤ (a.toNat : Int)) = false := decide_eq_false (by omega)
        have HN : Hid (s.data.toList.all Cf.isHex = false) := HNO.out (by unfold Cf.isHex; simp only [Bool.or_eq_false_iff, decide_eq_false_iff_not]; omega)
        clear HNO HYE HAL
        go_wp2_with fail
        go_ret
        exact ⟨by rw [HN.out]; rfl, hbF⟩
      · by_cases h2 : a.toNat ≤ 57
        · have d1 : decide ((48 : Int) ≤ (a.toNat : Int)) = true := decide_eq_true (by omega)
          have d2 : decide ((a.toNat : Int) ≤ 57) = true := decide_eq_true (by omega)
          have HY := Lib.hid (HYE.out (by unfold Cf.isHex; simp only [Bool.or_eq_true, decide_eq_true_eq]; omega))
          clear HNO HYE HAL
          go_wp2_with fail
          exact ⟨⟨k + 1, by omega, by go_num, HY, HBR⟩, by simp [RowKit.intOf]; omega⟩
        · by_cases h3 : a.toNat < 97
          · have d1 : decide ((48 : Int) ≤ (a.toNat : Int)) = true := decide_eq_true (by omega)
            have d2 : decide ((a.toNat : Int) ≤ 57) = false := decide_eq_false (by omega)
            have d3 : decide ((97 : Int) ≤ (a.toNat : Int)) = false := decide_eq_false (by omega)
            have HN : Hid (s.data.toList.all Cf.isHex = false) := HNO.out (by unfold Cf.isHex; simp only [Bool.or_eq_false_iff, decide_eq_false_iff_not]; omega)
            clear HNO HYE HAL
            go_wp2_with fail
            go_ret
            exact ⟨by rw [HN.out]; rfl, hbF⟩
          · by_cases h4 : a.toNat ≤ 102
            · have d1 : decide ((48 : Int) ≤ (a.toNat : Int)) = true := decide_eq_true (by omega)
              have d2 : decide ((a.toNat : Int) ≤ 57) = false := decide_eq_false (by omega)
              have d3 : decide ((97 : Int) ≤ (a.toNat : Int)) = true := decide_eq_true (by omega)
              have d4 : decide ((a.toNat : Int) ≤ 102) = true := decide_eq_true (by omega)
              have HY := Lib.hid (HYE.out (by unfold Cf.isHex; simp only [Bool.or_eq_true, decide_eq_true_eq]; omega))
              clear HNO HYE HAL
              go_wp2_with fail
              exact ⟨⟨k + 1, by omega, by go_num, HY, HBR⟩, by simp [RowKit.intOf]; omega⟩
            · have d1 : decide ((48 : Int) ≤ (a.toNat : Int)) = true := decide_eq_true (by omega)
              have d2 : decide ((a.toNat : Int) ≤ 57) = false := decide_eq_false (by omega)
              have d3 : decide ((97 : Int) ≤ (a.toNat : Int)) = true := decide_eq_true (by omega)
              have d4 : decide ((a.toNat : Int) ≤ 102) = false := decide_eq_false (by omega)
              have HN : Hid (s.data.toList.all Cf.isHex = false) := HNO.out (by unfold Cf.isHex; simp only [Bool.or_eq_false_iff, decide_eq_false_iff_not]; omega)
              clear HNO HYE HAL
              go_wp2_with fail
              go_ret
              exact ⟨by rw [HN.out]; rfl, hbF⟩
    · obtain rfl : k = s.size := by omega
      have hal := HAL.out
      rw [List.take_of_length_le (by omega)] at hal
      have HF := Lib.hid hal
      clear hal HAL
      obtain ⟨q, hq⟩ : ∃ q, ((s.size : Int) == (n : Int)) = q := ⟨_, rfl⟩
      have HQ : Hid (decide (s.data.toList.length = n) = q) := by
        show _ = _
        rw [← hq, hlz, Bool.eq_iff_iff, decide_eq_true_eq, beq_iff_eq]
        omega
      go_wp2_with fail
      go_ret
      exact ⟨by rw [HF.out, HQ.out]; rfl, hbF⟩
set_option maxRecDepth 20000 in
set_option maxHeartbeats 4000000 in
theorem rnumber_any (s : ByteArray) (w : World) : Calls Tryz.prog 41 #[.string s] w fun e w' => Cf.RNumAns s.data.toList e ∧ Below w.heap.size w w' := by
  have hlz : s.data.toList.length = s.size := by simp
  by_cases hz : s.size < 1
  · have HN := Lib.hid (Cf.rnumAns_no (Cf.numOf_len (l := s.data.toList) (.inl (by omega))) 0)
    have g1 : decide ((s.size : Int) < 1) = true := decide_eq_true (by omega)
    clear hz
    go_enter Tryz.func41, Tryz.ntmps41
    go_wp2_with fail
    go_ret2
    exact ⟨HN.out, Below.refl _ _⟩
  by_cases hbig : 10 < s.size
  · have HN := Lib.hid (Cf.rnumAns_no (Cf.numOf_len (l := s.data.toList) (.inr (by omega))) 0)
    have g1 : decide ((s.size : Int) < 1) = false := decide_eq_false (by omega)
    have g2 : decide ((10 : Int) < (s.size : Int)) = true := decide_eq_true (by omega)
    clear hz hbig
    go_enter Tryz.func41, Tryz.ntmps41
    go_wp2_with fail
    go_ret2
    exact ⟨HN.out, Below.refl _ _⟩
  have g1 : decide ((s.size : Int) < 1) = false := decide_eq_false (by omega)
  have g2 : decide ((10 : Int) < (s.size : Int)) = false := decide_eq_false (by omega)
  go_enter Tryz.func41, Tryz.ntmps41
  go_upto_region 5 with fail
  clear g1 g2
  go_loopw [4, 5] (fun v4 i wr => ∃ k m : Nat, k ≤ s.size ∧ i = .int .i64 k ∧ v4 = .int .i64 m ∧ m < 10 ^ k ∧ Hid (m = Cf.val (s.data.toList.take k) ∧ (s.data.toList.take k).all Cf.dig = true) ∧ w = wr) (fun _ i _ => s.size - (RowKit.intOf i).toNat)
  case atStart => exact ⟨0, 0, Nat.zero_le _, rfl, rfl, by decide, ⟨rfl, rfl⟩, rfl⟩
  case round =>
    obtain ⟨k, m, hk, rfl, rfl, hmk, hm, rfl⟩ := hrel
    have hm999 : m < 10000000000 := Nat.lt_of_lt_of_le hmk (Nat.le_trans (Nat.pow_le_pow_right (by decide) (show k ≤ 10 by omega)) (by decide))
    by_cases hlt : k < s.size
    · have HT := Lib.hid (Cf.val_takeB s k hlt)
      have hmem : s[k] ∈ s.data.toList := by
        rw [ByteArray.getElem_eq_getElem_data]
        simp
      have HAT := Lib.hid (Cf.all_takeB s k hlt hm.out.2)
      have hix : ∀ w, (Instr.index 9 (.string s) (.int .i64 (k : Int))).run Tryz.prog w = .ok (.int .u8 (s[k].toNat : Int)) w := fun w => by
        have h := run_index_string (P := Tryz.prog) (w := w) 9 s .i64 (k : Int) Tryz.underlying9
        rw [h]
        simp [hlt]
      generalize s[k] = a at *
      have ha256 := a.toNat_lt
      by_cases h1 : a.toNat < 48
      · have HN := Lib.hid (Cf.rnumAns_no (Cf.numOf_digit hmem (.inl h1)) 0)
        have d1 : decide ((a.toNat : Int) < 48) = true := decide_eq_true (by omega)
        clear hmk hmem HAT
        go_wp2_with fail
        go_ret2
        exact ⟨HN.out, Below.refl _ _⟩
      · by_cases h2 : 57 < a.toNat
        · have HN := Lib.hid (Cf.rnumAns_no (Cf.numOf_digit hmem (.inr h2)) 0)
          have d1 : decide ((a.toNat : Int) < 48) = false := decide_eq_false (by omega)
          have d2 : decide ((57 : Int) < (a.toNat : Int)) = true := decide_eq_true (by omega)
          clear hmk hmem HAT
          go_wp2_with fail
          go_ret2
          exact ⟨HN.out, Below.refl _ _⟩
        · have d1 : decide ((a.toNat : Int) < 48) = false := decide_eq_false (by omega)
          have d2 : decide ((57 : Int) < (a.toNat : Int)) = false := decide_eq_false (by omega)
          have hpow : 10 * m + (a.toNat - 48) < 10 ^ (k + 1) := by rw [Nat.pow_succ]; omega
          have HPOW := Lib.hid hpow
          have HAL := Lib.hid (HAT.out (by omega) (by omega))
          clear hmk hpow hmem HAT
          go_wp2_with fail
          refine ⟨⟨k + 1, 10 * m + (a.toNat - 48), by omega, by go_num, by go_num, HPOW.out, ⟨?_, HAL.out⟩, trivial⟩, by simp [RowKit.intOf]; omega⟩
          rw [HT.out, ← hm.out.1]
    · obtain rfl : k = s.size := by omega
      have hm2 := hm.out
      rw [List.take_of_length_le (by omega)] at hm2
      have HM := Lib.hid hm2
      clear hm hm2 hmk
      have HD := Lib.hid (fun w => rdec_any m (by omega) w)
      go_wp2_with fail
      refine (HD.out _).mono ?_
      rintro e w2 ⟨rfl, hb2⟩
      have HN := Lib.hid (Cf.numOf_is (l := s.data.toList) (by omega) (by omega) HM.out.2)
      have hs1 : ((Cf.dec m) == s.toList) = decide (Cf.dec (Cf.val s.data.toList) = s.data.toList) := by
        rw [Lib.toList_data, Bool.eq_iff_iff, beq_iff_eq, decide_eq_true_iff, ← HM.out.1]
      by_cases hq : Cf.dec (Cf.val s.data.toList) = s.data.toList
      · have hs2 : ((Cf.dec m) == s.toList) = true := hs1.trans (decide_eq_true hq)
        have HQ := Lib.hid hq
        clear hs1 hq
        go_wp2_with fail
        go_ret2
        refine ⟨?_, hb2⟩
        have h := Cf.rnumAns_yes (l := s.data.toList) (v := m) (by rw [HN.out, if_pos HQ.out, HM.out.1])
        exact h
      · have hs2 : ((Cf.dec m) == s.toList) = false := hs1.trans (decide_eq_false hq)
        have HQ := Lib.hid hq
        clear hs1 hq
        go_wp2_with fail
        go_ret2
        exact ⟨Cf.rnumAns_no (by rw [HN.out, if_neg HQ.out]) (m : Int), hb2⟩
namespace Cf
theorem rallNum_snoc : ∀ (L : List (List UInt8)) (p : List UInt8), allNum (L ++ [p]) = match allNum L, numOf p with
    | some ns, some n => some (ns ++ [n])
    | _, _ => none
  | [], p => by
    show allNum [p] = _
    unfold allNum
    cases h : numOf p <;> rfl
  | q :: L, p => by
    show allNum (q :: (L ++ [p])) = _
    unfold allNum
    rw [rallNum_snoc L p]
    cases h1 : numOf q <;> cases h2 : allNum L <;> cases h3 : numOf p <;> rfl
theorem allNum_app_none {L M : List (List UInt8)} (h : allNum L = none) : allNum (L ++ M) = none := by
  induction L with
  | nil => cases h
  | cons q L ih =>
    show allNum (q :: (L ++ M)) = none
    unfold allNum at h ⊢
    cases h1 : numOf q with
    | none => rfl
    | some a => cases h2 : allNum L with
      | none => rw [ih h2]
      | some l => rw [h1, h2] at h; cases h
theorem rallNum_bad {L : List (List UInt8)} {k : Nat} (hk : k < L.length) (h : numOf L[k] = none) : allNum L = none := by
  have e : L = L.take (k + 1) ++ L.drop (k + 1) := (List.take_append_drop _ _).symm
  rw [e]
  apply allNum_app_none
  rw [List.take_succ_eq_append_getElem hk, rallNum_snoc, h]
  cases allNum (L.take k) <;> rfl
theorem rallNum_good {L : List (List UInt8)} {k n : Nat} {ns : List Nat} (hk : k < L.length) (h : allNum (L.take k) = some ns) (h2 : numOf L[k] = some n) : allNum (L.take (k + 1)) = some (ns ++ [n]) := by
  rw [List.take_succ_eq_append_getElem hk, rallNum_snoc, h, h2]
def RNumsAns (L : List (List UInt8)) (B : Nat) (e : Ending) (w : World) : Prop := match allNum L with
  | some ns => ∃ v, e = .returned (.tuple #[v, .bool true]) ∧ OutInts w B v (ints ns)
  | none => e = .returned (.tuple #[.slice none 0 0, .bool false])
theorem rnumsAns_no {L : List (List UInt8)} {B : Nat} {w : World} (h : allNum L = none) : RNumsAns L B (.returned (.tuple #[.slice none 0 0, .bool false])) w := by unfold RNumsAns; rw [h]
theorem rnumsAns_yes {L : List (List UInt8)} {B : Nat} {w : World} {ns : List Nat} {v : Value} (h : allNum L = some ns) (hv : OutInts w B v (ints ns)) : RNumsAns L B (.returned (.tuple #[v, .bool true])) w := by unfold RNumsAns; rw [h]; exact ⟨v, rfl, hv⟩
theorem tl_len (xs : List ByteArray) : (tl xs).length = xs.length := by unfold tl; rw [List.length_map]
theorem tl_get {xs : List ByteArray} {k : Nat} (h : k < xs.length) : (tl xs)[k]'(by rw [tl_len]; exact h) = xs[k].data.toList := by unfold tl; rw [List.getElem_map]
theorem ints_snoc (ns : List Nat) (n : Nat) : ints (ns ++ [n]) = ints ns ++ [(n : Int)] := by unfold ints; rw [List.map_append]; rfl
end Cf
set_option maxRecDepth 20000 in
set_option maxHeartbeats 4000000 in
theorem rnumbers_any (ao : Option Addr) (cap : Nat) (xs : List ByteArray) (hx : xs.length ≤ 200000) (w : World) (h : Strs.At w ao xs) :
    Calls Tryz.prog 20 #[.slice ao xs.length cap] w fun e w' => Cf.RNumsAns (Cf.tl xs) w.heap.size e w' ∧ Below w.heap.size w w' := by
  obtain ⟨ti, tz, hi, hz, hz1, hz2, hz3⟩ := info_int
  have HTI := Lib.hid hi
  have HTZ := Lib.hid hz
  have HA := Lib.hid h
  clear hi hz h
  go_enter Tryz.func20, Tryz.ntmps20
  go_upto_region 3 with fail
  go_loopw [4, 5] (fun v4 i wr => ∃ (k : Nat) (ns : List Nat), k ≤ xs.length ∧ i = .int .i64 k ∧ Hid (Cf.allNum ((Cf.tl xs).take k) = some ns) ∧ ns.length = k ∧ Hid (OutInts wr w.heap.size v4 (Cf.ints ns)) ∧ Hid (Below w.heap.size w wr)) (fun _ i _ => xs.length - (RowKit.intOf i).toNat)
  case atStart => exact ⟨0, [], Nat.zero_le _, rfl, rfl, rfl, outInts_nil _ _, Below.refl _ _⟩
  case round =>
    rename World => wr
    obtain ⟨k, ns, hk, rfl, HNS, hnl, HO, HBR⟩ := hrel
    have hszr := HBR.out.size
    have HNL := Lib.hid hnl
    clear hnl
    by_cases hlt : k < xs.length
    · obtain ⟨b, off, rfl, hbz, hc⟩ := HA.out.some_of (by omega)
      have c0 : wr.cell? ⟨b, off + k, none⟩ = some (.string xs[k]) := by rw [HBR.out.cell (p := ⟨b, off + k, none⟩) hbz]; exact hc k hlt
      have hlt2 : k < (Cf.tl xs).length := by rw [Cf.tl_len]; exact hlt
      have HBAD := Lib.hid (Cf.rallNum_bad hlt2)
      have HGOOD := Lib.hid (fun n => Cf.rallNum_good (n := n) hlt2 HNS.out)
      rw [Cf.tl_get hlt] at HBAD HGOOD
      clear hc
      generalize xs[k] = x at *
      go_wp2_with fail
      refine (rnumber_any x _).mono ?_
      rintro e w3 ⟨he, hb3⟩
      have HO3 := Lib.hid (HO.out.later hb3)
      have HBR3 := Lib.hid (HBR.out.trans (hb3.mono hszr))
      have hsz3 := HBR3.out.size
      clear hb3 HO HBR c0 hbz
      unfold Cf.RNumAns at he
      cases hv : Cf.numOf x.data.toList with
      | none =>
        rw [hv] at he
        obtain ⟨z, rfl⟩ : ∃ z : Int, e = .returned (.tuple #[.int .i64 z, .bool false]) := he
        have HF := Lib.hid (Cf.rnumsAns_no (B := w.heap.size) (w := w3) (HBAD.out hv))
        have hbF := HBR3.out
        clear hv HBAD HGOOD
        go_wp2_with fail
        go_ret2
        exact ⟨HF.out, hbF⟩
      | some n =>
        rw [hv] at he
        obtain rfl : e = .returned (.tuple #[.int .i64 n, .bool true]) := he
        have HNX := Lib.hid (HGOOD.out n hv)
        clear hv HBAD HGOOD
        have HO4 : Hid (w3.ownsRow w.heap.size 3 1 u4 k ((Cf.ints ns).map (Value.int .i64))) := by
          have := HO3.out
          unfold OutInts at this
          rw [Cf.ints_len, HNL.out] at this
          exact this
        go_wp2_with (at_builtin; refine wpList_append_own _ rfl (.tmp 24) (.tmp 26) 47 rfl w.heap.size 3 ti tz 1 8 Tryz.underlying47 HTI.out HTZ.out hz1 hz2 hz3 (by decide) _ k _ rfl (World.ownsRow.alloc HO4.out _) ⟨w3.heap.size, 0, none⟩ 1 1 [.int .i64 (n : Int)] rfl rfl (cell_one_new _ _ _) (by simp [Value.oneCell']) ?d2 ?d3 ?d4 ?_)
        case d2 => simp [maxLen]; omega
        case d3 => omega
        case d4 => simp; omega
        intro v' w' ho hg _
        have HO5 : Hid (OutInts w' w.heap.size v' (Cf.ints (ns ++ [n]))) := by
          show World.ownsRow _ _ _ _ _ _ _
          rw [Cf.ints_len, List.length_append, HNL.out, Cf.ints_snoc, List.map_append]
          exact ho
        have HB5 : Hid (Below w.heap.size w w') := HBR3.out.trans (((Below.refl _ _).alloc hsz3 _).grown hg (by simp; omega) (fun j e => (HO4.out.lt j e).1))
        clear ho hg HO3 HO4 HBR3
        go_wp2_with fail
        exact ⟨⟨k + 1, ns ++ [n], by omega, by go_num, HNX, by rw [List.length_append, HNL.out]; rfl, HO5, HB5⟩, by simp [RowKit.intOf]; omega⟩
    · obtain rfl : k = xs.length := by omega
      have hns := HNS.out
      rw [List.take_of_length_le (by rw [Cf.tl_len]; exact Nat.le_refl _)] at hns
      have HF := Lib.hid (Cf.rnumsAns_yes hns HO.out)
      have hbF := HBR.out
      clear hns HNS HO HBR
      go_wp2_with fail
      go_ret2
      exact ⟨HF.out, hbF⟩
end Go.Proofs.YthfckdnennfnoaaGreatDoor
-- causeyref23.bytes. By an AI agent. 
namespace Go.Proofs.YthfckdnennfnoaaGreatDoor
open Go.RowKit Go.WideShapes Go.Sort Grow
namespace Cf
/-- what the first k digits give -/
def bytesTo (l : List UInt8) (k : Nat) : List UInt8 := firstB l (k / 2) ++ (if k % 2 = 1 then [UInt8.ofNat (16 * (hexV (l.getD (k - 1) 0)).toNat)] else [])
theorem bytesTo_even {l : List UInt8} {k : Nat} (h : k % 2 = 0) : bytesTo l (k + 1) = bytesTo l k ++ [UInt8.ofNat (16 * (hexV (l.getD k 0)).toNat)] := by
  unfold bytesTo
  rw [if_pos (by omega), if_neg (by omega), show (k + 1) / 2 = k / 2 from by omega, List.append_nil, Nat.add_sub_cancel]
theorem bytesTo_odd {l : List UInt8} {k : Nat} (h : k % 2 = 1) : ∃ ys y, bytesTo l k = ys ++ [y] ∧ ys.length = k / 2 ∧ y = UInt8.ofNat (16 * (hexV (l.getD (k - 1) 0)).toNat) ∧ bytesTo l (k + 1) = ys ++ [UInt8.ofNat (16 * (hexV (l.getD (k - 1) 0)).toNat + (hexV (l.getD k 0)).toNat)] := by
  refine ⟨firstB l (k / 2), _, by unfold bytesTo; rw [if_pos h], firstB_len _ _, rfl, ?_⟩
  unfold bytesTo
  rw [if_neg (by omega), List.append_nil, show (k + 1) / 2 = k / 2 + 1 from by omega, firstB_next]
  unfold byteAt
  rw [show 2 * (k / 2) + 1 = k from by omega, show 2 * (k / 2) = k - 1 from by omega]
theorem bytesTo_all {l bs : List UInt8} {n : Nat} (h : bytesOf l n = some bs) : bytesTo l (2 * n) = bs := by
  unfold bytesOf at h
  split at h
  · obtain rfl := Option.some.inj h
    unfold bytesTo firstB
    rw [if_neg (by omega), List.append_nil, show 2 * n / 2 = n from by omega]
  · cases h
theorem bytesTo_len (l : List UInt8) (k : Nat) : (bytesTo l k).length ≤ k := by
  unfold bytesTo
  rw [List.length_append, firstB_len]
  split <;> simp <;> omega
theorem bytesOf_good {l bs : List UInt8} {n : Nat} (h : bytesOf l n = some bs) : l.length = 2 * n ∧ ∀ c ∈ l, isHex c = true := by
  have e := bytesOf_hex l n
  rw [h] at e
  have e := e.symm
  rw [Option.isSome_some, Bool.and_eq_true, decide_eq_true_eq, List.all_eq_true] at e
  exact ⟨e.2, e.1⟩
theorem hexV_hex {c : UInt8} (h : isHex c = true) : (c.toNat ≤ 57 ∧ 48 ≤ c.toNat ∧ hexV c = ((c.toNat - 48 : Nat) : Int)) ∨ (57 < c.toNat ∧ 97 ≤ c.toNat ∧ c.toNat ≤ 102 ∧ hexV c = ((c.toNat - 87 : Nat) : Int)) := by
  rw [hexV_val]
  unfold isHex at h
  simp only [Bool.or_eq_true, decide_eq_true_eq] at h
  rcases h with h | h
  · left
    rw [if_pos h]
    omega
  · right
    rw [if_neg (by omega), if_pos h]
    omega
end Cf
set_option maxRecDepth 20000 in
set_option maxHeartbeats 4000000 in
theorem rbytes_any (s : ByteArray) (n : Nat) (bs : List UInt8) (hn : n ≤ 100) (hbs : Cf.bytesOf s.data.toList n = some bs) (w : World) :
    Calls Tryz.prog 21 #[.string s] w fun e w' => (∃ v, e = .returned v ∧ OwnB w' w.heap.size v bs) ∧ Below w.heap.size w w' := by
  have hlz : s.data.toList.length = s.size := by simp
  obtain ⟨hlen, hall⟩ := Cf.bytesOf_good hbs
  have hsz : s.size = 2 * n := by omega
  have HALL := Lib.hid hall
  have HEND := Lib.hid (Cf.bytesTo_all hbs)
  have hs200 : s.size ≤ 200 := by omega
  have HSZ := Lib.hid hsz
  clear hall hbs hlen hsz hn
  go_enter Tryz.func21, Tryz.ntmps21
  go_upto_region 3 with fail
  go_loopw [3, 4] (fun v3 i wr => ∃ (k : Nat), k ≤ s.size ∧ i = .int .i64 k ∧ Hid (OwnB wr w.heap.size v3 (Cf.bytesTo s.data.toList k)) ∧ Hid (Below w.heap.size w wr)) (fun _ i _ => s.size - (RowKit.intOf i).toNat)
  case atStart => exact ⟨0, Nat.zero_le _, rfl, OwnB.nil _ _, Below.refl _ _⟩
  case round =>
    rename World => wr
    obtain ⟨k, hk, rfl, HO, HBR⟩ := hrel
    have hszr := HBR.out.size
    by_cases hlt : k < s.size
    · have hgd : s.data.toList.getD k 0 = s[k] := by
        rw [List.getD_eq_getElem?_getD, List.getElem?_eq_getElem (by omega)]
        simp [ByteArray.getElem_eq_getElem_data]
      have hmem : s[k] ∈ s.data.toList := by rw [ByteArray.getElem_eq_getElem_data]; simp
      have hx := Cf.hexV_hex (HALL.out _ hmem)
      have HEV := Lib.hid (fun h => Cf.bytesTo_even (l := s.data.toList) (k := k) h)
      have HOD := Lib.hid (fun h => Cf.bytesTo_odd (l := s.data.toList) (k := k) h)
      have HPR : Hid (k % 2 = 1 → 0 ≤ (Cf.hexV (s.data.toList.getD (k - 1) 0)).toNat ∧ (Cf.hexV (s.data.toList.getD (k - 1) 0)).toNat < 16) := fun h => by
        have hm : s.data.toList.getD (k - 1) 0 ∈ s.data.toList := by
          rw [List.getD_eq_getElem?_getD, List.getElem?_eq_getElem (by omega), Option.getD_some]
          exact List.getElem_mem _
        rcases Cf.hexV_hex (HALL.out _ hm) with h | h <;> omega
      rw [hgd] at HEV HOD
      have hix : ∀ w, (Instr.index 9 (.string s) (.int .i64 (k : Int))).run Tryz.prog w = .ok (.int .u8 (s[k].toNat : Int)) w := fun w => by
        have h := run_index_string (P := Tryz.prog) (w := w) 9 s .i64 (k : Int) Tryz.underlying9
        rw [h]
        simp [hlt]
      generalize s[k] = a at *
      have ha256 := a.toNat_lt
      obtain ⟨d, hd⟩ : ∃ d : Nat, Cf.hexV a = (d : Int) := by
        rcases hx with h | h
        · exact ⟨_, h.2.2⟩
        · exact ⟨_, h.2.2.2⟩
      have hd16 : d < 16 := by rcases hx with h | h <;> omega
      have hdc : (a.toNat ≤ 57 ∧ 48 ≤ a.toNat ∧ a.toNat = d + 48) ∨ (57 < a.toNat ∧ a.toNat = d + 87) := by rcases hx with h | h <;> omega
      rw [hd] at HEV HOD
      clear hx hgd hmem
      go_upto_if 18 with fail
      go_cut [5] (fun v5 wx => v5 = .int .i64 (d : Int) ∧ wr = wx)
      case first =>
        rcases hdc with ⟨h1, h2, h3⟩ | ⟨h1, h3⟩
        · have t1 : decide ((9 : Int) < (a.toNat : Int) - 48) = false := decide_eq_false (by omega)
          rw [t1]
          have e5 : (a.toNat : Int) - 48 = (d : Int) := by omega
          clear t1
          go_wp2_with fail
          go_meet
          exact ⟨by rw [e5], rfl⟩
        · have t1 : decide ((9 : Int) < (a.toNat : Int) - 48) = true := decide_eq_true (by omega)
          rw [t1]
          clear t1
          go_wp2_with fail
          go_meet
          exact ⟨by congr 1; omega, rfl⟩
      case rest =>
        obtain ⟨rfl, rfl⟩ := hcut
        clear hix
        go_upto_if 23 with fail
        rcases Nat.mod_two_eq_zero_or_one k with h2 | h2
        · have t2 : (((k : Int) % 2) == 0) = true := beq_iff_eq.2 (by omega)
          rw [t2]
          obtain ⟨z, hz⟩ : ∃ z, z = 16 * d := ⟨_, rfl⟩
          have w1 : IntKind.i64.wrap (16 * (d : Int)) = (z : Int) := (IntWalk.i64_in _ (by omega)).trans (by omega)
          have hz8 : z < 256 := by omega
          have hzu : ((z : Nat) : Int) = ((UInt8.ofNat z).toNat : Int) := by rw [UInt8.toNat_ofNat']; omega
          have HZU := Lib.hid hzu
          have HNX : Hid (Cf.bytesTo s.data.toList (k + 1) = Cf.bytesTo s.data.toList k ++ [UInt8.ofNat z]) := by
            show _ = _
            rw [HEV.out h2, hz]
            rfl
          have HLN := Lib.hid (Cf.bytesTo_len s.data.toList k)
          clear t2 hz hzu HEV HOD HPR hdc h2 hd
          go_wp2_with (at_builtin; refine wpList_append_byte rfl (.tmp 24) (.tmp 28) rfl w.heap.size _ _ rfl HO.out rfl (UInt8.ofNat z) HZU.out (by have := HLN.out; omega) hszr ?_)
          intro v' w5 hown hb5 hg5
          have HO5 : Hid (OwnB w5 w.heap.size v' (Cf.bytesTo s.data.toList (k + 1))) := by show OwnB _ _ _ _; rw [HNX.out]; exact hown
          have HBR5 := Lib.hid (HBR.out.trans hb5)
          clear hown hb5 hg5 HO HBR
          go_wp2_with fail
          exact ⟨⟨k + 1, by omega, by go_num, HO5, HBR5⟩, by simp [RowKit.intOf]; omega⟩
        · have t2 : (((k : Int) % 2) == 0) = false := beq_eq_false_iff_ne.2 (by omega)
          rw [t2]
          obtain ⟨ys, y, e1, e2, e3, e4⟩ := HOD.out h2
          obtain ⟨hp1, hp2⟩ := HPR.out h2
          generalize (Cf.hexV (s.data.toList.getD (k - 1) 0)).toNat = p at *
          have hy : (y.toNat : Int) = ((16 * p : Nat) : Int) := by rw [e3, UInt8.toNat_ofNat']; omega
          have HO1 : OwnB wr w.heap.size u3 (ys ++ [y]) := by rw [← e1]; exact HO.out
          unfold OwnB at HO1
          rw [List.length_append, List.length_singleton] at HO1
          obtain ⟨g, cap, rfl⟩ := ownsRow_succ HO1
          have hcx : wr.cell? ⟨g, ys.length, none⟩ = some (.int .u8 ((16 * p : Nat) : Int)) := by
            rw [World.ownsRow.cellAt HO1 ys.length (by omega), ← hy]
            unfold byteVals
            simp
          obtain ⟨cur, hrow, hcn, hgb, hset⟩ := Cf.owns_cur HO1
          have HROW := Lib.hid hrow
          obtain ⟨z, hz⟩ : ∃ z, z = 16 * p + d := ⟨_, rfl⟩
          have hz8 : z < 256 := by omega
          have hyl : ys.length ≤ 200 := by omega
          have w1 : IntKind.i64.wrap (ys.length : Int) = (ys.length : Int) := IntWalk.i64_in _ (by omega)
          have w2 : IntKind.u8.wrap (d : Int) = (d : Int) := by rw [IntKind.wrap_u8]; omega
          have w3 : IntKind.u8.wrap (16 * (p : Int) + (d : Int)) = (z : Int) := by rw [IntKind.wrap_u8]; omega
          have hzu : Value.int .u8 ((z : Nat) : Int) = .int .u8 ((UInt8.ofNat z).toNat : Int) := by rw [UInt8.toNat_ofNat']; congr 1; omega
          have HSET : Hid (∀ w', RowIs w' g 5 (cur.setIfInBounds ys.length (.int .u8 (z : Int))) → OwnB w' w.heap.size (.slice (some ⟨g, 0, none⟩) (ys.length + 1) cap) (Cf.bytesTo s.data.toList (k + 1))) := fun w' hr => by
            have := hset w' ys.length (.int .u8 (z : Int)) (by omega) hr
            rw [e4]
            have hd' : ((d : Nat) : Int).toNat = d := Int.toNat_natCast d
            rw [hd', ← hz]
            unfold OwnB
            rw [List.length_append, List.length_singleton]
            have hb : (byteVals (ys ++ [y])).set ys.length (.int .u8 (z : Int)) = byteVals (ys ++ [UInt8.ofNat z]) := by
              rw [hzu]
              unfold byteVals
              simp [List.set_append_right]
            rw [← hb]
            exact this
          clear t2 HEV HOD HPR hdc h2 hd e1 e2 e3 e4 hy HO1 HO hrow hset hz hzu
          go_wp2_with ((with_reducible refine at_store 5 (.tmp 43) (.tmp 42) ?_); refine wpList_store_cell rfl 5 (.tmp 43) (.tmp 42) rfl g ys.length (.int .u8 (z : Int)) rfl rfl 5 _ HROW.out (by omega) (by kernel_rfl) rfl w.heap.size hgb ?_)
          intro w5 hK hO hsz hb
          have HO5 := Lib.hid (HSET.out w5 hK)
          have HB5 := Lib.hid (HBR.out.trans hb)
          clear hK hO hsz hb HROW HBR HSET
          go_wp2_with fail
          exact ⟨⟨k + 1, by omega, by go_num, HO5, HB5⟩, by simp [RowKit.intOf]; omega⟩
    · obtain rfl : k = s.size := by omega
      have hO := HO.out
      rw [HSZ.out, HEND.out] at hO
      have HO2 := Lib.hid hO
      have hbF := HBR.out
      clear hO HO HBR
      go_wp2_with fail
      go_ret
      exact ⟨⟨_, rfl, HO2.out⟩, hbF⟩
end Go.Proofs.YthfckdnennfnoaaGreatDoor
-- causeyref23.port. By an AI agent. 
namespace Go.Proofs.YthfckdnennfnoaaGreatDoor
open Go.RowKit Go.WideShapes Go.Sort Grow
namespace Cf
theorem rz_info : (Tryz.prog.info? 50).map (·.size) = some zport.size := by kernel_rfl
theorem rz_one : zport.all (·.oneCell') = true := by kernel_rfl
theorem rz_is : zport = (.int .i64 0 :: .slice none 0 0 :: .int .i64 0 :: .int .i64 0 :: .bool false :: .int .i64 0 :: .bool false :: byteVals (zeros 32)).toArray := by kernel_rfl
def RPtAns (xs : List ByteArray) (B : Nat) (e : Ending) (w : World) : Prop := match portOf (lists xs) with
  | some p => ∃ tv, e = .returned (.tuple #[.agg (pcells p tv), .bool true]) ∧ OutInts w B tv (ints p.tags) ∧ p.psk.length = 32
  | none => e = .returned (.tuple #[.agg zport, .bool false])
theorem rptAns_no {xs : List ByteArray} {B : Nat} {w : World} (h : portOf (lists xs) = none) : RPtAns xs B (.returned (.tuple #[.agg zport, .bool false])) w := by unfold RPtAns; rw [h]
theorem rptAns_yes {xs : List ByteArray} {B : Nat} {w : World} {p : Pt} {tv : Value} (h : portOf (lists xs) = some p) (hv : OutInts w B tv (ints p.tags)) (hp : p.psk.length = 32) : RPtAns xs B (.returned (.tuple #[.agg (pcells p tv), .bool true])) w := by unfold RPtAns; rw [h]; exact ⟨tv, rfl, hv, hp⟩
/-- no word that is known -/
theorem port_other {xs : List ByteArray} (h1 : part xs 0 ≠ wTap) (h2 : part xs 0 ≠ wLink) : portOf (lists xs) = none := by
  match xs, h1, h2 with
  | [], _, _ => rfl
  | x :: l, h1, h2 =>
    show (if x.data.toList = wTap then _ else if x.data.toList = wLink then _ else none) = _
    rw [if_neg (show x.data.toList ≠ wTap from h1), if_neg (show x.data.toList ≠ wLink from h2)]
theorem part_get {xs : List ByteArray} {i : Nat} (h : i < xs.length) : part xs i = xs[i].data.toList := by
  unfold part
  rw [List.getD_eq_getElem?_getD, List.getElem?_eq_getElem h, Option.getD_some]
theorem allNum3_none {a b c : List UInt8} (h : allNum [a, b, c] = none) : numOf a = none ∨ numOf b = none ∨ numOf c = none := by
  cases h1 : numOf a with
  | none => exact .inl rfl
  | some x => cases h2 : numOf b with
    | none => exact .inr (.inl rfl)
    | some y => cases h3 : numOf c with
      | none => exact .inr (.inr rfl)
      | some z => simp [allNum, h1, h2, h3] at h
theorem allNum3_some {a b c : List UInt8} {ns : List Nat} (h : allNum [a, b, c] = some ns) : ∃ x y z, numOf a = some x ∧ numOf b = some y ∧ numOf c = some z ∧ ns = [x, y, z] := by
  cases h1 : numOf a with
  | none => simp [allNum, h1] at h
  | some x => cases h2 : numOf b with
    | none => simp [allNum, h1, h2] at h
    | some y => cases h3 : numOf c with
      | none => simp [allNum, h1, h2, h3] at h
      | some z =>
        simp [allNum, h1, h2, h3] at h
        exact ⟨x, y, z, rfl, rfl, rfl, h.symm⟩
def mixPsk (bs : List UInt8) (i : Nat) : List UInt8 := bs.take i ++ zeros (32 - i)
theorem mixPsk_len {bs : List UInt8} (h : bs.length = 32) {i : Nat} (hi : i ≤ 32) : (mixPsk bs i).length = 32 := by unfold mixPsk zeros; rw [List.length_append, List.length_take, List.length_replicate]; omega
theorem mixPsk_next {bs : List UInt8} (h : bs.length = 32) {i : Nat} (hi : i < 32) : mixPsk bs (i + 1) = (mixPsk bs i).set i (bs.getD i 0) := by
  unfold mixPsk zeros
  rw [List.take_succ_eq_append_getElem (by omega), List.set_append_right _ _ (by rw [List.length_take]; omega), List.length_take, show i - min i bs.length = 0 from by omega]
  obtain ⟨m, hm⟩ : ∃ m, 32 - i = m + 1 := ⟨31 - i, by omega⟩
  rw [hm, List.replicate_succ, show 32 - (i + 1) = m from by omega, List.getD_eq_getElem?_getD, List.getElem?_eq_getElem (by omega), List.set_cons_zero, List.append_assoc]
  rfl
theorem mixPsk_all {bs : List UInt8} (h : bs.length = 32) : mixPsk bs 32 = bs := by unfold mixPsk zeros; rw [List.take_of_length_le (by omega)]; simp
theorem cells_put (a b c d e f g : Value) (l : List UInt8) (k : Nat) (x : UInt8) : ((a :: b :: c :: d :: e :: f :: g :: byteVals l).set (7 + k) (.int .u8 (x.toNat : Int))).toArray = (a :: b :: c :: d :: e :: f :: g :: byteVals (l.set k x)).toArray := by
  rw [show 7 + k = k + 1 + 1 + 1 + 1 + 1 + 1 + 1 from by omega]
  simp only [List.set_cons_succ]
  unfold byteVals
  rw [List.map_set]
theorem cell_same {w w' : World} {p : Addr} {X : Nat} (hO : ∀ j, j ≠ X → w'.heap[j]? = w.heap[j]?) (hp : p.block ≠ X) : w'.cell? p = w.cell? p := by
  unfold World.cell?
  rw [hO _ hp]
theorem owns_lower {w : World} {base base' : Nat} {e : TypeId} {size : Nat} {v : Value} {n : Nat} {xs : List Value} (h : w.ownsRow base e size v n xs) (hb : base' ≤ base) : w.ownsRow base' e size v n xs :=
  ⟨h.1, h.2.imp id fun ⟨g, cap, cur, h1, h2, h3⟩ => ⟨g, cap, cur, h1, Nat.le_trans hb h2, h3⟩⟩
end Cf
theorem wpList_build_port {ops : Array Oper} {rest : List Oper} {o : Oper} {a : Act} {w : World} {Q : Exit → Act → World → Prop} (ho : o.op = .build 50 #[]) (h : wpList Tryz.prog ops Q rest (a.put o.dst (.agg Cf.zport)) w) (hgd : Region.wanted o (yielded ops a.tmps) = true := by rfl) : wpList Tryz.prog ops Q (o :: rest) a w :=
  BigFrame.wpList_want hgd fun _ hK => by
    unfold Oper.wp execOp
    have hz : (Instr.build 50 #[]).run Tryz.prog w = .ok (.agg Cf.zport) w := by kernel_rfl
    have e1 : ((#[] : Array (Nat × Operand)).map fun (i, x) => (i, a.eval x)) = #[] := by simp
    simp only [ho, e1, Sem.run_bind, hz, Result.andThen_ok, Sem.run_pure]
    exact hK _ _ h
set_option maxRecDepth 20000 in
set_option maxHeartbeats 8000000 in
theorem rport_any (ao : Option Addr) (cap : Nat) (xs : List ByteArray) (hx : xs.length ≤ 100000) (hx1 : 0 < xs.length) (hcap : xs.length ≤ cap) (hz : ∀ x ∈ xs, x.size ≤ 100000) (w : World) (h : Strs.At w ao xs) :
    Calls Tryz.prog 18 #[.slice ao xs.length cap] w fun e w' => Cf.RPtAns xs w.heap.size e w' ∧ Below w.heap.size w w' := by
  obtain ⟨b, off, rfl, hbz, hcs⟩ := h.some_of hx1
  have HZ := Lib.hid hz
  have hc0 : w.cell? ⟨b, off, none⟩ = some (.string (xs[0]'hx1)) := by have := hcs 0 hx1; rwa [Nat.add_zero] at this
  have HCS := Lib.hid hcs
  have hp0 := Cf.part_get hx1
  have HP0 := Lib.hid hp0
  clear h hz hcs hp0
  go_enter Tryz.func18, Tryz.ntmps18
  go_upto_region 2 with (with_reducible refine at_alloc 50 ?_; refine wpList_alloc_port rfl 50 Cf.zport rfl rzport_is ?_)
  have R2 : Hid (RowIs ((w.alloc (.cells Cf.zport 50)).alloc (.cells Cf.zport 50)) w.heap.size 50 Cf.zport) := (rowIs_new w _ _).alloc _
  have R4 : Hid (RowIs ((w.alloc (.cells Cf.zport 50)).alloc (.cells Cf.zport 50)) (w.heap.size + 1) 50 Cf.zport) := rowIs_new1 w _ _ _
  have HB1 : Hid (Below w.heap.size w ((w.alloc (.cells Cf.zport 50)).alloc (.cells Cf.zport 50))) := ((Below.refl _ _).alloc (Nat.le_refl _) _).alloc (by simp) _
  have hs1 : ((w.alloc (.cells Cf.zport 50)).alloc (.cells Cf.zport 50)).heap.size = w.heap.size + 2 := by simp
  simp only [World.size_alloc, Act.put, List.setIfInBounds_toArray, List.set]
  generalize (w.alloc (.cells Cf.zport 50)).alloc (.cells Cf.zport 50) = w1 at *
  have hsz2 : w.heap.size + 2 ≤ w1.heap.size := by omega
  clear hs1
  have c0 : w1.cell? ⟨b, off, none⟩ = some (.string (xs[0]'hx1)) := (HB1.out.cell (p := ⟨b, off, none⟩) hbz).trans hc0
  obtain ⟨x0, hx0⟩ : ∃ x, xs[0]'hx1 = x := ⟨_, rfl⟩
  rw [hx0] at c0 HP0
  clear hx0 hc0
  obtain ⟨q0, hq0⟩ : ∃ q, (x0.toList == [108, 105, 110, 107]) = q := ⟨_, rfl⟩
  go_upto_if 16 with fail
  go_cut [0] (fun v0 wx => ∃ (k : Nat) (lk : Bool) (ra : Nat) (gr : Bool) (psk : List UInt8) (cap' : Nat), v0 = .slice (some ⟨b, off + k, none⟩) 4 cap' ∧ Hid (xs.length = k + 4) ∧ Hid (Cf.Tail xs k lk ra gr psk) ∧ Hid (psk.length = 32) ∧ Hid (RowIs wx (w.heap.size + 1) 50 (.int .i64 0 :: .slice none 0 0 :: .int .i64 0 :: .int .i64 0 :: .bool lk :: .int .i64 (ra : Int) :: .bool gr :: byteVals psk).toArray) ∧ Hid (RowIs wx w.heap.size 50 Cf.zport) ∧ Hid (Below w.heap.size w wx) ∧ w.heap.size + 2 ≤ wx.heap.size)
  case first =>
    have hbF := HB1.out
    cases q0 with
    | false =>
      have hnl : Cf.part xs 0 ≠ Cf.wLink := by
        rw [HP0.out]
        intro h
        rw [Lib.toList_data, beq_eq_false_iff_ne] at hq0
        exact hq0 h
      clear hq0
      obtain ⟨q1, hq1⟩ : ∃ q, (x0.toList == [116, 97, 112]) = q := ⟨_, rfl⟩
      cases q1 with
      | false =>
        have HN := Lib.hid (Cf.port_other (xs := xs) (by
          rw [HP0.out]
          intro h
          rw [Lib.toList_data, beq_eq_false_iff_ne] at hq1
          exact hq1 h) hnl)
        clear hnl
        go_wp2_with (first | ((with_reducible refine at_load 50 (.tmp 4) ?_); refine wpList_load_own rfl 50 (.tmp 4) rfl (w.heap.size + 1) rfl 50 _ _ R4.out Tryz.underlying50 rfl Cf.rz_info ?_) | ((with_reducible refine at_store 50 (.tmp 2) (.tmp 86) ?_); refine wpList_store_own rfl 50 (.tmp 2) (.tmp 86) rfl w.heap.size Cf.zport rfl rfl 50 _ R2.out Cf.rz_info rfl Cf.rz_one w.heap.size (Nat.le_refl _) ?_))
        intro w9 hR9 _ _ hb9
        have HR9 := Lib.hid hR9
        clear hR9
        go_wp2_with fail
        refine bodyPost_ret (results_row_tmp1 Tryz.results18 _ _ w.heap.size 50 Cf.zport _ rfl HR9.out Tryz.underlying50 rfl Cf.rz_info) rfl ?_
        exact ⟨Cf.rptAns_no HN.out, hbF.trans hb9⟩
      | true =>
        have hw : Cf.part xs 0 = Cf.wTap := by
          rw [HP0.out]
          rw [Lib.toList_data, beq_iff_eq] at hq1
          exact hq1
        by_cases hl5 : xs.length = 5
        · have l5 : ((xs.length : Int) == 5) = true := beq_iff_eq.2 (by omega)
          have HT := Lib.hid (Cf.tail_tap hw)
          have HL5 := Lib.hid hl5
          rw [Cf.rz_is] at R4
          have c5 : ¬ cap = 1 := by omega
          clear hw hnl hl5
          go_wp2_with fail
          go_meet
          exact ⟨1, false, 0, false, Cf.zeros 32, cap - 1, by rw [HL5.out], HL5, HT, rfl, R4, R2, HB1, hsz2⟩
        · have l5 : ((xs.length : Int) == 5) = false := beq_eq_false_iff_ne.2 (by omega)
          have HN := Lib.hid (Cf.tap_len hw hl5)
          clear hw hnl hl5
          go_wp2_with (first | ((with_reducible refine at_load 50 (.tmp 4) ?_); refine wpList_load_own rfl 50 (.tmp 4) rfl (w.heap.size + 1) rfl 50 _ _ R4.out Tryz.underlying50 rfl Cf.rz_info ?_) | ((with_reducible refine at_store 50 (.tmp 2) (.tmp 86) ?_); refine wpList_store_own rfl 50 (.tmp 2) (.tmp 86) rfl w.heap.size Cf.zport rfl rfl 50 _ R2.out Cf.rz_info rfl Cf.rz_one w.heap.size (Nat.le_refl _) ?_))
          intro w9 hR9 _ _ hb9
          have HR9 := Lib.hid hR9
          clear hR9
          go_wp2_with fail
          refine bodyPost_ret (results_row_tmp1 Tryz.results18 _ _ w.heap.size 50 Cf.zport _ rfl HR9.out Tryz.underlying50 rfl Cf.rz_info) rfl ?_
          exact ⟨Cf.rptAns_no HN.out, hbF.trans hb9⟩
    | true =>
      have hw : Cf.part xs 0 = Cf.wLink := by
        rw [HP0.out]
        rw [Lib.toList_data, beq_iff_eq] at hq0
        exact hq0
      clear hq0
      by_cases hl8 : xs.length = 8
      · have l8 : ((xs.length : Int) != 8) = false := by unfold bne; rw [beq_iff_eq.2 (by omega)]; rfl
        have hc1 : w1.cell? ⟨b, off + 1, none⟩ = some (.string xs[1]) := (HB1.out.cell (p := ⟨b, off + 1, none⟩) hbz).trans (HCS.out 1 (by omega))
        have hc2 : w1.cell? ⟨b, off + 2, none⟩ = some (.string xs[2]) := (HB1.out.cell (p := ⟨b, off + 2, none⟩) hbz).trans (HCS.out 2 (by omega))
        have hc3 : w1.cell? ⟨b, off + 3, none⟩ = some (.string xs[3]) := (HB1.out.cell (p := ⟨b, off + 3, none⟩) hbz).trans (HCS.out 3 (by omega))
        have hp1 := Cf.part_get (xs := xs) (i := 1) (by omega)
        have hp2 := Cf.part_get (xs := xs) (i := 2) (by omega)
        have hp3 := Cf.part_get (xs := xs) (i := 3) (by omega)
        have hz3 := HZ.out xs[3] (List.getElem_mem _)
        generalize xs[1] = x1 at *
        generalize xs[2] = x2 at *
        generalize xs[3] = x3 at *
        have HP1 := Lib.hid hp1
        have HP2 := Lib.hid hp2
        have HP3 := Lib.hid hp3
        have HL8 := Lib.hid hl8
        have hb8 : 7 < xs.length := by omega
        have i1 : (1 : Int) < (xs.length : Int) := by omega
        have i2 : (2 : Int) < (xs.length : Int) := by omega
        have i3 : (3 : Int) < (xs.length : Int) := by omega
        have HDG := Lib.hid (fun w => rdigits_any x3 64 hz3 (by decide) w)
        have hbh := Cf.bytesOf_hex x3.data.toList 32
        rw [show 2 * 32 = 64 from rfl] at hbh
        generalize (x3.data.toList.all Cf.isHex && decide (x3.data.toList.length = 64)) = dg at *
        have HBH := Lib.hid hbh
        obtain ⟨bg, hbg⟩ : ∃ q, (x2.toList == [103]) = !q := ⟨!(x2.toList == [103]), by rw [Bool.not_not]⟩
        obtain ⟨ba, hba⟩ : ∃ q, (x2.toList == [97]) = !q := ⟨!(x2.toList == [97]), by rw [Bool.not_not]⟩
        have HSD : Hid ((bg = false → Cf.part xs 2 = [103]) ∧ (bg = true → Cf.part xs 2 ≠ [103]) ∧ (ba = false → Cf.part xs 2 = [97]) ∧ (ba = true → Cf.part xs 2 ≠ [97])) := by
          rw [hp2]
          rw [Lib.toList_data] at hbg hba
          refine ⟨fun h => ?_, fun h => ?_, fun h => ?_, fun h => ?_⟩
          · rw [h] at hbg; exact beq_iff_eq.1 hbg
          · rw [h] at hbg; exact beq_eq_false_iff_ne.1 hbg
          · rw [h] at hba; exact beq_iff_eq.1 hba
          · rw [h] at hba; exact beq_eq_false_iff_ne.1 hba
        clear hp1 hp2 hp3 hz3 hbh hl8
        have HC1 := Lib.hid hc1
        have HC2 := Lib.hid hc2
        have HC3 := Lib.hid hc3
        go_upto_region 3 with fail
        go_cut [38] (fun v38 wx => v38 = .bool ((bg && ba) || !dg) ∧ Below w1.heap.size w1 wx)
        case first =>
          cases bg with
          | true =>
            rw [Bool.not_true] at hbg
            cases ba with
            | true =>
              rw [Bool.not_true] at hba
              go_wp2_with fail
              go_meet
              exact ⟨rfl, Below.refl _ _⟩
            | false =>
              rw [Bool.not_false] at hba
              go_wp2_with fail
              refine (HDG.out _).mono ?_
              rintro e w3 ⟨rfl, hb⟩
              go_wp2_with fail
              go_meet
              exact ⟨rfl, hb⟩
          | false =>
            rw [Bool.not_false] at hbg
            go_wp2_with fail
            refine (HDG.out _).mono ?_
            rintro e w3 ⟨rfl, hb⟩
            go_wp2_with fail
            go_meet
            exact ⟨rfl, hb⟩
        case rest =>
          rename World => w3
          obtain ⟨rfl, hb⟩ := hcut
          have R2 := Lib.hid (R2.out.kept hb)
          have R4 := Lib.hid (R4.out.kept hb)
          have hbz3 : b < w1.heap.size := Nat.lt_of_lt_of_le hbz HB1.out.size
          have k1 : w3.cell? ⟨b, off + 1, none⟩ = some (.string x1) := (hb.cell (p := ⟨b, off + 1, none⟩) hbz3).trans HC1.out
          have k2 : w3.cell? ⟨b, off + 2, none⟩ = some (.string x2) := (hb.cell (p := ⟨b, off + 2, none⟩) hbz3).trans HC2.out
          have k3 : w3.cell? ⟨b, off + 3, none⟩ = some (.string x3) := (hb.cell (p := ⟨b, off + 3, none⟩) hbz3).trans HC3.out
          have hbF := HB1.out.trans (hb.mono HB1.out.size)
          have hsz3 : w.heap.size + 2 ≤ w3.heap.size := Nat.le_trans hsz2 hb.size
          clear hb HC1 HC2 HC3 hc1 hc2 hc3 c0 HDG hsz2
          obtain ⟨bd, hbd⟩ : ∃ q, ((bg && ba) || !dg) = q := ⟨_, rfl⟩
          rw [hbd]
          cases bd with
          | true =>
            have HN : Hid (Cf.portOf (Cf.lists xs) = none) := Cf.link_bad hw (by
              rw [Bool.or_eq_true, Bool.and_eq_true, Bool.not_eq_true'] at hbd
              rcases hbd with ⟨h1, h2⟩ | h
              · exact .inr (.inl ⟨HSD.out.2.1 h1, HSD.out.2.2.2 h2⟩)
              · refine .inr (.inr ?_)
                rw [HP3.out]
                have := HBH.out
                rw [h] at this
                cases hq : Cf.bytesOf x3.data.toList 32 with
                | none => rfl
                | some v => rw [hq] at this; cases this)
            clear hw hbd hbg hba
            go_wp2_with (first | ((with_reducible refine at_load 50 (.tmp 4) ?_); refine wpList_load_own rfl 50 (.tmp 4) rfl (w.heap.size + 1) rfl 50 _ _ R4.out Tryz.underlying50 rfl Cf.rz_info ?_) | ((with_reducible refine at_store 50 (.tmp 2) (.tmp 39) ?_); refine wpList_store_own rfl 50 (.tmp 2) (.tmp 39) rfl w.heap.size Cf.zport rfl rfl 50 _ R2.out Cf.rz_info rfl Cf.rz_one w.heap.size (Nat.le_refl _) ?_))
            intro w9 hR9 _ _ hb9
            have HR9 := Lib.hid hR9
            clear hR9
            go_wp2_with fail
            refine bodyPost_ret (results_row_tmp1 Tryz.results18 _ _ w.heap.size 50 Cf.zport _ rfl HR9.out Tryz.underlying50 rfl Cf.rz_info) rfl ?_
            exact ⟨Cf.rptAns_no HN.out, hbF.trans hb9⟩
          | false =>
            rw [Bool.or_eq_false_iff, Bool.and_eq_false_iff, Bool.not_eq_false'] at hbd
            obtain ⟨hside, rfl⟩ := hbd
            have hsd : Cf.part xs 2 = [103] ∨ Cf.part xs 2 = [97] := by
              rcases hside with h | h
              · exact .inl (HSD.out.1 h)
              · exact .inr (HSD.out.2.2.1 h)
            obtain ⟨bs, hbs⟩ : ∃ bs, Cf.bytesOf x3.data.toList 32 = some bs := by
              have := HBH.out
              cases hq : Cf.bytesOf x3.data.toList 32 with
              | none => rw [hq] at this; cases this
              | some v => exact ⟨v, rfl⟩
            have hgr : (Cf.part xs 2 == [103]) = !bg := by
              cases bg
              · rw [HSD.out.1 rfl]; rfl
              · exact beq_eq_false_iff_ne.2 (HSD.out.2.1 rfl)
            have hx2g : (x2.toList == [103]) = !bg := hbg
            go_wp2_with fail
            refine (rnumber_any x1 _).mono ?_
            rintro e w4 ⟨he, hb⟩
            have hbF4 := hbF.trans (hb.mono hbF.size)
            have R2 := Lib.hid (R2.out.kept hb)
            have R4 := Lib.hid (R4.out.kept hb)
            have hbz4 : b < w3.heap.size := Nat.lt_of_lt_of_le hbz hbF.size
            have k2 := (hb.cell (p := ⟨b, off + 2, none⟩) hbz4).trans k2
            have k3 := (hb.cell (p := ⟨b, off + 3, none⟩) hbz4).trans k3
            have hsz4 : w.heap.size + 2 ≤ w4.heap.size := Nat.le_trans hsz3 hb.size
            clear hb k1 hbF hsz3 hside hbg hba HBH HSD
            have hbF := hbF4
            clear hbF4
            unfold Cf.RNumAns at he
            cases hv : Cf.numOf x1.data.toList with
            | none =>
              rw [hv] at he
              obtain ⟨z, rfl⟩ : ∃ z : Int, e = .returned (.tuple #[.int .i64 z, .bool false]) := he
              have HN := Lib.hid (Cf.link_bad hw (.inl (by rw [HP1.out]; exact hv)))
              clear hv hw hsd hbs hgr
              go_wp2_with (first | ((with_reducible refine at_load 50 (.tmp 4) ?_); refine wpList_load_own rfl 50 (.tmp 4) rfl (w.heap.size + 1) rfl 50 _ _ R4.out Tryz.underlying50 rfl Cf.rz_info ?_) | ((with_reducible refine at_store 50 (.tmp 2) (.tmp 49) ?_); refine wpList_store_own rfl 50 (.tmp 2) (.tmp 49) rfl w.heap.size Cf.zport rfl rfl 50 _ R2.out Cf.rz_info rfl Cf.rz_one w.heap.size (Nat.le_refl _) ?_))
              intro w9 hR9 _ _ hb9
              have HR9 := Lib.hid hR9
              clear hR9
              go_wp2_with fail
              refine bodyPost_ret (results_row_tmp1 Tryz.results18 _ _ w.heap.size 50 Cf.zport _ rfl HR9.out Tryz.underlying50 rfl Cf.rz_info) rfl ?_
              exact ⟨Cf.rptAns_no HN.out, hbF.trans hb9⟩
            | some r =>
              rw [hv] at he
              obtain rfl : e = .returned (.tuple #[.int .i64 r, .bool true]) := he
              have HT := Lib.hid (Cf.tail_link hw (by rw [HP1.out]; exact hv) hsd (by rw [HP3.out]; exact hbs))
              rw [hgr] at HT
              have HBS := Lib.hid hbs
              have HBL := Lib.hid (Cf.bytesOf_length hbs)
              rw [Cf.rz_is] at R4
              clear hv hw hsd hbs hgr
              have hq56 : (Value.bool (x2.toList == [103])) = .bool (!bg) := by rw [hx2g]
              go_wp2_with ((with_reducible refine at_store 4 (.tmp 50) (.const (.bool true)) ?_); refine wpList_store_cell rfl 4 (.tmp 50) (.const (.bool true)) rfl (w.heap.size + 1) 4 (.bool true) rfl rfl 50 _ R4.out (by simp) (by kernel_rfl) rfl w.heap.size (by omega) ?_)
              intro w5 hK hO hs hb
              have R4n : Hid (RowIs w5 (w.heap.size + 1) 50 (.int .i64 0 :: .slice none 0 0 :: .int .i64 0 :: .int .i64 0 :: .bool true :: .int .i64 0 :: .bool false :: byteVals (Cf.zeros 32)).toArray) := by show RowIs _ _ _ _; simpa using hK
              have R2n := Lib.hid ((hO _ (by omega)).trans R2.out)
              have hbFn := hbF.trans hb
              have hszn : w.heap.size + 2 ≤ w5.heap.size := by omega
              have k2 := (hb.cell (p := ⟨b, off + 2, none⟩) hbz).trans k2
              have k3 := (hb.cell (p := ⟨b, off + 3, none⟩) hbz).trans k3
              clear hK hO hs hb R4 R2 hbF
              have R4 := R4n
              have R2 : Hid (RowIs w5 w.heap.size 50 Cf.zport) := R2n
              have hbF := hbFn
              clear R4n R2n hbFn
              go_wp2_with ((with_reducible refine at_store 3 (.tmp 52) (.tmp 51) ?_); refine wpList_store_cell rfl 3 (.tmp 52) (.tmp 51) rfl (w.heap.size + 1) 5 (.int .i64 (r : Int)) rfl rfl 50 _ R4.out (by simp) (by kernel_rfl) rfl w.heap.size (by omega) ?_)
              intro w6 hK hO hs hb
              have R4n : Hid (RowIs w6 (w.heap.size + 1) 50 (.int .i64 0 :: .slice none 0 0 :: .int .i64 0 :: .int .i64 0 :: .bool true :: .int .i64 (r : Int) :: .bool false :: byteVals (Cf.zeros 32)).toArray) := by show RowIs _ _ _ _; simpa using hK
              have R2n := Lib.hid ((hO _ (by omega)).trans R2.out)
              have hbFn := hbF.trans hb
              have hszn : w.heap.size + 2 ≤ w6.heap.size := by omega
              have k2 := (hb.cell (p := ⟨b, off + 2, none⟩) hbz).trans k2
              have k3 := (hb.cell (p := ⟨b, off + 3, none⟩) hbz).trans k3
              clear hK hO hs hb R4 R2 hbF
              have R4 := R4n
              have R2 : Hid (RowIs w6 w.heap.size 50 Cf.zport) := R2n
              have hbF := hbFn
              clear R4n R2n hbFn
              go_wp2_with ((with_reducible refine at_store 4 (.tmp 57) (.tmp 56) ?_); refine wpList_store_cell rfl 4 (.tmp 57) (.tmp 56) rfl (w.heap.size + 1) 6 (.bool (!bg)) rfl rfl 50 _ R4.out (by simp) (by kernel_rfl) rfl w.heap.size (by omega) ?_)
              intro w7 hK hO hs hb
              have R4n : Hid (RowIs w7 (w.heap.size + 1) 50 (.int .i64 0 :: .slice none 0 0 :: .int .i64 0 :: .int .i64 0 :: .bool true :: .int .i64 (r : Int) :: .bool (!bg) :: byteVals (Cf.zeros 32)).toArray) := by show RowIs _ _ _ _; simpa using hK
              have R2n := Lib.hid ((hO _ (by omega)).trans R2.out)
              have hbFn := hbF.trans hb
              have hszn : w.heap.size + 2 ≤ w7.heap.size := by omega
              have k3 := (hb.cell (p := ⟨b, off + 3, none⟩) hbz).trans k3
              clear hK hO hs hb R4 R2 hbF
              have R4 := R4n
              have R2 : Hid (RowIs w7 w.heap.size 50 Cf.zport) := R2n
              have hbF := hbFn
              clear R4n R2n hbFn
              have HBY := Lib.hid (fun w => rbytes_any x3 32 bs (by decide) HBS.out w)
              go_wp2_with fail
              refine (HBY.out _).mono ?_
              rintro e w8 ⟨⟨bv, rfl, hown⟩, hb⟩
              have R4 := Lib.hid (R4.out.kept hb)
              have R2 := Lib.hid (R2.out.kept hb)
              have hbF8 := hbF.trans (hb.mono hbF.size)
              have hsz8 : w.heap.size + 2 ≤ w8.heap.size := Nat.le_trans hszn hb.size
              have hg7 : w.heap.size + 2 ≤ w7.heap.size := hszn
              unfold OwnB at hown
              rw [HBL.out] at hown
              obtain ⟨g, cpg, rfl⟩ := ownsRow_succ hown
              have HOW := Lib.hid hown
              have HG : Hid (w.heap.size + 2 ≤ g) := by show _ ≤ _; have := (hown.lt g rfl).1; omega
              have HBF := Lib.hid hbF8
              clear hb hown hbF k3 hbF8 hszn
              have hm0 : Cf.mixPsk bs 0 = Cf.zeros 32 := rfl
              rw [← hm0] at R4
              go_upto_region 13 with fail
              go_loopw [8] (fun v8 wr => ∃ i : Nat, i ≤ 32 ∧ v8 = .int .i64 i ∧ Hid (RowIs wr (w.heap.size + 1) 50 (.int .i64 0 :: .slice none 0 0 :: .int .i64 0 :: .int .i64 0 :: .bool true :: .int .i64 (r : Int) :: .bool (!bg) :: byteVals (Cf.mixPsk bs i)).toArray) ∧ Hid (RowIs wr w.heap.size 50 Cf.zport) ∧ Hid (wr.ownsRow w7.heap.size 5 1 (.slice (some ⟨g, 0, none⟩) 32 cpg) 32 (byteVals bs)) ∧ Hid (Below w.heap.size w wr) ∧ w.heap.size + 2 ≤ wr.heap.size) (fun v8 _ => 32 - (RowKit.intOf v8).toNat)
              case atStart => exact ⟨0, Nat.zero_le _, rfl, R4, R2, HOW, HBF, hsz8⟩
              case round =>
                rename World => wr
                clear R4 R2 HOW HBF hsz8
                obtain ⟨i, hi, rfl, R4, R2, HOW, HBF, hszr⟩ := hrel
                by_cases hlt : i < 32
                · have hci : wr.cell? ⟨g, i, none⟩ = some (.int .u8 ((bs.getD i 0).toNat : Int)) := by
                    rw [World.ownsRow.cellAt HOW.out i (by omega)]
                    unfold byteVals
                    have := HBL.out
                    rw [List.getElem?_map, List.getD_eq_getElem?_getD, List.getElem?_eq_getElem (by omega)]
                    rfl
                  have HMX := Lib.hid (Cf.mixPsk_next HBL.out hlt)
                  have HML := Lib.hid (Cf.mixPsk_len HBL.out hi)
                  generalize bs.getD i 0 = y at *
                  go_wp2_with ((with_reducible refine at_store 5 (.tmp 72) (.tmp 70) ?_); refine wpList_store_cell rfl 5 (.tmp 72) (.tmp 70) rfl (w.heap.size + 1) (7 + i) (.int .u8 (y.toNat : Int)) rfl rfl 50 _ R4.out (by simp [byteVals_length, HML.out]; omega) (by kernel_rfl) rfl w.heap.size (by omega) ?_)
                  intro w9 hK hO hs hb
                  rw [Cf.cells_put, ← HMX.out] at hK
                  have R4n := Lib.hid hK
                  have R2n : Hid (RowIs w9 w.heap.size 50 Cf.zport) := (hO _ (by omega)).trans R2.out
                  have hgn : g ≠ w.heap.size + 1 := by have := HG.out; omega
                  have HOWn : Hid (w9.ownsRow w7.heap.size 5 1 (.slice (some ⟨g, 0, none⟩) 32 cpg) 32 (byteVals bs)) := owns_stored HOW.out hO (by omega)
                  have HBFn := Lib.hid (HBF.out.trans hb)
                  have hszn : w.heap.size + 2 ≤ w9.heap.size := by omega
                  clear hK hO hs hb R4 R2 HOW HBF hci HMX HML
                  go_wp2_with fail
                  exact ⟨⟨i + 1, by omega, by go_num, R4n, R2n, HOWn, HBFn, hszn⟩, by simp [RowKit.intOf]; omega⟩
                · obtain rfl : i = 32 := by omega
                  have R4n := R4.out
                  rw [Cf.mixPsk_all HBL.out] at R4n
                  have R4n := Lib.hid R4n
                  have c4 : ¬ cap = 4 := by omega
                  have j4 : (4 : Int) ≤ (xs.length : Int) := by omega
                  clear R4 HOW
                  go_wp2_with fail
                  go_meet
                  exact ⟨4, true, r, !bg, bs, cap - 4, by rw [HL8.out], HL8, HT, HBL, R4n, R2, HBF, hszr⟩
      · have l8 : ((xs.length : Int) != 8) = true := by unfold bne; rw [beq_eq_false_iff_ne.2 (by omega)]; rfl
        have HN := Lib.hid (Cf.link_len hw hl8)
        clear hw hl8
        go_wp2_with (first | ((with_reducible refine at_load 50 (.tmp 4) ?_); refine wpList_load_own rfl 50 (.tmp 4) rfl (w.heap.size + 1) rfl 50 _ _ R4.out Tryz.underlying50 rfl Cf.rz_info ?_) | ((with_reducible refine at_store 50 (.tmp 2) (.tmp 39) ?_); refine wpList_store_own rfl 50 (.tmp 2) (.tmp 39) rfl w.heap.size Cf.zport rfl rfl 50 _ R2.out Cf.rz_info rfl Cf.rz_one w.heap.size (Nat.le_refl _) ?_))
        intro w9 hR9 _ _ hb9
        have HR9 := Lib.hid hR9
        clear hR9
        go_wp2_with fail
        refine bodyPost_ret (results_row_tmp1 Tryz.results18 _ _ w.heap.size 50 Cf.zport _ rfl HR9.out Tryz.underlying50 rfl Cf.rz_info) rfl ?_
        exact ⟨Cf.rptAns_no HN.out, hbF.trans hb9⟩
  case rest =>
    clear R2 R4 HB1 hsz2 c0 hq0
    rename World => w3
    obtain ⟨k, lk, ra, gr, psk, cap', rfl, HL, HT, HPK, R4, R2, HB, hsz3⟩ := hcut
    have hlen := HL.out
    have hp1 := Cf.part_get (xs := xs) (i := k) (by omega)
    have hp2 := Cf.part_get (xs := xs) (i := k + 1) (by omega)
    have hp3 := Cf.part_get (xs := xs) (i := k + 2) (by omega)
    have hp4 := Cf.part_get (xs := xs) (i := k + 3) (by omega)
    have y1 : w3.cell? ⟨b, off + k, none⟩ = some (.string xs[k]) := (HB.out.cell (p := ⟨b, off + k, none⟩) hbz).trans (HCS.out k (by omega))
    have y2 : w3.cell? ⟨b, off + k + 1, none⟩ = some (.string xs[k + 1]) := (HB.out.cell (p := ⟨b, off + k + 1, none⟩) hbz).trans (HCS.out (k + 1) (by omega))
    have y3 : w3.cell? ⟨b, off + k + 2, none⟩ = some (.string xs[k + 2]) := (HB.out.cell (p := ⟨b, off + k + 2, none⟩) hbz).trans (HCS.out (k + 2) (by omega))
    have y4 : w3.cell? ⟨b, off + k + 3, none⟩ = some (.string xs[k + 3]) := (HB.out.cell (p := ⟨b, off + k + 3, none⟩) hbz).trans (HCS.out (k + 3) (by omega))
    have hzz := HZ.out xs[k + 1] (List.getElem_mem _)
    have HZZ := Lib.hid hzz
    generalize xs[k] = z1 at *
    generalize xs[k + 1] = z2 at *
    generalize xs[k + 2] = z3 at *
    generalize xs[k + 3] = z4 at *
    have HP1 := Lib.hid hp1
    have HP2 := Lib.hid hp2
    have HP3 := Lib.hid hp3
    have HP4 := Lib.hid hp4
    have hT := HT.out
    have HBAD := Lib.hid hT.bad
    have HGOOD := Lib.hid (fun a b c d h1 h2 h3 h4 => hT.good a b c d HL.out h1 h2 h3 h4)
    rw [hp1, hp2, hp3, hp4] at HBAD HGOOD
    have hbT0 : b ≠ w.heap.size + 1 := by omega
    clear hp1 hp2 hp3 hp4 hT HT hlen HCS HZ hbz
    obtain ⟨o, ho⟩ : ∃ o, off + k = o := ⟨_, rfl⟩
    rw [ho] at y1 y2 y3 y4 ⊢
    have Y2 := Lib.hid y2
    clear ho hx hx1 hcap
    go_upto_region 20 with fail
    have hbd : Below w3.heap.size w3 w3.drew := (Below.refl _ _).drew
    have RD : (fun w' => w'.cell? ⟨b, o, none⟩ = some (.string z1) ∧ w'.cell? ⟨b, o + 2, none⟩ = some (.string z3) ∧ w'.cell? ⟨b, o + 3, none⟩ = some (.string z4)) w3.drew := ⟨y1, y3, y4⟩
    refine wp_region_held (S := fun w' => w'.cell? ⟨b, o, none⟩ = some (.string z1) ∧ w'.cell? ⟨b, o + 2, none⟩ = some (.string z3) ∧ w'.cell? ⟨b, o + 3, none⟩ = some (.string z4)) (by kernel_rfl) ?_
    change wpAnyH _ _ _ _ _ _ _ _ w3.drew
    have R4 := Lib.hid (R4.out.kept hbd)
    have R2 := Lib.hid (R2.out.kept hbd)
    have Y2d : Hid (w3.drew.cell? ⟨b, o + 1, none⟩ = some (.string z2)) := Y2.out
    have HBd := Lib.hid (HB.out.trans (hbd.mono (by omega)))
    have hszd : w.heap.size + 2 ≤ w3.drew.heap.size := Nat.le_trans hsz3 hbd.size
    clear hbd y1 y2 y3 y4 Y2 HB hsz3
    generalize w3.drew = wd at *
    refine wpAnyH_take (i := 0) (v := .slice (some ⟨b, o, none⟩) 4 cap') rfl (by kernel_rfl) (by kernel_rfl) (by kernel_rfl) (fun _ _ _ h => h) (Or.inl ⟨by rfl, fun w' hS' => by clear hS'; go_simp⟩) RD ?_
    (try simp only [Act.put, List.getElem_toArray, List.getElem_cons_succ, List.getElem_cons_zero, List.setIfInBounds_toArray, List.set])
    refine wpAnyH_take (i := 1) (v := .pointer (some ⟨b, o, none⟩)) rfl (by kernel_rfl) (by kernel_rfl) (by kernel_rfl) (fun _ _ _ h => h) (Or.inl ⟨by rfl, fun w' hS' => by clear hS'; go_simp⟩) RD ?_
    (try simp only [Act.put, List.getElem_toArray, List.getElem_cons_succ, List.getElem_cons_zero, List.setIfInBounds_toArray, List.set])
    refine wpAnyH_take (i := 2) (v := .string z1) rfl (by kernel_rfl) (by kernel_rfl) (by kernel_rfl) (fun _ _ _ h => h) (Or.inl ⟨by rfl, fun w' hS' => by have hk := hS'.1; clear hS'; go_simp⟩) RD ?_
    (try simp only [Act.put, List.getElem_toArray, List.getElem_cons_succ, List.getElem_cons_zero, List.setIfInBounds_toArray, List.set])
    refine wpAnyH_take (i := 3) (v := .slice (some ⟨b, o, none⟩) 4 cap') rfl (by kernel_rfl) (by kernel_rfl) (by kernel_rfl) (fun _ _ _ h => h) (Or.inl ⟨by rfl, fun w' hS' => by clear hS'; go_simp⟩) RD ?_
    (try simp only [Act.put, List.getElem_toArray, List.getElem_cons_succ, List.getElem_cons_zero, List.setIfInBounds_toArray, List.set])
    refine wpAnyH_take (i := 4) (v := .pointer (some ⟨b, o + 2, none⟩)) rfl (by kernel_rfl) (by kernel_rfl) (by kernel_rfl) (fun _ _ _ h => h) (Or.inl ⟨by rfl, fun w' hS' => by clear hS'; go_simp⟩) RD ?_
    (try simp only [Act.put, List.getElem_toArray, List.getElem_cons_succ, List.getElem_cons_zero, List.setIfInBounds_toArray, List.set])
    refine wpAnyH_take (i := 5) (v := .string z3) rfl (by kernel_rfl) (by kernel_rfl) (by kernel_rfl) (fun _ _ _ h => h) (Or.inl ⟨by rfl, fun w' hS' => by have hk := hS'.2.1; clear hS'; go_simp⟩) RD ?_
    (try simp only [Act.put, List.getElem_toArray, List.getElem_cons_succ, List.getElem_cons_zero, List.setIfInBounds_toArray, List.set])
    refine wpAnyH_take (i := 6) (v := .slice (some ⟨b, o, none⟩) 4 cap') rfl (by kernel_rfl) (by kernel_rfl) (by kernel_rfl) (fun _ _ _ h => h) (Or.inl ⟨by rfl, fun w' hS' => by clear hS'; go_simp⟩) RD ?_
    (try simp only [Act.put, List.getElem_toArray, List.getElem_cons_succ, List.getElem_cons_zero, List.setIfInBounds_toArray, List.set])
    refine wpAnyH_take (i := 7) (v := .pointer (some ⟨b, o + 3, none⟩)) rfl (by kernel_rfl) (by kernel_rfl) (by kernel_rfl) (fun _ _ _ h => h) (Or.inl ⟨by rfl, fun w' hS' => by clear hS'; go_simp⟩) RD ?_
    (try simp only [Act.put, List.getElem_toArray, List.getElem_cons_succ, List.getElem_cons_zero, List.setIfInBounds_toArray, List.set])
    refine wpAnyH_take (i := 8) (v := .string z4) rfl (by kernel_rfl) (by kernel_rfl) (by kernel_rfl) (fun _ _ _ h => h) (Or.inl ⟨by rfl, fun w' hS' => by have hk := hS'.2.2; clear hS'; go_simp⟩) RD ?_
    (try simp only [Act.put, List.getElem_toArray, List.getElem_cons_succ, List.getElem_cons_zero, List.setIfInBounds_toArray, List.set])
    refine wpAnyH_ready (rs := [9]) (by kernel_rfl) (by simp) ?_
    refine AllReadyH.cons (by first | (simp only [List.getElem?_toArray, List.getElem?_cons_succ, List.getElem?_cons_zero]; done) | (simp only [List.getElem?_toArray, List.getElem?_cons_succ, List.getElem?_cons_zero]; rfl)) (fun K hK => ?_) AllReadyH.nil
    go_simp
    have ha : Below wd.heap.size wd (wd.alloc (.cells #[.string z1, .string z3, .string z4] 9)) := (Below.refl _ _).alloc (Nat.le_refl _) _
    have RD1 : (fun w' => w'.cell? ⟨b, o, none⟩ = some (.string z1) ∧ w'.cell? ⟨b, o + 2, none⟩ = some (.string z3) ∧ w'.cell? ⟨b, o + 3, none⟩ = some (.string z4)) (wd.alloc (.cells #[.string z1, .string z3, .string z4] 9)) := ⟨(ha.cell (block_lt_of_cell RD.1)).trans RD.1, (ha.cell (block_lt_of_cell RD.2.1)).trans RD.2.1, (ha.cell (block_lt_of_cell RD.2.2)).trans RD.2.2⟩
    refine hK.out _ _ RD1 (fun _ => ?_)
    clear hK K RD
    (try simp only [Act.put, List.getElem_toArray, List.getElem_cons_succ, List.getElem_cons_zero, List.setIfInBounds_toArray, List.set])
    have R4 := Lib.hid (R4.out.kept ha)
    have R2 := Lib.hid (R2.out.kept ha)
    have Y2 : Hid ((wd.alloc (.cells #[.string z1, .string z3, .string z4] 9)).cell? ⟨b, o + 1, none⟩ = some (.string z2)) := (ha.cell (block_lt_of_cell Y2d.out)).trans Y2d.out
    have HBe := Lib.hid (HBd.out.trans (ha.mono (by omega)))
    have hsze : w.heap.size + 2 ≤ (wd.alloc (.cells #[.string z1, .string z3, .string z4] 9)).heap.size := Nat.le_trans hszd ha.size
    have hrow := rowIs_new wd 9 #[.string z1, .string z3, .string z4]
    have hnew : wd.heap.size < (wd.alloc (.cells #[.string z1, .string z3, .string z4] 9)).heap.size := by simp
    generalize wd.alloc (.cells #[.string z1, .string z3, .string z4] 9) = we at *
    have HNB := Lib.hid (rnumbers_any (some ⟨wd.heap.size, 0, none⟩) 3 [z1, z3, z4] (by show 3 ≤ 200000; decide) we (.inr ⟨wd.heap.size, 0, rfl, hnew, fun i hi => by
      match i, hi with
      | 0, _ => exact hrow.cell 0
      | 1, _ => exact hrow.cell 1
      | 2, _ => exact hrow.cell 2⟩))
    have RD := RD1
    clear RD1 ha HBd hszd Y2d hrow hnew
    refine wpAnyH_ready (rs := [10]) (by kernel_rfl) (by simp) ?_
    refine AllReadyH.cons (by first | (simp only [List.getElem?_toArray, List.getElem?_cons_succ, List.getElem?_cons_zero]; done) | (simp only [List.getElem?_toArray, List.getElem?_cons_succ, List.getElem?_cons_zero]; rfl)) (fun K hK => ?_) AllReadyH.nil
    go_simp
    refine HNB.out.mono ?_
    rintro e wf ⟨he, hb⟩
    have RD2 : (fun w' => w'.cell? ⟨b, o, none⟩ = some (.string z1) ∧ w'.cell? ⟨b, o + 2, none⟩ = some (.string z3) ∧ w'.cell? ⟨b, o + 3, none⟩ = some (.string z4)) wf := ⟨(hb.cell (block_lt_of_cell RD.1)).trans RD.1, (hb.cell (block_lt_of_cell RD.2.1)).trans RD.2.1, (hb.cell (block_lt_of_cell RD.2.2)).trans RD.2.2⟩
    have R4 := Lib.hid (R4.out.kept hb)
    have R2 := Lib.hid (R2.out.kept hb)
    have Y2 : Hid (wf.cell? ⟨b, o + 1, none⟩ = some (.string z2)) := (hb.cell (block_lt_of_cell Y2.out)).trans Y2.out
    have HBf := Lib.hid (HBe.out.trans (hb.mono (by omega)))
    have hszf : w.heap.size + 2 ≤ wf.heap.size := Nat.le_trans hsze hb.size
    clear hb HNB HBe
    unfold Cf.RNumsAns at he
    cases hv : Cf.allNum (Cf.tl [z1, z3, z4]) with
    | none =>
      rw [hv] at he
      obtain rfl : e = .returned (.tuple #[.slice none 0 0, .bool false]) := he
      have HN : Hid (Cf.portOf (Cf.lists xs) = none) := HBAD.out (by
        rcases Cf.allNum3_none hv with h | h | h
        · exact .inl h
        · exact .inr (.inr (.inl h))
        · exact .inr (.inr (.inr h)))
      clear RD hv HBAD HGOOD
      refine hK.out _ _ RD2 (fun _ => ?_)
      clear hK K
      (try simp only [Act.put, List.getElem_toArray, List.getElem_cons_succ, List.getElem_cons_zero, List.setIfInBounds_toArray, List.set])
      have RD := RD2
      clear RD2
      refine wpAnyH_take (i := 11) (v := .tuple #[.slice none 0 0, .bool false]) rfl (by kernel_rfl) (by kernel_rfl) (by kernel_rfl) (fun _ _ _ h => h) (Or.inl ⟨by rfl, fun w' hS' => by clear hS'; go_simp⟩) RD ?_
      (try simp only [Act.put, List.getElem_toArray, List.getElem_cons_succ, List.getElem_cons_zero, List.setIfInBounds_toArray, List.set])
      refine wpAnyH_take (i := 12) (v := .slice none 0 0) rfl (by kernel_rfl) (by kernel_rfl) (by kernel_rfl) (fun _ _ _ h => h) (Or.inl ⟨by rfl, fun w' hS' => by clear hS'; go_simp⟩) RD ?_
      (try simp only [Act.put, List.getElem_toArray, List.getElem_cons_succ, List.getElem_cons_zero, List.setIfInBounds_toArray, List.set])
      refine wpAnyH_take (i := 13) (v := .bool false) rfl (by kernel_rfl) (by kernel_rfl) (by kernel_rfl) (fun _ _ _ h => h) (Or.inl ⟨by rfl, fun w' hS' => by clear hS'; go_simp⟩) RD ?_
      (try simp only [Act.put, List.getElem_toArray, List.getElem_cons_succ, List.getElem_cons_zero, List.setIfInBounds_toArray, List.set])
      refine wpAnyH_take (i := 14) (v := .slice none 0 0) rfl (by kernel_rfl) (by kernel_rfl) (by kernel_rfl) (fun _ _ _ h => h) (Or.inl ⟨by rfl, fun w' hS' => by clear hS'; go_simp⟩) RD ?_
      (try simp only [Act.put, List.getElem_toArray, List.getElem_cons_succ, List.getElem_cons_zero, List.setIfInBounds_toArray, List.set])
      refine wpAnyH_take (i := 15) (v := .bool false) rfl (by kernel_rfl) (by kernel_rfl) (by kernel_rfl) (fun _ _ _ h => h) (Or.inl ⟨by rfl, fun w' hS' => by clear hS'; go_simp⟩) RD ?_
      (try simp only [Act.put, List.getElem_toArray, List.getElem_cons_succ, List.getElem_cons_zero, List.setIfInBounds_toArray, List.set])
      refine wpAnyH_done (by kernel_rfl) ?_ _
      (try simp only [Act.put, List.getElem_toArray, List.getElem_cons_succ, List.getElem_cons_zero, List.setIfInBounds_toArray, List.set])
      clear RD
      have hbF := HBf.out
      go_wp2_with (first | ((with_reducible refine at_build 50 ?_); refine wpList_build_port rfl ?_) | ((with_reducible refine at_store 50 (.tmp 2) (.tmp 103) ?_); refine wpList_store_own rfl 50 (.tmp 2) (.tmp 103) rfl w.heap.size Cf.zport rfl rfl 50 _ R2.out Cf.rz_info rfl Cf.rz_one w.heap.size (Nat.le_refl _) ?_))
      intro w9 hR9 _ _ hb9
      have HR9 := Lib.hid hR9
      clear hR9
      go_wp2_with fail
      refine bodyPost_ret (results_row_tmp1 Tryz.results18 _ _ w.heap.size 50 Cf.zport _ rfl HR9.out Tryz.underlying50 rfl Cf.rz_info) rfl ?_
      exact ⟨Cf.rptAns_no HN.out, hbF.trans hb9⟩
    | some ns =>
      rw [hv] at he
      obtain ⟨nv, rfl, hout⟩ : ∃ v, e = .returned (.tuple #[v, .bool true]) ∧ OutInts wf we.heap.size v (Cf.ints ns) := he
      obtain ⟨n1, n3, n4, hn1, hn3, hn4, rfl⟩ := Cf.allNum3_some hv
      have HN1 := Lib.hid hn1
      have HN3 := Lib.hid hn3
      have HN4 := Lib.hid hn4
      have hout : wf.ownsRow we.heap.size 3 1 nv 3 [.int .i64 (n1 : Int), .int .i64 (n3 : Int), .int .i64 (n4 : Int)] := hout
      obtain ⟨g, cpg, rfl⟩ := ownsRow_succ hout
      have hge : we.heap.size ≤ g := (hout.lt g rfl).1
      have m1 : wf.cell? ⟨g, 0, none⟩ = some (.int .i64 (n1 : Int)) := World.ownsRow.cellAt hout 0 (by omega)
      have m3 : wf.cell? ⟨g, 1, none⟩ = some (.int .i64 (n3 : Int)) := World.ownsRow.cellAt hout 1 (by omega)
      have m4 : wf.cell? ⟨g, 2, none⟩ = some (.int .i64 (n4 : Int)) := World.ownsRow.cellAt hout 2 (by omega)
      have HBAD2 := Lib.hid (fun h => HBAD.out (.inr (.inl h)))
      clear RD hv HBAD hn1 hn3 hn4 hout
      refine hK.out _ _ RD2 (fun _ => ?_)
      clear hK K
      (try simp only [Act.put, List.getElem_toArray, List.getElem_cons_succ, List.getElem_cons_zero, List.setIfInBounds_toArray, List.set])
      have RD := RD2
      clear RD2
      refine wpAnyH_take (i := 11) (v := .tuple #[.slice (some ⟨g, 0, none⟩) 3 cpg, .bool true]) rfl (by kernel_rfl) (by kernel_rfl) (by kernel_rfl) (fun _ _ _ h => h) (Or.inl ⟨by rfl, fun w' hS' => by clear hS'; go_simp⟩) RD ?_
      (try simp only [Act.put, List.getElem_toArray, List.getElem_cons_succ, List.getElem_cons_zero, List.setIfInBounds_toArray, List.set])
      refine wpAnyH_take (i := 12) (v := .slice (some ⟨g, 0, none⟩) 3 cpg) rfl (by kernel_rfl) (by kernel_rfl) (by kernel_rfl) (fun _ _ _ h => h) (Or.inl ⟨by rfl, fun w' hS' => by clear hS'; go_simp⟩) RD ?_
      (try simp only [Act.put, List.getElem_toArray, List.getElem_cons_succ, List.getElem_cons_zero, List.setIfInBounds_toArray, List.set])
      refine wpAnyH_take (i := 13) (v := .bool true) rfl (by kernel_rfl) (by kernel_rfl) (by kernel_rfl) (fun _ _ _ h => h) (Or.inl ⟨by rfl, fun w' hS' => by clear hS'; go_simp⟩) RD ?_
      (try simp only [Act.put, List.getElem_toArray, List.getElem_cons_succ, List.getElem_cons_zero, List.setIfInBounds_toArray, List.set])
      refine wpAnyH_take (i := 14) (v := .slice (some ⟨g, 0, none⟩) 3 cpg) rfl (by kernel_rfl) (by kernel_rfl) (by kernel_rfl) (fun _ _ _ h => h) (Or.inl ⟨by rfl, fun w' hS' => by clear hS'; go_simp⟩) RD ?_
      (try simp only [Act.put, List.getElem_toArray, List.getElem_cons_succ, List.getElem_cons_zero, List.setIfInBounds_toArray, List.set])
      refine wpAnyH_take (i := 15) (v := .bool true) rfl (by kernel_rfl) (by kernel_rfl) (by kernel_rfl) (fun _ _ _ h => h) (Or.inl ⟨by rfl, fun w' hS' => by clear hS'; go_simp⟩) RD ?_
      (try simp only [Act.put, List.getElem_toArray, List.getElem_cons_succ, List.getElem_cons_zero, List.setIfInBounds_toArray, List.set])
      refine wpAnyH_done (by kernel_rfl) ?_ _
      (try simp only [Act.put, List.getElem_toArray, List.getElem_cons_succ, List.getElem_cons_zero, List.setIfInBounds_toArray, List.set])
      clear RD
      have hbF := HBf.out
      have hgT : g ≠ w.heap.size + 1 := by omega
      have hY2b := block_lt_of_cell Y2.out
      have hbT : b ≠ w.heap.size + 1 := hbT0
      go_wp2_with ((with_reducible refine at_store 3 (.tmp 107) (.tmp 106) ?_); refine wpList_store_cell rfl 3 (.tmp 107) (.tmp 106) rfl (w.heap.size + 1) 0 (.int .i64 (n1 : Int)) rfl rfl 50 _ R4.out (by simp) (by kernel_rfl) rfl w.heap.size (by omega) ?_)
      intro wg hK hO hs hb
      have R4n : Hid (RowIs wg (w.heap.size + 1) 50 (.int .i64 (n1 : Int) :: .slice none 0 0 :: .int .i64 0 :: .int .i64 0 :: .bool lk :: .int .i64 (ra : Int) :: .bool gr :: byteVals psk).toArray) := by show RowIs _ _ _ _; simpa using hK
      have R2n := Lib.hid ((hO _ (by omega)).trans R2.out)
      have hbFn := hbF.trans hb
      have hszn : w.heap.size + 2 ≤ wg.heap.size := by omega
      have Y2n := Lib.hid ((Cf.cell_same (p := ⟨b, o + 1, none⟩) hO hbT).trans Y2.out)
      have m3 := (Cf.cell_same (p := ⟨g, 1, none⟩) hO hgT).trans m3
      have m4 := (Cf.cell_same (p := ⟨g, 2, none⟩) hO hgT).trans m4
      clear hK hO hs hb R4 R2 hbF Y2
      have R4 := R4n
      have R2 : Hid (RowIs wg w.heap.size 50 Cf.zport) := R2n
      have Y2 : Hid (wg.cell? ⟨b, o + 1, none⟩ = some (.string z2)) := Y2n
      have hbF := hbFn
      clear R4n R2n hbFn Y2n
      go_wp2_with ((with_reducible refine at_store 3 (.tmp 111) (.tmp 110) ?_); refine wpList_store_cell rfl 3 (.tmp 111) (.tmp 110) rfl (w.heap.size + 1) 2 (.int .i64 (n3 : Int)) rfl rfl 50 _ R4.out (by simp) (by kernel_rfl) rfl w.heap.size (by omega) ?_)
      intro wh hK hO hs hb
      have R4n : Hid (RowIs wh (w.heap.size + 1) 50 (.int .i64 (n1 : Int) :: .slice none 0 0 :: .int .i64 (n3 : Int) :: .int .i64 0 :: .bool lk :: .int .i64 (ra : Int) :: .bool gr :: byteVals psk).toArray) := by show RowIs _ _ _ _; simpa using hK
      have R2n := Lib.hid ((hO _ (by omega)).trans R2.out)
      have hbFn := hbF.trans hb
      have hszn : w.heap.size + 2 ≤ wh.heap.size := by omega
      have Y2n := Lib.hid ((Cf.cell_same (p := ⟨b, o + 1, none⟩) hO hbT).trans Y2.out)
      have m4 := (Cf.cell_same (p := ⟨g, 2, none⟩) hO hgT).trans m4
      clear hK hO hs hb R4 R2 hbF Y2
      have R4 := R4n
      have R2 : Hid (RowIs wh w.heap.size 50 Cf.zport) := R2n
      have Y2 : Hid (wh.cell? ⟨b, o + 1, none⟩ = some (.string z2)) := Y2n
      have hbF := hbFn
      clear R4n R2n hbFn Y2n
      go_wp2_with ((with_reducible refine at_store 3 (.tmp 115) (.tmp 114) ?_); refine wpList_store_cell rfl 3 (.tmp 115) (.tmp 114) rfl (w.heap.size + 1) 3 (.int .i64 (n4 : Int)) rfl rfl 50 _ R4.out (by simp) (by kernel_rfl) rfl w.heap.size (by omega) ?_)
      intro wi hK hO hs hb
      have R4n : Hid (RowIs wi (w.heap.size + 1) 50 (.int .i64 (n1 : Int) :: .slice none 0 0 :: .int .i64 (n3 : Int) :: .int .i64 (n4 : Int) :: .bool lk :: .int .i64 (ra : Int) :: .bool gr :: byteVals psk).toArray) := by show RowIs _ _ _ _; simpa using hK
      have R2n := Lib.hid ((hO _ (by omega)).trans R2.out)
      have hbFn := hbF.trans hb
      have hszn : w.heap.size + 2 ≤ wi.heap.size := by omega
      have Y2n := Lib.hid ((Cf.cell_same (p := ⟨b, o + 1, none⟩) hO hbT).trans Y2.out)
      clear hK hO hs hb R4 R2 hbF Y2
      have R4 := R4n
      have R2 : Hid (RowIs wi w.heap.size 50 Cf.zport) := R2n
      have Y2 : Hid (wi.cell? ⟨b, o + 1, none⟩ = some (.string z2)) := Y2n
      have hbF := hbFn
      clear R4n R2n hbFn Y2n
      obtain ⟨q, hq⟩ : ∃ q, (z2.toList == [45]) = q := ⟨_, rfl⟩
      have y2 := Y2.out
      cases q with
      | true =>
        have hz2 : z2.data.toList = [45] := by rw [Lib.toList_data] at hq; exact beq_iff_eq.1 hq
        have HFI := Lib.hid (fun wz => Cf.rptAns_yes (B := w.heap.size) (w := wz) (HGOOD.out n1 [] n3 n4 HN1.out (by unfold Cf.tagsOf; rw [if_pos hz2]) HN3.out HN4.out) (outInts_nil wz w.heap.size) HPK.out)
        clear hz2 HGOOD HN1 HN3 HN4
        go_wp2_with (first | ((with_reducible refine at_load 50 (.tmp 4) ?_); refine wpList_load_own rfl 50 (.tmp 4) rfl (w.heap.size + 1) rfl 50 _ _ R4.out Tryz.underlying50 rfl (rpc_info HPK.out) ?_) | ((with_reducible refine at_store 50 (.tmp 2) (.tmp 133) ?_); refine wpList_store_own rfl 50 (.tmp 2) (.tmp 133) rfl w.heap.size (.int .i64 (n1 : Int) :: .slice none 0 0 :: .int .i64 (n3 : Int) :: .int .i64 (n4 : Int) :: .bool lk :: .int .i64 (ra : Int) :: .bool gr :: byteVals psk).toArray rfl rfl 50 _ R2.out (rpc_info HPK.out) ?z1 (pc_one rfl) w.heap.size (Nat.le_refl _) ?_))
        case z1 => rw [Cf.rz_is]; simp [byteVals_length, HPK.out, Cf.zeros]
        intro w9 hR9 hO9 _ hb9
        have HR9 := Lib.hid hR9
        have HB9 := Lib.hid (hbF.trans hb9)
        clear hR9 hO9 hb9
        go_wp2_with fail
        refine bodyPost_ret (results_row_tmp1 Tryz.results18 _ _ w.heap.size 50 (.int .i64 (n1 : Int) :: .slice none 0 0 :: .int .i64 (n3 : Int) :: .int .i64 (n4 : Int) :: .bool lk :: .int .i64 (ra : Int) :: .bool gr :: byteVals psk).toArray _ rfl HR9.out Tryz.underlying50 rfl (rpc_info HPK.out)) rfl ?_
        exact ⟨HFI.out _, HB9.out⟩
      | false =>
        have hz2 : z2.data.toList ≠ [45] := by rw [Lib.toList_data] at hq; exact beq_eq_false_iff_ne.1 hq
        have htg : Cf.tagsOf z2.data.toList = Cf.allNum (Oct.parts 44 z2.data.toList) := by unfold Cf.tagsOf; rw [if_neg hz2]
        have HTG := Lib.hid htg
        clear hz2 htg
        go_wp2_with fail
        refine (rsplit_at z2 44 hzz _).mono ?_
        rintro e wj ⟨⟨gs, cps, rfl, _, _, hat⟩, hb⟩
        have R4 := Lib.hid (R4.out.kept hb)
        have R2 := Lib.hid (R2.out.kept hb)
        have hbFj := hbF.trans (hb.mono (by omega))
        have hszj : w.heap.size + 2 ≤ wj.heap.size := Nat.le_trans hszn hb.size
        have HNB := Lib.hid (rnumbers_any (some ⟨gs, 0, none⟩) cps (Oct.pieces 44 z2) (by
          have h1 := Cf.parts_count 44 z2.data.toList
          unfold Oct.pieces
          rw [List.length_map]
          have e : z2.data.toList.length = z2.size := by simp
          have := HZZ.out
          omega) wj hat)
        have htl : Cf.tl (Oct.pieces 44 z2) = Oct.parts 44 z2.data.toList := Cf.pieces_list 44 z2
        rw [htl] at HNB
        clear hb hbF hszn Y2 y2 hat htl
        have hbF := hbFj
        have hszn := hszj
        clear hbFj hszj
        go_wp2_with fail
        refine HNB.out.mono ?_
        rintro e wk ⟨he, hb⟩
        have R4 := Lib.hid (R4.out.kept hb)
        have R2 := Lib.hid (R2.out.kept hb)
        have hbFj := hbF.trans (hb.mono (by omega))
        have hszj : w.heap.size + 2 ≤ wk.heap.size := Nat.le_trans hszn hb.size
        have hjT : w.heap.size + 2 ≤ wj.heap.size := hszn
        clear hb hbF hszn HNB
        have hbF := hbFj
        have hszn := hszj
        clear hbFj hszj
        unfold Cf.RNumsAns at he
        cases hv : Cf.allNum (Oct.parts 44 z2.data.toList) with
        | none =>
          rw [hv] at he
          obtain rfl : e = .returned (.tuple #[.slice none 0 0, .bool false]) := he
          have HN : Hid (Cf.portOf (Cf.lists xs) = none) := HBAD2.out (HTG.out.trans hv)
          clear hv HGOOD HTG
          go_wp2_with (first | ((with_reducible refine at_build 50 ?_); refine wpList_build_port rfl ?_) | ((with_reducible refine at_store 50 (.tmp 2) (.tmp 130) ?_); refine wpList_store_own rfl 50 (.tmp 2) (.tmp 130) rfl w.heap.size Cf.zport rfl rfl 50 _ R2.out Cf.rz_info rfl Cf.rz_one w.heap.size (Nat.le_refl _) ?_))
          intro w9 hR9 _ _ hb9
          have HR9 := Lib.hid hR9
          clear hR9
          go_wp2_with fail
          refine bodyPost_ret (results_row_tmp1 Tryz.results18 _ _ w.heap.size 50 Cf.zport _ rfl HR9.out Tryz.underlying50 rfl Cf.rz_info) rfl ?_
          exact ⟨Cf.rptAns_no HN.out, hbF.trans hb9⟩
        | some ts =>
          rw [hv] at he
          obtain ⟨tv, rfl, hout⟩ : ∃ v, e = .returned (.tuple #[v, .bool true]) ∧ OutInts wk wj.heap.size v (Cf.ints ts) := he
          have hto := Cf.owns_one hout
          have HOUT := Lib.hid hout
          have HTT := Lib.hid (HTG.out.trans hv)
          clear hv HTG hout
          go_wp2_with ((with_reducible refine at_store 47 (.tmp 132) (.tmp 131) ?_); refine wpList_store_cell rfl 47 (.tmp 132) (.tmp 131) rfl (w.heap.size + 1) 1 tv rfl rfl 50 _ R4.out (by simp) (by kernel_rfl) hto w.heap.size (by omega) ?_)
          intro wl hK hO hs hb
          have R4n : Hid (RowIs wl (w.heap.size + 1) 50 (.int .i64 (n1 : Int) :: tv :: .int .i64 (n3 : Int) :: .int .i64 (n4 : Int) :: .bool lk :: .int .i64 (ra : Int) :: .bool gr :: byteVals psk).toArray) := by show RowIs _ _ _ _; simpa using hK
          have R2n := Lib.hid ((hO _ (by omega)).trans R2.out)
          have HOUTn := Lib.hid (owns_stored HOUT.out hO (by omega))
          have hbFn := hbF.trans hb
          clear hK hO hs hb R4 R2 hbF HOUT
          have R4 := R4n
          have R2 : Hid (RowIs wl w.heap.size 50 Cf.zport) := R2n
          have hbF := hbFn
          clear R4n R2n hbFn
          go_wp2_with (first | ((with_reducible refine at_load 50 (.tmp 4) ?_); refine wpList_load_own rfl 50 (.tmp 4) rfl (w.heap.size + 1) rfl 50 _ _ R4.out Tryz.underlying50 rfl (rpc_info HPK.out) ?_) | ((with_reducible refine at_store 50 (.tmp 2) (.tmp 133) ?_); refine wpList_store_own rfl 50 (.tmp 2) (.tmp 133) rfl w.heap.size (.int .i64 (n1 : Int) :: tv :: .int .i64 (n3 : Int) :: .int .i64 (n4 : Int) :: .bool lk :: .int .i64 (ra : Int) :: .bool gr :: byteVals psk).toArray rfl rfl 50 _ R2.out (rpc_info HPK.out) ?z1 (pc_one (by rw [hto]; rfl)) w.heap.size (Nat.le_refl _) ?_))
          case z1 => rw [Cf.rz_is]; simp [byteVals_length, HPK.out, Cf.zeros]
          intro w9 hR9 hO9 _ hb9
          have HR9 := Lib.hid hR9
          have HB9 := Lib.hid (hbF.trans hb9)
          have HOUT9 : Hid (OutInts w9 w.heap.size tv (Cf.ints ts)) := Cf.owns_lower (owns_stored HOUTn.out hO9 (by omega)) (by omega)
          have HFI := Lib.hid (Cf.rptAns_yes (HGOOD.out n1 ts n3 n4 HN1.out HTT.out HN3.out HN4.out) HOUT9.out HPK.out)
          clear hR9 hO9 hb9
          go_wp2_with fail
          refine bodyPost_ret (results_row_tmp1 Tryz.results18 _ _ w.heap.size 50 (.int .i64 (n1 : Int) :: tv :: .int .i64 (n3 : Int) :: .int .i64 (n4 : Int) :: .bool lk :: .int .i64 (ra : Int) :: .bool gr :: byteVals psk).toArray _ rfl HR9.out Tryz.underlying50 rfl (rpc_info HPK.out)) rfl ?_
          exact ⟨HFI.out , HB9.out⟩
end Go.Proofs.YthfckdnennfnoaaGreatDoor
-- The document's ports in memory; a text's lines and its parts: plain laws. By an AI agent. 
namespace Go.Proofs.YthfckdnennfnoaaGreatDoor
open Go.RowKit Go.WideShapes Go.Sort Grow
namespace Cf
def RPorts (w : World) (base : Nat) (pv : Value) (ps : List (Pt × Value)) : Prop :=
  w.ownsRow base 50 39 pv ps.length (ps.flatMap fun q => (pcells q.1 q.2).toList) ∧ ∀ q ∈ ps, OutInts w base q.2 (ints q.1.tags) ∧ q.1.psk.length = 32
theorem RPorts.stored {w w' : World} {base X : Nat} {pv : Value} {ps : List (Pt × Value)} (h : RPorts w base pv ps) (hO : ∀ j, j ≠ X → w'.heap[j]? = w.heap[j]?) (hb : X < base) : RPorts w' base pv ps :=
  ⟨owns_stored h.1 hO hb, fun q hq => ⟨owns_stored (h.2 q hq).1 hO hb, (h.2 q hq).2⟩⟩
theorem RPorts.later {w w' : World} {base : Nat} {pv : Value} {ps : List (Pt × Value)} (h : RPorts w base pv ps) (hb : Below w.heap.size w w') : RPorts w' base pv ps :=
  ⟨owns_later h.1 hb, fun q hq => ⟨owns_later (h.2 q hq).1 hb, (h.2 q hq).2⟩⟩
theorem RPorts.nil (w : World) (base : Nat) : RPorts w base (.slice none 0 0) [] := ⟨World.ownsRow_nil _ _ _ _, fun q hq => by cases hq⟩
theorem rport_appended {base : Nat} {w w' : World} {pv v' : Value} {ps : List (Pt × Value)} {p : Pt} {tv : Value} {Z : Array Value} (hps : RPorts w base pv ps) (hT : OutInts w base tv (ints p.tags)) (hpl : p.psk.length = 32) (hbz : base ≤ w.heap.size)
    (hown : w'.ownsRow base 50 39 v' (ps.length + 1) (ps.flatMap (fun q => (pcells q.1 q.2).toList) ++ (pcells p tv).toList)) (hg : (w.alloc (.cells Z 50)).grownBy w' pv.ownBlock) :
    RPorts w' base v' (ps ++ [(p, tv)]) ∧ (∀ j, j < base → w'.heap[j]? = w.heap[j]?) ∧ w.heap.size ≤ w'.heap.size ∧ Below base w w' := by
  have hrow : ∀ r, pv.ownBlock = some r → base ≤ r ∧ r < w.heap.size ∧ ∃ cs, w.heap[r]? = some (.cells cs 50 (0, 0)) := fun r hr => owns_block hps.1 hr
  have hsz := hg.size
  rw [World.size_alloc] at hsz
  have key : ∀ j, j < w.heap.size → pv.ownBlock ≠ some j → w'.heap[j]? = w.heap[j]? := fun j hj hn =>
    (hg.block j (by rw [World.size_alloc]; omega) (fun e => hn e.symm)).trans (Below.heap_alloc _ _ _ hj)
  have hrow6 : ∀ r, pv.ownBlock = some r → ∃ cs, (w.alloc (.cells Z 50)).heap[r]? = some (.cells cs 50 (0, 0)) := fun r hr => by
    obtain ⟨_, h2, cs, h3⟩ := hrow r hr
    exact ⟨cs, (Below.heap_alloc _ _ _ h2).trans h3⟩
  refine ⟨⟨?_, fun q hq => ?_⟩, fun j hj => key j (by omega) (fun e => by have := (hrow j e).1; omega), by omega, ⟨hg.os, hg.tape, hg.output, by omega, fun j hj => key j (by omega) (fun e => by have := (hrow j e).1; omega)⟩⟩
  · rw [List.length_append, List.flatMap_append, List.flatMap_singleton]
    exact hown
  · rcases List.mem_append.1 hq with hq | hq
    · obtain ⟨h1, h2⟩ := hps.2 q hq
      exact ⟨owns_grown (World.ownsRow.alloc h1 _) hg (by decide) hrow6, h2⟩
    · obtain rfl := List.mem_singleton.1 hq
      exact ⟨owns_grown (World.ownsRow.alloc hT _) hg (by decide) hrow6, hpl⟩
theorem rpin_of {w : World} {base : Nat} {pv : Value} {psv : List (Pt × Value)} (h : RPorts w base pv psv) (hn : ∀ q ∈ psv, q.1.tags.length ≤ 1000000) : ∃ ao b off cap, pv = .slice ao (psv.map pvT).length cap ∧ (ao = some ⟨b, off, none⟩ ∨ psv.map pvT = []) ∧ PIn w b off (psv.map pvT) := by
  have hP : ∀ p ∈ psv.map pvT, IntsAt w p.ta p.tags ∧ p.tags.length ≤ 1000000 ∧ p.psk.length = 32 := fun p hp => by
    obtain ⟨q, hq, rfl⟩ := List.mem_map.1 hp
    obtain ⟨h1, h2⟩ := h.2 q hq
    have h3 := (pvT_cells h1).2
    refine ⟨h3, ?_, ?_⟩
    · have : (pvT q).tags = ints q.1.tags := by unfold pvT; split <;> rfl
      rw [this, ints_len]
      exact hn q hq
    · have : (pvT q).psk = q.1.psk := by unfold pvT; split <;> rfl
      rw [this]
      exact h2
  rcases h.1.2 with ⟨rfl, h0⟩ | ⟨g, cap, cur, rfl, hb, hc, _⟩
  · have hn : psv = [] := List.length_eq_zero_iff.1 h0
    subst hn
    exact ⟨none, 0, 0, 0, rfl, .inr rfl, fun i hi => absurd hi (Nat.not_lt_zero _), fun h => absurd h (Nat.lt_irrefl _), fun p hp => (by cases hp)⟩
  · refine ⟨some ⟨g, 0, none⟩, g, 0, cap, by rw [List.length_map], .inl rfl, fun i hi j v hj => ?_, fun _ => (Array.getElem?_eq_some_iff.1 hc).1, hP⟩
    rw [List.length_map] at hi
    have hm := List.getElem_mem hi
    obtain ⟨h1, h2⟩ := h.2 _ hm
    have he := (pvT_cells h1).1
    have hlen : ∀ q ∈ psv, (pcells q.1 q.2).toList.length = 39 := fun q hq => by
      have := (h.2 q hq).2
      simp [pcells, byteVals_length, this]
    have hg : (psv.map pvT).getD i .zero = pvT psv[i] := by
      rw [List.getD_eq_getElem?_getD, List.getElem?_map, List.getElem?_eq_getElem hi]
      rfl
    rw [hg, he] at hj
    have hj39 : j < 39 := by
      have := (List.getElem?_eq_some_iff.1 hj).1
      rwa [hlen _ hm] at this
    rw [World.ownsRow.cellAt h.1 (0 + i * 39 + j) (by omega), Nat.zero_add]
    have e := flat_getIn (enc := fun q : Pt × Value => (pcells q.1 q.2).toList) (k := 39) psv hlen i j hi hj39
    exact e.trans hj

theorem lines_parts : ∀ (l : List UInt8) (ps : List (List UInt8)) (p : List UInt8), Oct.parts 10 l = ps ++ [p] → lines l = ps.map (· ++ [10]) ++ (if p = [] then [] else [p])
  | [], ps, p, h => by
    have h : [[]] = ps ++ [p] := h
    have hl := congrArg List.length h
    simp at hl
    subst hl
    simp at h
    subst h
    rfl
  | a :: l, ps, p, h => by
    obtain ⟨qs, q, hq⟩ := parts_ne 10 l
    have ih := lines_parts l qs q hq
    unfold Oct.parts at h
    unfold lines
    by_cases e : a = 10
    · rw [if_pos e, hq] at h
      rw [if_pos e, ih]
      have h : ([] :: qs) ++ [q] = ps ++ [p] := h
      obtain ⟨h1, h2⟩ := List.append_inj' h rfl
      simp at h2
      subst h1 h2
      rfl
    · rw [if_neg e, hq] at h
      rw [if_neg e, ih]
      cases qs with
      | nil =>
        have h : [] ++ [a :: q] = ps ++ [p] := h
        obtain ⟨h1, h2⟩ := List.append_inj' h rfl
        simp at h2
        subst h1 h2
        by_cases eq : q = []
        · rw [if_pos eq, eq]; rfl
        · rw [if_neg eq]; rfl
      | cons r rs =>
        have h : ((a :: r) :: rs) ++ [q] = ps ++ [p] := h
        obtain ⟨h1, h2⟩ := List.append_inj' h rfl
        simp at h2
        subst h1 h2
        rfl
def nl (x : ByteArray) : ByteArray := ⟨(x.data.toList ++ [10]).toArray⟩
theorem linesB_pieces {s : ByteArray} {I : List ByteArray} {z : ByteArray} (h : Oct.pieces 10 s = I ++ [z]) : linesB s = I.map nl ++ (if z.size = 0 then [] else [z]) := by
  have hp : Oct.parts 10 s.data.toList = tl I ++ [z.data.toList] := by
    rw [← pieces_list, h]
    unfold tl
    simp
  have hl := lines_parts _ _ _ hp
  unfold linesB
  rw [hl, List.map_append]
  congr 1
  · unfold tl nl
    rw [List.map_map, List.map_map]
    rfl
  · have hzz : z.data.toList = [] ↔ z.size = 0 := by
      have e : z.data.toList.length = z.size := by simp
      constructor
      · intro h; rw [h] at e; exact e.symm
      · intro h; exact List.eq_nil_of_length_eq_zero (by omega)
    by_cases h0 : z.size = 0
    · rw [if_pos h0, if_pos (hzz.2 h0)]; rfl
    · rw [if_neg h0, if_neg (fun h => h0 (hzz.1 h))]; rfl
theorem parts_none10 {s : ByteArray} {I : List ByteArray} {z : ByteArray} (h : Oct.pieces 10 s = I ++ [z]) : 10 ∉ z.data.toList := by
  have hp : Oct.parts 10 s.data.toList = tl I ++ [z.data.toList] := by
    rw [← pieces_list, h]
    unfold tl
    simp
  have key : ∀ (l : List UInt8), ∀ p ∈ Oct.parts 10 l, 10 ∉ p := by
    intro l
    induction l with
    | nil => intro p hp; simp [Oct.parts] at hp; simp [hp]
    | cons a l ih =>
      intro p hp
      unfold Oct.parts at hp
      by_cases e : a = 10
      · rw [if_pos e] at hp
        rcases List.mem_cons.1 hp with rfl | hp
        · simp
        · exact ih p hp
      · rw [if_neg e] at hp
        cases hq : Oct.parts 10 l with
        | nil => rw [hq] at hp; simp at hp; simp [hp]; exact fun h => e h.symm
        | cons q qs =>
          rw [hq] at hp ih
          rcases List.mem_cons.1 hp with rfl | hp
          · have := ih q (by simp)
            simp
            exact ⟨fun h => e h.symm, this⟩
          · exact ih p (by simp [hp])
  exact key _ _ (by rw [hp]; simp)
theorem cut_nl (x : ByteArray) : cut (nl x) = some x := by
  unfold cut nl
  have e : (⟨(x.data.toList ++ [10]).toArray⟩ : ByteArray).data.toList = x.data.toList ++ [10] := rfl
  rw [e, if_pos (by simp), List.dropLast_concat]
theorem cut_none {z : ByteArray} (h : 10 ∉ z.data.toList) : cut z = none := by
  unfold cut
  rw [if_neg]
  intro hl
  exact h (List.mem_of_getLast? hl)
theorem linePt_nl (x : ByteArray) : linePt (nl x) = portOf (lists (Oct.pieces 32 x)) := linePt_of (cut_nl x)
theorem lineBr_nl (x : ByteArray) : lineBr (nl x) = bridgeOf (lists (Oct.pieces 32 x)) := lineBr_of (cut_nl x)
/-- as far as the document's answer has read: k lines -/
def RStage (s : ByteArray) (I : List ByteArray) (z : ByteArray) (b : Br) (ps : List Pt) (k : Nat) : Prop := scan0 (linesB s) = scan b ps k ((I.drop k).map nl ++ (if z.size = 0 then [] else [z]))
theorem rstage_first {s : ByteArray} {I : List ByteArray} {z x : ByteArray} {b : Br} (h : Oct.pieces 10 s = I ++ [z]) (hI : 0 < I.length) (hx : I[0] = x) (hb : bridgeOf (lists (Oct.pieces 32 x)) = some b) : RStage s I z b [] 1 := by
  unfold RStage
  rw [linesB_pieces h]
  match I, hI, hx with
  | y :: I, _, hx =>
    have hx : y = x := hx
    subst hx
    show scan0 (nl y :: _) = _
    rw [scan0_cons, lineBr_nl, hb]
    rfl
theorem rstage_bad0 {s : ByteArray} {I : List ByteArray} {z x : ByteArray} (h : Oct.pieces 10 s = I ++ [z]) (hI : 0 < I.length) (hx : I[0] = x) (hb : bridgeOf (lists (Oct.pieces 32 x)) = none) : scan0 (linesB s) = .inl 1 := by
  rw [linesB_pieces h]
  match I, hI, hx with
  | y :: I, _, hx =>
    have hx : y = x := hx
    subst hx
    show scan0 (nl y :: _) = _
    rw [scan0_cons, lineBr_nl, hb]
theorem rstage_none {s : ByteArray} {I : List ByteArray} {z : ByteArray} (h : Oct.pieces 10 s = I ++ [z]) (hI : I.length = 0) : scan0 (linesB s) = .inl 1 := by
  have h10 := parts_none10 h
  rw [linesB_pieces h]
  obtain rfl : I = [] := List.eq_nil_of_length_eq_zero hI
  by_cases hz : z.size = 0
  · rw [if_pos hz]; rfl
  · rw [if_neg hz]
    show scan0 [z] = _
    rw [scan0_cons, lineBr_no (cut_none h10)]
theorem rstage_next {s : ByteArray} {I : List ByteArray} {z x : ByteArray} {b : Br} {ps : List Pt} {k : Nat} {p : Pt} (h : RStage s I z b ps k) (hk : k < I.length) (hx : I[k] = x) (hp : portOf (lists (Oct.pieces 32 x)) = some p) : RStage s I z b (ps ++ [p]) (k + 1) := by
  unfold RStage at h ⊢
  rw [h, List.drop_eq_getElem_cons hk, hx, List.map_cons, List.cons_append]
  conv => lhs; unfold scan
  rw [linePt_nl, hp]
theorem rstage_bad {s : ByteArray} {I : List ByteArray} {z x : ByteArray} {b : Br} {ps : List Pt} {k : Nat} (h : RStage s I z b ps k) (hk : k < I.length) (hx : I[k] = x) (hp : portOf (lists (Oct.pieces 32 x)) = none) : scan0 (linesB s) = .inl (k + 1) := by
  unfold RStage at h
  rw [h, List.drop_eq_getElem_cons hk, hx, List.map_cons, List.cons_append]
  unfold scan
  rw [linePt_nl, hp]
theorem rstage_end {s : ByteArray} {I : List ByteArray} {z : ByteArray} {b : Br} {ps : List Pt} (h : RStage s I z b ps I.length) (hz : z.size = 0) : scan0 (linesB s) = .inr (b, ps) := by
  unfold RStage at h
  rw [h, List.drop_length, if_pos hz]
  rfl
theorem rstage_more {s : ByteArray} {I : List ByteArray} {z : ByteArray} {b : Br} {ps : List Pt} (hI : Oct.pieces 10 s = I ++ [z]) (h : RStage s I z b ps I.length) (hz : z.size ≠ 0) : scan0 (linesB s) = .inl (I.length + 1) := by
  unfold RStage at h
  rw [h, List.drop_length, if_neg hz]
  show scan b ps I.length [z] = _
  unfold scan
  rw [linePt_no (cut_none (parts_none10 hI))]
def RParseAns (s : ByteArray) (B : Nat) (e : Ending) (w : World) : Prop := match scan0 (linesB s) with
  | .inl k => e = .returned (.tuple #[.agg zconf, .int .i64 k, .int .i64 11])
  | .inr (b, ps) => if cOk b ps = true then ∃ pv psv base, e = .returned (.tuple #[.agg (bcells b pv), .int .i64 0, .int .i64 0]) ∧ psv.map Prod.fst = ps ∧ B ≤ base ∧ RPorts w base pv psv ∧ b.id.length = 8 else e = .returned (.tuple #[.agg zconf, .int .i64 0, .int .i64 1])
theorem rparseAns_bad {s : ByteArray} {B k : Nat} {w : World} (h : scan0 (linesB s) = .inl k) : RParseAns s B (.returned (.tuple #[.agg zconf, .int .i64 k, .int .i64 11])) w := by unfold RParseAns; rw [h]
theorem rparseAns_arg {s : ByteArray} {B : Nat} {w : World} {b : Br} {ps : List Pt} (h : scan0 (linesB s) = .inr (b, ps)) (hc : cOk b ps = false) : RParseAns s B (.returned (.tuple #[.agg zconf, .int .i64 0, .int .i64 1])) w := by
  unfold RParseAns
  rw [h]
  show if cOk b ps = true then _ else _
  rw [if_neg (by rw [hc]; decide)]
theorem rparseAns_good {s : ByteArray} {B base : Nat} {w : World} {b : Br} {pv : Value} {psv : List (Pt × Value)} (h : scan0 (linesB s) = .inr (b, psv.map Prod.fst)) (hc : cOk b (psv.map Prod.fst) = true) (hB : B ≤ base) (hp : RPorts w base pv psv) (hi : b.id.length = 8) : RParseAns s B (.returned (.tuple #[.agg (bcells b pv), .int .i64 0, .int .i64 0])) w := by
  unfold RParseAns
  rw [h]
  show if cOk b _ = true then _ else _
  rw [if_pos hc]
  exact ⟨pv, psv, base, rfl, rfl, hB, hp, hi⟩
end Cf
end Go.Proofs.YthfckdnennfnoaaGreatDoor
