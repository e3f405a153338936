/- least.Ports of a net that is not right. By an AI agent. -/
import Derived.Test.YtcmokhpnooldgaaLn15
namespace Go.Proofs.Ytcmokhpnooldgaa
open Go.RowKit Go.WideShapes Go.Sort Grow

set_option maxRecDepth 20000 in
set_option maxHeartbeats 1500000 in
theorem portsC_no (w : World) (RO : Nat) (d : Lk) (x1 x2 x3 x4 : Value) (hR : RowIs w RO 35 #[.slice none 0 0]) :
    Calls Try.prog 32 #[endV d.a d.p, endV d.b d.q, .pointer (some ⟨RO, 0, none⟩), x1, x2, x3, x4] w fun e w' => e = .returned (.tuple #[]) ∧ Below w.heap.size w w' := by
  have HR := Lib.hid hR
  clear hR
  go_enter Try.func32, Try.ntmps32
  go_upto_region 1 with fail
  generalize hW : (w.alloc _).alloc _ = w1
  have hbW : Below w.heap.size w w1 := by rw [← hW]; exact ((Below.refl _ _).alloc (Nat.le_refl _) _).alloc (by simp) _
  clear hW
  have c0 : w1.cell? ⟨RO, 0, none⟩ = some (.slice none 0 0) := (HR.out.kept hbW).cell 0
  go_quiet (fail)
  have hbq : Below w1.heap.size w1 (w1.drewN nq) := below_drewN (Below.refl _ _) _
  go_wp2_with fail
  (try simp only [Exit.inBlock, Exit.then])
  refine bodyPost_ret (results_none rfl _ _ _) rfl ?_
  exact ⟨rfl, hbW.trans (hbq.mono hbW.size)⟩

set_option maxRecDepth 20000 in
set_option maxHeartbeats 4000000 in
theorem ports_no (v : NV) (N : LN) (w : World) (h : NetAt w v N) (hl : N.links.length ≤ 1000) (hno : N.right = false) :
    Calls Try.prog 15 #[.agg #[.slice v.ai N.ids.length v.ci, .slice v.ac N.costs.length v.cc, .slice v.al N.links.length v.cl]] w fun e w' => (∃ g, e = .returned (.slice (some ⟨g, 0, none⟩) 0 0)) ∧ Below w.heap.size w w' := by
  have HN := Lib.hid h
  clear h
  go_enter Try.func15, Try.ntmps15
  go_upto_region 1 with fail
  generalize hW : w.alloc _ = w1
  have hbW : Below w.heap.size w w1 := by rw [← hW]; exact (Below.refl _ _).alloc (Nat.le_refl _) _
  have R0 : Hid (RowIs w1 w.heap.size 32 #[.slice v.ai N.ids.length v.ci, .slice v.ac N.costs.length v.cc, .slice v.al N.links.length v.cl]) := by subst hW; exact rowIs_new w _ _
  clear hW
  have HRY : Hid (∀ W, Below w1.heap.size w1 W → Calls Try.prog 13 #[.agg #[.slice v.ai N.ids.length v.ci, .slice v.ac N.costs.length v.cc, .slice v.al N.links.length v.cl]] W fun e w' => e = .returned (.slice none 0 0) ∧ Below W.heap.size W w') := fun W hb => roots_no v N W (HN.out.kept (hbW.trans (hb.mono hbW.size))) hl hno
  have HDY : Hid (∀ W, Below w1.heap.size w1 W → Calls Try.prog 14 #[.agg #[.slice v.ai N.ids.length v.ci, .slice v.ac N.costs.length v.cc, .slice v.al N.links.length v.cl]] W fun e w' => e = .returned (.slice none 0 0) ∧ Below W.heap.size W w') := fun W hb => dist_no v N W (HN.out.kept (hbW.trans (hb.mono hbW.size))) hl hno
  go_cut [3, 4] (fun u3 u4 wx => ∃ RO DO, u3 = .pointer (some ⟨RO, 0, none⟩) ∧ u4 = .pointer (some ⟨DO, 0, none⟩) ∧ RowIs wx RO 35 #[.slice none 0 0] ∧ RowIs wx w.heap.size 32 #[.slice v.ai N.ids.length v.ci, .slice v.ac N.costs.length v.cc, .slice v.al N.links.length v.cl] ∧ Below w1.heap.size w1 wx)
  case first =>
    have hbd : Below w1.heap.size w1 w1.drew := (Below.refl _ _).drew
    have HB := Lib.hid (R0.out.kept hbd)
    have RD : (fun w' => w'.rangeAt w.heap.size 0 [.slice v.ai N.ids.length v.ci, .slice v.ac N.costs.length v.cc, .slice v.al N.links.length v.cl]) w1.drew := range_of_row HB.out rfl
    refine wp_region_held (S := fun w' => w'.rangeAt w.heap.size 0 [.slice v.ai N.ids.length v.ci, .slice v.ac N.costs.length v.cc, .slice v.al N.links.length v.cl]) (by kernel_rfl) ?_
    change wpAnyH _ _ _ _ _ _ _ _ w1.drew
    have hb : Below w1.heap.size w1 w1.drew := hbd
    clear hbd R0 hbW
    generalize w1.drew = wd at *
    refine wpAnyH_take (i := 0) (oi := { dst := some 8, op := Op.load 32 (Operand.tmp 1), type := 32, pos := "least.go:116", after := #[], guard := none }) (v := .agg #[.slice v.ai N.ids.length v.ci, .slice v.ac N.costs.length v.cc, .slice v.al N.links.length v.cl]) rfl (by kernel_rfl) (by kernel_rfl) (by kernel_rfl) (fun _ _ _ h => h) (yieldsIf_load_mid rfl _ _ rfl w.heap.size 0 rfl [.slice v.ai N.ids.length v.ci, .slice v.ac N.costs.length v.cc, .slice v.al N.links.length v.cl] _ (fun w' (hS' : (fun w' => w'.rangeAt w.heap.size 0 [.slice v.ai N.ids.length v.ci, .slice v.ac N.costs.length v.cc, .slice v.al N.links.length v.cl]) w') => hS') Try.underlying32 rfl (by kernel_rfl)) RD ?_
    (try simp only [Act.put, List.setIfInBounds_toArray, List.set_cons_zero, List.set_cons_succ])
    refine wpAnyH_take (i := 2) (oi := { dst := some 10, op := Op.load 32 (Operand.tmp 1), type := 32, pos := "least.go:116", after := #[], guard := none }) (v := .agg #[.slice v.ai N.ids.length v.ci, .slice v.ac N.costs.length v.cc, .slice v.al N.links.length v.cl]) rfl (by kernel_rfl) (by kernel_rfl) (by kernel_rfl) (fun _ _ _ h => h) (yieldsIf_load_mid rfl _ _ rfl w.heap.size 0 rfl [.slice v.ai N.ids.length v.ci, .slice v.ac N.costs.length v.cc, .slice v.al N.links.length v.cl] _ (fun w' (hS' : (fun w' => w'.rangeAt w.heap.size 0 [.slice v.ai N.ids.length v.ci, .slice v.ac N.costs.length v.cc, .slice v.al N.links.length v.cl]) w') => hS') Try.underlying32 rfl (by kernel_rfl)) RD ?_
    (try simp only [Act.put, List.setIfInBounds_toArray, List.set_cons_zero, List.set_cons_succ])
    refine wpAnyH_ready (rs := [1, 4, 5]) (by kernel_rfl) (by simp) ?_
    refine ar_call18 (i := 1) (o := { dst := some 9, op := Op.call { callee := Callee.value (Operand.func 13), args := #[Operand.tmp 8], argTypes := #[32] }, type := 35, pos := "least.go:116", after := #[{ on := 0, ground := Ground.data }], guard := none }) rfl (by kernel_rfl) (xs := [.tmp 8]) (vs := [.agg #[.slice v.ai N.ids.length v.ci, .slice v.ac N.costs.length v.cc, .slice v.al N.links.length v.cl]]) rfl rfl Try.func13 (by kernel_rfl) (by kernel_rfl) ?h1 ?more1
    case h1 =>
      refine (HRY.out wd hb).mono ?_
      rintro e v1 ⟨rfl, hbk⟩
      have HB := Lib.hid (HB.out.kept hbk)
      have hb := hb.trans (hbk.mono hb.size)
      have RD : (fun w' => w'.rangeAt w.heap.size 0 [.slice v.ai N.ids.length v.ci, .slice v.ac N.costs.length v.cc, .slice v.al N.links.length v.cl]) v1 := range_of_row HB.out rfl
      refine ⟨_, rfl, RD, ?_⟩
      clear hbk
      (try simp only [Act.put, List.setIfInBounds_toArray, List.set_cons_zero, List.set_cons_succ])
      refine wpAnyH_ready (rs := [3, 4, 5]) (by kernel_rfl) (by simp) ?_
      refine ar_call18 (i := 3) (o := { dst := some 11, op := Op.call { callee := Callee.value (Operand.func 14), args := #[Operand.tmp 10], argTypes := #[32] }, type := 35, pos := "least.go:116", after := #[{ on := 2, ground := Ground.data }, { on := 1, ground := Ground.chain }], guard := none }) rfl (by kernel_rfl) (xs := [.tmp 10]) (vs := [.agg #[.slice v.ai N.ids.length v.ci, .slice v.ac N.costs.length v.cc, .slice v.al N.links.length v.cl]]) rfl rfl Try.func14 (by kernel_rfl) (by kernel_rfl) ?h2 ?more2
      case h2 =>
        refine (HDY.out v1 hb).mono ?_
        rintro e v2 ⟨rfl, hbk⟩
        have HB := Lib.hid (HB.out.kept hbk)
        have hb := hb.trans (hbk.mono hb.size)
        have RD : (fun w' => w'.rangeAt w.heap.size 0 [.slice v.ai N.ids.length v.ci, .slice v.ac N.costs.length v.cc, .slice v.al N.links.length v.cl]) v2 := range_of_row HB.out rfl
        refine ⟨_, rfl, RD, ?_⟩
        clear hbk
        (try simp only [Act.put, List.setIfInBounds_toArray, List.set_cons_zero, List.set_cons_succ])
        refine wpAnyH_ready (rs := [4, 5]) (by kernel_rfl) (by simp) ?_
        refine ar_alloc18 (i := 4) (o := { dst := some 3, op := Op.alloc 35, type := 0, pos := "least.go:116", after := #[], guard := none }) rfl (by kernel_rfl) 35 rfl #[.slice none 0 0] (by kernel_rfl) ?h3 ?more3
        case h3 =>
          have hbk : Below v2.heap.size v2 (v2.alloc (.cells #[.slice none 0 0] 35)) := (Below.refl _ _).alloc (Nat.le_refl _) _
          have HRO := Lib.hid (rowIs_new v2 35 #[.slice none 0 0])
          have HB := Lib.hid (HB.out.kept hbk)
          have hglRO : w1.heap.size ≤ v2.heap.size := hb.size
          have hb := hb.trans (hbk.mono hb.size)
          have RD : (fun w' => w'.rangeAt w.heap.size 0 [.slice v.ai N.ids.length v.ci, .slice v.ac N.costs.length v.cc, .slice v.al N.links.length v.cl]) (v2.alloc (.cells #[.slice none 0 0] 35)) := range_of_row HB.out rfl
          refine ⟨RD, ?_⟩
          clear hbk
          generalize v2.alloc (.cells #[.slice none 0 0] 35) = v3 at *
          generalize v2.heap.size = RO at *
          (try simp only [Act.put, List.setIfInBounds_toArray, List.set_cons_zero, List.set_cons_succ])
          refine wpAnyH_ready (rs := [5]) (by kernel_rfl) (by simp) ?_
          refine ar_alloc18 (i := 5) (o := { dst := some 4, op := Op.alloc 35, type := 0, pos := "least.go:116", after := #[], guard := none }) rfl (by kernel_rfl) 35 rfl #[.slice none 0 0] (by kernel_rfl) ?h4 AllReadyH.nil
          case h4 =>
            have hbk : Below v3.heap.size v3 (v3.alloc (.cells #[.slice none 0 0] 35)) := (Below.refl _ _).alloc (Nat.le_refl _) _
            have hne : RO ≠ v3.heap.size := by have := HRO.out.lt; omega
            have HRO := Lib.hid (HRO.out.kept hbk)
            have HDO := Lib.hid (rowIs_new v3 35 #[.slice none 0 0])
            have HB := Lib.hid (HB.out.kept hbk)
            have hglDO : w1.heap.size ≤ v3.heap.size := hb.size
            have hb := hb.trans (hbk.mono hb.size)
            have RD : (fun w' => w'.rangeAt w.heap.size 0 [.slice v.ai N.ids.length v.ci, .slice v.ac N.costs.length v.cc, .slice v.al N.links.length v.cl]) (v3.alloc (.cells #[.slice none 0 0] 35)) := range_of_row HB.out rfl
            refine ⟨RD, ?_⟩
            clear hbk
            generalize v3.alloc (.cells #[.slice none 0 0] 35) = v4 at *
            generalize v3.heap.size = DO at *
            (try simp only [Act.put, List.setIfInBounds_toArray, List.set_cons_zero, List.set_cons_succ])
            have hRD : RO ≠ DO := hne
            refine wpAnyH_ready (rs := [6]) (by kernel_rfl) (by simp) ?_
            refine ar_cell18 (i := 6) (o := { dst := none, op := Op.store 35 (Operand.tmp 3) (Operand.tmp 9), type := 0, pos := "least.go:116", after := #[{ on := 4, ground := Ground.data }, { on := 1, ground := Ground.data }, { on := 3, ground := Ground.chain }, { on := 0, ground := Ground.phase }, { on := 1, ground := Ground.phase }, { on := 2, ground := Ground.textOnly Departure.lateStores }, { on := 3, ground := Ground.textOnly Departure.lateStoresUnsure }, { on := 4, ground := Ground.phase }, { on := 5, ground := Ground.phase }], guard := none }) rfl (by kernel_rfl) 35 (.tmp 3) (.tmp 9) rfl RO 0 (.slice none 0 0) rfl rfl 35 _ HRO.out (show 0 < 1 from by decide) (by kernel_rfl) rfl ?_
            intro wa hRa hoa hsa hba
            have HRa : Hid (RowIs wa RO 35 #[.slice none 0 0]) := hRa
            have n3 : w.heap.size ≠ RO := rowIs_ne HB.out HRO.out (by decide)
            have n6 : w.heap.size ≠ DO := rowIs_ne HB.out HDO.out (by decide)
            have HB := Lib.hid (rowIs_same HB.out (hoa _ n3))
            have HDO := Lib.hid (rowIs_same HDO.out (hoa _ (Ne.symm hRD)))
            have hb := hb.trans (hba.mono hglRO)
            have RD : (fun w' => w'.rangeAt w.heap.size 0 [.slice v.ai N.ids.length v.ci, .slice v.ac N.costs.length v.cc, .slice v.al N.links.length v.cl]) wa := range_of_row HB.out rfl
            refine ⟨RD, ?_⟩
            clear hRa hoa hsa hba HRO n3
            (try simp only [Act.put, List.setIfInBounds_toArray, List.set_cons_zero, List.set_cons_succ])
            refine wpAnyH_ready (rs := [7]) (by kernel_rfl) (by simp) ?_
            refine ar_cell18 (i := 7) (o := { dst := none, op := Op.store 35 (Operand.tmp 4) (Operand.tmp 11), type := 0, pos := "least.go:116", after := #[{ on := 5, ground := Ground.data }, { on := 3, ground := Ground.data }, { on := 6, ground := Ground.chain }, { on := 0, ground := Ground.phase }, { on := 1, ground := Ground.phase }, { on := 2, ground := Ground.phase }, { on := 3, ground := Ground.phase }, { on := 4, ground := Ground.phase }, { on := 5, ground := Ground.phase }, { on := 6, ground := Ground.phase }], guard := none } ) rfl (by kernel_rfl) 35 (.tmp 4) (.tmp 11) rfl DO 0 (.slice none 0 0) rfl rfl 35 _ HDO.out (show 0 < 1 from by decide) (by kernel_rfl) rfl ?_
            intro wb hRb hob hsb hbb
            have HB := Lib.hid (rowIs_same HB.out (hob _ n6))
            have HRa := Lib.hid (rowIs_same HRa.out (hob _ hRD))
            have hb := hb.trans (hbb.mono hglDO)
            refine ⟨range_of_row HB.out rfl, ?_⟩
            clear hRb hob hsb hbb HDO n6 RD
            (try simp only [Act.put, List.setIfInBounds_toArray, List.set_cons_zero, List.set_cons_succ])
            refine wpAnyH_done (by kernel_rfl) ?_ _
            go_wp2_with fail
            go_meet
            exact ⟨RO, DO, rfl, rfl, HRa.out, HB.out, hb⟩
        case more3 =>
          refine ar_alloc18 (i := 5) (o := { dst := some 4, op := Op.alloc 35, type := 0, pos := "least.go:116", after := #[], guard := none }) rfl (by kernel_rfl) 35 rfl #[.slice none 0 0] (by kernel_rfl) ?h5 AllReadyH.nil
          case h5 =>
            have hbk : Below v2.heap.size v2 (v2.alloc (.cells #[.slice none 0 0] 35)) := (Below.refl _ _).alloc (Nat.le_refl _) _
            have HDO := Lib.hid (rowIs_new v2 35 #[.slice none 0 0])
            have HB := Lib.hid (HB.out.kept hbk)
            have hglDO : w1.heap.size ≤ v2.heap.size := hb.size
            have hb := hb.trans (hbk.mono hb.size)
            have RD : (fun w' => w'.rangeAt w.heap.size 0 [.slice v.ai N.ids.length v.ci, .slice v.ac N.costs.length v.cc, .slice v.al N.links.length v.cl]) (v2.alloc (.cells #[.slice none 0 0] 35)) := range_of_row HB.out rfl
            refine ⟨RD, ?_⟩
            clear hbk
            generalize v2.alloc (.cells #[.slice none 0 0] 35) = v5 at *
            generalize v2.heap.size = DO at *
            (try simp only [Act.put, List.setIfInBounds_toArray, List.set_cons_zero, List.set_cons_succ])
            refine wpAnyH_ready (rs := [4]) (by kernel_rfl) (by simp) ?_
            refine ar_alloc18 (i := 4) (o := { dst := some 3, op := Op.alloc 35, type := 0, pos := "least.go:116", after := #[], guard := none }) rfl (by kernel_rfl) 35 rfl #[.slice none 0 0] (by kernel_rfl) ?h6 AllReadyH.nil
            case h6 =>
              have hbk : Below v5.heap.size v5 (v5.alloc (.cells #[.slice none 0 0] 35)) := (Below.refl _ _).alloc (Nat.le_refl _) _
              have hne : DO ≠ v5.heap.size := by have := HDO.out.lt; omega
              have HDO := Lib.hid (HDO.out.kept hbk)
              have HRO := Lib.hid (rowIs_new v5 35 #[.slice none 0 0])
              have HB := Lib.hid (HB.out.kept hbk)
              have hglRO : w1.heap.size ≤ v5.heap.size := hb.size
              have hb := hb.trans (hbk.mono hb.size)
              have RD : (fun w' => w'.rangeAt w.heap.size 0 [.slice v.ai N.ids.length v.ci, .slice v.ac N.costs.length v.cc, .slice v.al N.links.length v.cl]) (v5.alloc (.cells #[.slice none 0 0] 35)) := range_of_row HB.out rfl
              refine ⟨RD, ?_⟩
              clear hbk
              generalize v5.alloc (.cells #[.slice none 0 0] 35) = v6 at *
              generalize v5.heap.size = RO at *
              (try simp only [Act.put, List.setIfInBounds_toArray, List.set_cons_zero, List.set_cons_succ])
              have hRD : RO ≠ DO := (Ne.symm hne)
              refine wpAnyH_ready (rs := [6]) (by kernel_rfl) (by simp) ?_
              refine ar_cell18 (i := 6) (o := { dst := none, op := Op.store 35 (Operand.tmp 3) (Operand.tmp 9), type := 0, pos := "least.go:116", after := #[{ on := 4, ground := Ground.data }, { on := 1, ground := Ground.data }, { on := 3, ground := Ground.chain }, { on := 0, ground := Ground.phase }, { on := 1, ground := Ground.phase }, { on := 2, ground := Ground.textOnly Departure.lateStores }, { on := 3, ground := Ground.textOnly Departure.lateStoresUnsure }, { on := 4, ground := Ground.phase }, { on := 5, ground := Ground.phase }], guard := none }) rfl (by kernel_rfl) 35 (.tmp 3) (.tmp 9) rfl RO 0 (.slice none 0 0) rfl rfl 35 _ HRO.out (show 0 < 1 from by decide) (by kernel_rfl) rfl ?_
              intro wa hRa hoa hsa hba
              have HRa : Hid (RowIs wa RO 35 #[.slice none 0 0]) := hRa
              have n3 : w.heap.size ≠ RO := rowIs_ne HB.out HRO.out (by decide)
              have n6 : w.heap.size ≠ DO := rowIs_ne HB.out HDO.out (by decide)
              have HB := Lib.hid (rowIs_same HB.out (hoa _ n3))
              have HDO := Lib.hid (rowIs_same HDO.out (hoa _ (Ne.symm hRD)))
              have hb := hb.trans (hba.mono hglRO)
              have RD : (fun w' => w'.rangeAt w.heap.size 0 [.slice v.ai N.ids.length v.ci, .slice v.ac N.costs.length v.cc, .slice v.al N.links.length v.cl]) wa := range_of_row HB.out rfl
              refine ⟨RD, ?_⟩
              clear hRa hoa hsa hba HRO n3
              (try simp only [Act.put, List.setIfInBounds_toArray, List.set_cons_zero, List.set_cons_succ])
              refine wpAnyH_ready (rs := [7]) (by kernel_rfl) (by simp) ?_
              refine ar_cell18 (i := 7) (o := { dst := none, op := Op.store 35 (Operand.tmp 4) (Operand.tmp 11), type := 0, pos := "least.go:116", after := #[{ on := 5, ground := Ground.data }, { on := 3, ground := Ground.data }, { on := 6, ground := Ground.chain }, { on := 0, ground := Ground.phase }, { on := 1, ground := Ground.phase }, { on := 2, ground := Ground.phase }, { on := 3, ground := Ground.phase }, { on := 4, ground := Ground.phase }, { on := 5, ground := Ground.phase }, { on := 6, ground := Ground.phase }], guard := none } ) rfl (by kernel_rfl) 35 (.tmp 4) (.tmp 11) rfl DO 0 (.slice none 0 0) rfl rfl 35 _ HDO.out (show 0 < 1 from by decide) (by kernel_rfl) rfl ?_
              intro wb hRb hob hsb hbb
              have HB := Lib.hid (rowIs_same HB.out (hob _ n6))
              have HRa := Lib.hid (rowIs_same HRa.out (hob _ hRD))
              have hb := hb.trans (hbb.mono hglDO)
              refine ⟨range_of_row HB.out rfl, ?_⟩
              clear hRb hob hsb hbb HDO n6 RD
              (try simp only [Act.put, List.setIfInBounds_toArray, List.set_cons_zero, List.set_cons_succ])
              refine wpAnyH_done (by kernel_rfl) ?_ _
              go_wp2_with fail
              go_meet
              exact ⟨RO, DO, rfl, rfl, HRa.out, HB.out, hb⟩
      case more2 =>
        refine ar_alloc18 (i := 4) (o := { dst := some 3, op := Op.alloc 35, type := 0, pos := "least.go:116", after := #[], guard := none }) rfl (by kernel_rfl) 35 rfl #[.slice none 0 0] (by kernel_rfl) ?h7 ?more7
        case h7 =>
          have hbk : Below v1.heap.size v1 (v1.alloc (.cells #[.slice none 0 0] 35)) := (Below.refl _ _).alloc (Nat.le_refl _) _
          have HRO := Lib.hid (rowIs_new v1 35 #[.slice none 0 0])
          have HB := Lib.hid (HB.out.kept hbk)
          have hglRO : w1.heap.size ≤ v1.heap.size := hb.size
          have hb := hb.trans (hbk.mono hb.size)
          have RD : (fun w' => w'.rangeAt w.heap.size 0 [.slice v.ai N.ids.length v.ci, .slice v.ac N.costs.length v.cc, .slice v.al N.links.length v.cl]) (v1.alloc (.cells #[.slice none 0 0] 35)) := range_of_row HB.out rfl
          refine ⟨RD, ?_⟩
          clear hbk
          generalize v1.alloc (.cells #[.slice none 0 0] 35) = v7 at *
          generalize v1.heap.size = RO at *
          (try simp only [Act.put, List.setIfInBounds_toArray, List.set_cons_zero, List.set_cons_succ])
          refine wpAnyH_ready (rs := [3, 5]) (by kernel_rfl) (by simp) ?_
          refine ar_call18 (i := 3) (o := { dst := some 11, op := Op.call { callee := Callee.value (Operand.func 14), args := #[Operand.tmp 10], argTypes := #[32] }, type := 35, pos := "least.go:116", after := #[{ on := 2, ground := Ground.data }, { on := 1, ground := Ground.chain }], guard := none }) rfl (by kernel_rfl) (xs := [.tmp 10]) (vs := [.agg #[.slice v.ai N.ids.length v.ci, .slice v.ac N.costs.length v.cc, .slice v.al N.links.length v.cl]]) rfl rfl Try.func14 (by kernel_rfl) (by kernel_rfl) ?h8 ?more8
          case h8 =>
            refine (HDY.out v7 hb).mono ?_
            rintro e v8 ⟨rfl, hbk⟩
            have HRO := Lib.hid (HRO.out.kept hbk)
            have HB := Lib.hid (HB.out.kept hbk)
            have hb := hb.trans (hbk.mono hb.size)
            have RD : (fun w' => w'.rangeAt w.heap.size 0 [.slice v.ai N.ids.length v.ci, .slice v.ac N.costs.length v.cc, .slice v.al N.links.length v.cl]) v8 := range_of_row HB.out rfl
            refine ⟨_, rfl, RD, ?_⟩
            clear hbk
            (try simp only [Act.put, List.setIfInBounds_toArray, List.set_cons_zero, List.set_cons_succ])
            refine wpAnyH_ready (rs := [5]) (by kernel_rfl) (by simp) ?_
            refine ar_alloc18 (i := 5) (o := { dst := some 4, op := Op.alloc 35, type := 0, pos := "least.go:116", after := #[], guard := none }) rfl (by kernel_rfl) 35 rfl #[.slice none 0 0] (by kernel_rfl) ?h9 AllReadyH.nil
            case h9 =>
              have hbk : Below v8.heap.size v8 (v8.alloc (.cells #[.slice none 0 0] 35)) := (Below.refl _ _).alloc (Nat.le_refl _) _
              have hne : RO ≠ v8.heap.size := by have := HRO.out.lt; omega
              have HRO := Lib.hid (HRO.out.kept hbk)
              have HDO := Lib.hid (rowIs_new v8 35 #[.slice none 0 0])
              have HB := Lib.hid (HB.out.kept hbk)
              have hglDO : w1.heap.size ≤ v8.heap.size := hb.size
              have hb := hb.trans (hbk.mono hb.size)
              have RD : (fun w' => w'.rangeAt w.heap.size 0 [.slice v.ai N.ids.length v.ci, .slice v.ac N.costs.length v.cc, .slice v.al N.links.length v.cl]) (v8.alloc (.cells #[.slice none 0 0] 35)) := range_of_row HB.out rfl
              refine ⟨RD, ?_⟩
              clear hbk
              generalize v8.alloc (.cells #[.slice none 0 0] 35) = v9 at *
              generalize v8.heap.size = DO at *
              (try simp only [Act.put, List.setIfInBounds_toArray, List.set_cons_zero, List.set_cons_succ])
              have hRD : RO ≠ DO := hne
              refine wpAnyH_ready (rs := [6]) (by kernel_rfl) (by simp) ?_
              refine ar_cell18 (i := 6) (o := { dst := none, op := Op.store 35 (Operand.tmp 3) (Operand.tmp 9), type := 0, pos := "least.go:116", after := #[{ on := 4, ground := Ground.data }, { on := 1, ground := Ground.data }, { on := 3, ground := Ground.chain }, { on := 0, ground := Ground.phase }, { on := 1, ground := Ground.phase }, { on := 2, ground := Ground.textOnly Departure.lateStores }, { on := 3, ground := Ground.textOnly Departure.lateStoresUnsure }, { on := 4, ground := Ground.phase }, { on := 5, ground := Ground.phase }], guard := none }) rfl (by kernel_rfl) 35 (.tmp 3) (.tmp 9) rfl RO 0 (.slice none 0 0) rfl rfl 35 _ HRO.out (show 0 < 1 from by decide) (by kernel_rfl) rfl ?_
              intro wa hRa hoa hsa hba
              have HRa : Hid (RowIs wa RO 35 #[.slice none 0 0]) := hRa
              have n3 : w.heap.size ≠ RO := rowIs_ne HB.out HRO.out (by decide)
              have n6 : w.heap.size ≠ DO := rowIs_ne HB.out HDO.out (by decide)
              have HB := Lib.hid (rowIs_same HB.out (hoa _ n3))
              have HDO := Lib.hid (rowIs_same HDO.out (hoa _ (Ne.symm hRD)))
              have hb := hb.trans (hba.mono hglRO)
              have RD : (fun w' => w'.rangeAt w.heap.size 0 [.slice v.ai N.ids.length v.ci, .slice v.ac N.costs.length v.cc, .slice v.al N.links.length v.cl]) wa := range_of_row HB.out rfl
              refine ⟨RD, ?_⟩
              clear hRa hoa hsa hba HRO n3
              (try simp only [Act.put, List.setIfInBounds_toArray, List.set_cons_zero, List.set_cons_succ])
              refine wpAnyH_ready (rs := [7]) (by kernel_rfl) (by simp) ?_
              refine ar_cell18 (i := 7) (o := { dst := none, op := Op.store 35 (Operand.tmp 4) (Operand.tmp 11), type := 0, pos := "least.go:116", after := #[{ on := 5, ground := Ground.data }, { on := 3, ground := Ground.data }, { on := 6, ground := Ground.chain }, { on := 0, ground := Ground.phase }, { on := 1, ground := Ground.phase }, { on := 2, ground := Ground.phase }, { on := 3, ground := Ground.phase }, { on := 4, ground := Ground.phase }, { on := 5, ground := Ground.phase }, { on := 6, ground := Ground.phase }], guard := none } ) rfl (by kernel_rfl) 35 (.tmp 4) (.tmp 11) rfl DO 0 (.slice none 0 0) rfl rfl 35 _ HDO.out (show 0 < 1 from by decide) (by kernel_rfl) rfl ?_
              intro wb hRb hob hsb hbb
              have HB := Lib.hid (rowIs_same HB.out (hob _ n6))
              have HRa := Lib.hid (rowIs_same HRa.out (hob _ hRD))
              have hb := hb.trans (hbb.mono hglDO)
              refine ⟨range_of_row HB.out rfl, ?_⟩
              clear hRb hob hsb hbb HDO n6 RD
              (try simp only [Act.put, List.setIfInBounds_toArray, List.set_cons_zero, List.set_cons_succ])
              refine wpAnyH_done (by kernel_rfl) ?_ _
              go_wp2_with fail
              go_meet
              exact ⟨RO, DO, rfl, rfl, HRa.out, HB.out, hb⟩
          case more8 =>
            refine ar_alloc18 (i := 5) (o := { dst := some 4, op := Op.alloc 35, type := 0, pos := "least.go:116", after := #[], guard := none }) rfl (by kernel_rfl) 35 rfl #[.slice none 0 0] (by kernel_rfl) ?h10 AllReadyH.nil
            case h10 =>
              have hbk : Below v7.heap.size v7 (v7.alloc (.cells #[.slice none 0 0] 35)) := (Below.refl _ _).alloc (Nat.le_refl _) _
              have hne : RO ≠ v7.heap.size := by have := HRO.out.lt; omega
              have HRO := Lib.hid (HRO.out.kept hbk)
              have HDO := Lib.hid (rowIs_new v7 35 #[.slice none 0 0])
              have HB := Lib.hid (HB.out.kept hbk)
              have hglDO : w1.heap.size ≤ v7.heap.size := hb.size
              have hb := hb.trans (hbk.mono hb.size)
              have RD : (fun w' => w'.rangeAt w.heap.size 0 [.slice v.ai N.ids.length v.ci, .slice v.ac N.costs.length v.cc, .slice v.al N.links.length v.cl]) (v7.alloc (.cells #[.slice none 0 0] 35)) := range_of_row HB.out rfl
              refine ⟨RD, ?_⟩
              clear hbk
              generalize v7.alloc (.cells #[.slice none 0 0] 35) = v10 at *
              generalize v7.heap.size = DO at *
              (try simp only [Act.put, List.setIfInBounds_toArray, List.set_cons_zero, List.set_cons_succ])
              refine wpAnyH_ready (rs := [3]) (by kernel_rfl) (by simp) ?_
              refine ar_call18 (i := 3) (o := { dst := some 11, op := Op.call { callee := Callee.value (Operand.func 14), args := #[Operand.tmp 10], argTypes := #[32] }, type := 35, pos := "least.go:116", after := #[{ on := 2, ground := Ground.data }, { on := 1, ground := Ground.chain }], guard := none }) rfl (by kernel_rfl) (xs := [.tmp 10]) (vs := [.agg #[.slice v.ai N.ids.length v.ci, .slice v.ac N.costs.length v.cc, .slice v.al N.links.length v.cl]]) rfl rfl Try.func14 (by kernel_rfl) (by kernel_rfl) ?h11 AllReadyH.nil
              case h11 =>
                refine (HDY.out v10 hb).mono ?_
                rintro e v11 ⟨rfl, hbk⟩
                have HRO := Lib.hid (HRO.out.kept hbk)
                have HDO := Lib.hid (HDO.out.kept hbk)
                have HB := Lib.hid (HB.out.kept hbk)
                have hb := hb.trans (hbk.mono hb.size)
                have RD : (fun w' => w'.rangeAt w.heap.size 0 [.slice v.ai N.ids.length v.ci, .slice v.ac N.costs.length v.cc, .slice v.al N.links.length v.cl]) v11 := range_of_row HB.out rfl
                refine ⟨_, rfl, RD, ?_⟩
                clear hbk
                (try simp only [Act.put, List.setIfInBounds_toArray, List.set_cons_zero, List.set_cons_succ])
                have hRD : RO ≠ DO := hne
                refine wpAnyH_ready (rs := [6]) (by kernel_rfl) (by simp) ?_
                refine ar_cell18 (i := 6) (o := { dst := none, op := Op.store 35 (Operand.tmp 3) (Operand.tmp 9), type := 0, pos := "least.go:116", after := #[{ on := 4, ground := Ground.data }, { on := 1, ground := Ground.data }, { on := 3, ground := Ground.chain }, { on := 0, ground := Ground.phase }, { on := 1, ground := Ground.phase }, { on := 2, ground := Ground.textOnly Departure.lateStores }, { on := 3, ground := Ground.textOnly Departure.lateStoresUnsure }, { on := 4, ground := Ground.phase }, { on := 5, ground := Ground.phase }], guard := none }) rfl (by kernel_rfl) 35 (.tmp 3) (.tmp 9) rfl RO 0 (.slice none 0 0) rfl rfl 35 _ HRO.out (show 0 < 1 from by decide) (by kernel_rfl) rfl ?_
                intro wa hRa hoa hsa hba
                have HRa : Hid (RowIs wa RO 35 #[.slice none 0 0]) := hRa
                have n3 : w.heap.size ≠ RO := rowIs_ne HB.out HRO.out (by decide)
                have n6 : w.heap.size ≠ DO := rowIs_ne HB.out HDO.out (by decide)
                have HB := Lib.hid (rowIs_same HB.out (hoa _ n3))
                have HDO := Lib.hid (rowIs_same HDO.out (hoa _ (Ne.symm hRD)))
                have hb := hb.trans (hba.mono hglRO)
                have RD : (fun w' => w'.rangeAt w.heap.size 0 [.slice v.ai N.ids.length v.ci, .slice v.ac N.costs.length v.cc, .slice v.al N.links.length v.cl]) wa := range_of_row HB.out rfl
                refine ⟨RD, ?_⟩
                clear hRa hoa hsa hba HRO n3
                (try simp only [Act.put, List.setIfInBounds_toArray, List.set_cons_zero, List.set_cons_succ])
                refine wpAnyH_ready (rs := [7]) (by kernel_rfl) (by simp) ?_
                refine ar_cell18 (i := 7) (o := { dst := none, op := Op.store 35 (Operand.tmp 4) (Operand.tmp 11), type := 0, pos := "least.go:116", after := #[{ on := 5, ground := Ground.data }, { on := 3, ground := Ground.data }, { on := 6, ground := Ground.chain }, { on := 0, ground := Ground.phase }, { on := 1, ground := Ground.phase }, { on := 2, ground := Ground.phase }, { on := 3, ground := Ground.phase }, { on := 4, ground := Ground.phase }, { on := 5, ground := Ground.phase }, { on := 6, ground := Ground.phase }], guard := none } ) rfl (by kernel_rfl) 35 (.tmp 4) (.tmp 11) rfl DO 0 (.slice none 0 0) rfl rfl 35 _ HDO.out (show 0 < 1 from by decide) (by kernel_rfl) rfl ?_
                intro wb hRb hob hsb hbb
                have HB := Lib.hid (rowIs_same HB.out (hob _ n6))
                have HRa := Lib.hid (rowIs_same HRa.out (hob _ hRD))
                have hb := hb.trans (hbb.mono hglDO)
                refine ⟨range_of_row HB.out rfl, ?_⟩
                clear hRb hob hsb hbb HDO n6 RD
                (try simp only [Act.put, List.setIfInBounds_toArray, List.set_cons_zero, List.set_cons_succ])
                refine wpAnyH_done (by kernel_rfl) ?_ _
                go_wp2_with fail
                go_meet
                exact ⟨RO, DO, rfl, rfl, HRa.out, HB.out, hb⟩
        case more7 =>
          refine ar_alloc18 (i := 5) (o := { dst := some 4, op := Op.alloc 35, type := 0, pos := "least.go:116", after := #[], guard := none }) rfl (by kernel_rfl) 35 rfl #[.slice none 0 0] (by kernel_rfl) ?h12 AllReadyH.nil
          case h12 =>
            have hbk : Below v1.heap.size v1 (v1.alloc (.cells #[.slice none 0 0] 35)) := (Below.refl _ _).alloc (Nat.le_refl _) _
            have HDO := Lib.hid (rowIs_new v1 35 #[.slice none 0 0])
            have HB := Lib.hid (HB.out.kept hbk)
            have hglDO : w1.heap.size ≤ v1.heap.size := hb.size
            have hb := hb.trans (hbk.mono hb.size)
            have RD : (fun w' => w'.rangeAt w.heap.size 0 [.slice v.ai N.ids.length v.ci, .slice v.ac N.costs.length v.cc, .slice v.al N.links.length v.cl]) (v1.alloc (.cells #[.slice none 0 0] 35)) := range_of_row HB.out rfl
            refine ⟨RD, ?_⟩
            clear hbk
            generalize v1.alloc (.cells #[.slice none 0 0] 35) = v12 at *
            generalize v1.heap.size = DO at *
            (try simp only [Act.put, List.setIfInBounds_toArray, List.set_cons_zero, List.set_cons_succ])
            refine wpAnyH_ready (rs := [3, 4]) (by kernel_rfl) (by simp) ?_
            refine ar_call18 (i := 3) (o := { dst := some 11, op := Op.call { callee := Callee.value (Operand.func 14), args := #[Operand.tmp 10], argTypes := #[32] }, type := 35, pos := "least.go:116", after := #[{ on := 2, ground := Ground.data }, { on := 1, ground := Ground.chain }], guard := none }) rfl (by kernel_rfl) (xs := [.tmp 10]) (vs := [.agg #[.slice v.ai N.ids.length v.ci, .slice v.ac N.costs.length v.cc, .slice v.al N.links.length v.cl]]) rfl rfl Try.func14 (by kernel_rfl) (by kernel_rfl) ?h13 ?more13
            case h13 =>
              refine (HDY.out v12 hb).mono ?_
              rintro e v13 ⟨rfl, hbk⟩
              have HDO := Lib.hid (HDO.out.kept hbk)
              have HB := Lib.hid (HB.out.kept hbk)
              have hb := hb.trans (hbk.mono hb.size)
              have RD : (fun w' => w'.rangeAt w.heap.size 0 [.slice v.ai N.ids.length v.ci, .slice v.ac N.costs.length v.cc, .slice v.al N.links.length v.cl]) v13 := range_of_row HB.out rfl
              refine ⟨_, rfl, RD, ?_⟩
              clear hbk
              (try simp only [Act.put, List.setIfInBounds_toArray, List.set_cons_zero, List.set_cons_succ])
              refine wpAnyH_ready (rs := [4]) (by kernel_rfl) (by simp) ?_
              refine ar_alloc18 (i := 4) (o := { dst := some 3, op := Op.alloc 35, type := 0, pos := "least.go:116", after := #[], guard := none }) rfl (by kernel_rfl) 35 rfl #[.slice none 0 0] (by kernel_rfl) ?h14 AllReadyH.nil
              case h14 =>
                have hbk : Below v13.heap.size v13 (v13.alloc (.cells #[.slice none 0 0] 35)) := (Below.refl _ _).alloc (Nat.le_refl _) _
                have hne : DO ≠ v13.heap.size := by have := HDO.out.lt; omega
                have HDO := Lib.hid (HDO.out.kept hbk)
                have HRO := Lib.hid (rowIs_new v13 35 #[.slice none 0 0])
                have HB := Lib.hid (HB.out.kept hbk)
                have hglRO : w1.heap.size ≤ v13.heap.size := hb.size
                have hb := hb.trans (hbk.mono hb.size)
                have RD : (fun w' => w'.rangeAt w.heap.size 0 [.slice v.ai N.ids.length v.ci, .slice v.ac N.costs.length v.cc, .slice v.al N.links.length v.cl]) (v13.alloc (.cells #[.slice none 0 0] 35)) := range_of_row HB.out rfl
                refine ⟨RD, ?_⟩
                clear hbk
                generalize v13.alloc (.cells #[.slice none 0 0] 35) = v14 at *
                generalize v13.heap.size = RO at *
                (try simp only [Act.put, List.setIfInBounds_toArray, List.set_cons_zero, List.set_cons_succ])
                have hRD : RO ≠ DO := (Ne.symm hne)
                refine wpAnyH_ready (rs := [6]) (by kernel_rfl) (by simp) ?_
                refine ar_cell18 (i := 6) (o := { dst := none, op := Op.store 35 (Operand.tmp 3) (Operand.tmp 9), type := 0, pos := "least.go:116", after := #[{ on := 4, ground := Ground.data }, { on := 1, ground := Ground.data }, { on := 3, ground := Ground.chain }, { on := 0, ground := Ground.phase }, { on := 1, ground := Ground.phase }, { on := 2, ground := Ground.textOnly Departure.lateStores }, { on := 3, ground := Ground.textOnly Departure.lateStoresUnsure }, { on := 4, ground := Ground.phase }, { on := 5, ground := Ground.phase }], guard := none }) rfl (by kernel_rfl) 35 (.tmp 3) (.tmp 9) rfl RO 0 (.slice none 0 0) rfl rfl 35 _ HRO.out (show 0 < 1 from by decide) (by kernel_rfl) rfl ?_
                intro wa hRa hoa hsa hba
                have HRa : Hid (RowIs wa RO 35 #[.slice none 0 0]) := hRa
                have n3 : w.heap.size ≠ RO := rowIs_ne HB.out HRO.out (by decide)
                have n6 : w.heap.size ≠ DO := rowIs_ne HB.out HDO.out (by decide)
                have HB := Lib.hid (rowIs_same HB.out (hoa _ n3))
                have HDO := Lib.hid (rowIs_same HDO.out (hoa _ (Ne.symm hRD)))
                have hb := hb.trans (hba.mono hglRO)
                have RD : (fun w' => w'.rangeAt w.heap.size 0 [.slice v.ai N.ids.length v.ci, .slice v.ac N.costs.length v.cc, .slice v.al N.links.length v.cl]) wa := range_of_row HB.out rfl
                refine ⟨RD, ?_⟩
                clear hRa hoa hsa hba HRO n3
                (try simp only [Act.put, List.setIfInBounds_toArray, List.set_cons_zero, List.set_cons_succ])
                refine wpAnyH_ready (rs := [7]) (by kernel_rfl) (by simp) ?_
                refine ar_cell18 (i := 7) (o := { dst := none, op := Op.store 35 (Operand.tmp 4) (Operand.tmp 11), type := 0, pos := "least.go:116", after := #[{ on := 5, ground := Ground.data }, { on := 3, ground := Ground.data }, { on := 6, ground := Ground.chain }, { on := 0, ground := Ground.phase }, { on := 1, ground := Ground.phase }, { on := 2, ground := Ground.phase }, { on := 3, ground := Ground.phase }, { on := 4, ground := Ground.phase }, { on := 5, ground := Ground.phase }, { on := 6, ground := Ground.phase }], guard := none } ) rfl (by kernel_rfl) 35 (.tmp 4) (.tmp 11) rfl DO 0 (.slice none 0 0) rfl rfl 35 _ HDO.out (show 0 < 1 from by decide) (by kernel_rfl) rfl ?_
                intro wb hRb hob hsb hbb
                have HB := Lib.hid (rowIs_same HB.out (hob _ n6))
                have HRa := Lib.hid (rowIs_same HRa.out (hob _ hRD))
                have hb := hb.trans (hbb.mono hglDO)
                refine ⟨range_of_row HB.out rfl, ?_⟩
                clear hRb hob hsb hbb HDO n6 RD
                (try simp only [Act.put, List.setIfInBounds_toArray, List.set_cons_zero, List.set_cons_succ])
                refine wpAnyH_done (by kernel_rfl) ?_ _
                go_wp2_with fail
                go_meet
                exact ⟨RO, DO, rfl, rfl, HRa.out, HB.out, hb⟩
            case more13 =>
              refine ar_alloc18 (i := 4) (o := { dst := some 3, op := Op.alloc 35, type := 0, pos := "least.go:116", after := #[], guard := none }) rfl (by kernel_rfl) 35 rfl #[.slice none 0 0] (by kernel_rfl) ?h15 AllReadyH.nil
              case h15 =>
                have hbk : Below v12.heap.size v12 (v12.alloc (.cells #[.slice none 0 0] 35)) := (Below.refl _ _).alloc (Nat.le_refl _) _
                have hne : DO ≠ v12.heap.size := by have := HDO.out.lt; omega
                have HDO := Lib.hid (HDO.out.kept hbk)
                have HRO := Lib.hid (rowIs_new v12 35 #[.slice none 0 0])
                have HB := Lib.hid (HB.out.kept hbk)
                have hglRO : w1.heap.size ≤ v12.heap.size := hb.size
                have hb := hb.trans (hbk.mono hb.size)
                have RD : (fun w' => w'.rangeAt w.heap.size 0 [.slice v.ai N.ids.length v.ci, .slice v.ac N.costs.length v.cc, .slice v.al N.links.length v.cl]) (v12.alloc (.cells #[.slice none 0 0] 35)) := range_of_row HB.out rfl
                refine ⟨RD, ?_⟩
                clear hbk
                generalize v12.alloc (.cells #[.slice none 0 0] 35) = v15 at *
                generalize v12.heap.size = RO at *
                (try simp only [Act.put, List.setIfInBounds_toArray, List.set_cons_zero, List.set_cons_succ])
                refine wpAnyH_ready (rs := [3]) (by kernel_rfl) (by simp) ?_
                refine ar_call18 (i := 3) (o := { dst := some 11, op := Op.call { callee := Callee.value (Operand.func 14), args := #[Operand.tmp 10], argTypes := #[32] }, type := 35, pos := "least.go:116", after := #[{ on := 2, ground := Ground.data }, { on := 1, ground := Ground.chain }], guard := none }) rfl (by kernel_rfl) (xs := [.tmp 10]) (vs := [.agg #[.slice v.ai N.ids.length v.ci, .slice v.ac N.costs.length v.cc, .slice v.al N.links.length v.cl]]) rfl rfl Try.func14 (by kernel_rfl) (by kernel_rfl) ?h16 AllReadyH.nil
                case h16 =>
                  refine (HDY.out v15 hb).mono ?_
                  rintro e v16 ⟨rfl, hbk⟩
                  have HDO := Lib.hid (HDO.out.kept hbk)
                  have HRO := Lib.hid (HRO.out.kept hbk)
                  have HB := Lib.hid (HB.out.kept hbk)
                  have hb := hb.trans (hbk.mono hb.size)
                  have RD : (fun w' => w'.rangeAt w.heap.size 0 [.slice v.ai N.ids.length v.ci, .slice v.ac N.costs.length v.cc, .slice v.al N.links.length v.cl]) v16 := range_of_row HB.out rfl
                  refine ⟨_, rfl, RD, ?_⟩
                  clear hbk
                  (try simp only [Act.put, List.setIfInBounds_toArray, List.set_cons_zero, List.set_cons_succ])
                  have hRD : RO ≠ DO := (Ne.symm hne)
                  refine wpAnyH_ready (rs := [6]) (by kernel_rfl) (by simp) ?_
                  refine ar_cell18 (i := 6) (o := { dst := none, op := Op.store 35 (Operand.tmp 3) (Operand.tmp 9), type := 0, pos := "least.go:116", after := #[{ on := 4, ground := Ground.data }, { on := 1, ground := Ground.data }, { on := 3, ground := Ground.chain }, { on := 0, ground := Ground.phase }, { on := 1, ground := Ground.phase }, { on := 2, ground := Ground.textOnly Departure.lateStores }, { on := 3, ground := Ground.textOnly Departure.lateStoresUnsure }, { on := 4, ground := Ground.phase }, { on := 5, ground := Ground.phase }], guard := none }) rfl (by kernel_rfl) 35 (.tmp 3) (.tmp 9) rfl RO 0 (.slice none 0 0) rfl rfl 35 _ HRO.out (show 0 < 1 from by decide) (by kernel_rfl) rfl ?_
                  intro wa hRa hoa hsa hba
                  have HRa : Hid (RowIs wa RO 35 #[.slice none 0 0]) := hRa
                  have n3 : w.heap.size ≠ RO := rowIs_ne HB.out HRO.out (by decide)
                  have n6 : w.heap.size ≠ DO := rowIs_ne HB.out HDO.out (by decide)
                  have HB := Lib.hid (rowIs_same HB.out (hoa _ n3))
                  have HDO := Lib.hid (rowIs_same HDO.out (hoa _ (Ne.symm hRD)))
                  have hb := hb.trans (hba.mono hglRO)
                  have RD : (fun w' => w'.rangeAt w.heap.size 0 [.slice v.ai N.ids.length v.ci, .slice v.ac N.costs.length v.cc, .slice v.al N.links.length v.cl]) wa := range_of_row HB.out rfl
                  refine ⟨RD, ?_⟩
                  clear hRa hoa hsa hba HRO n3
                  (try simp only [Act.put, List.setIfInBounds_toArray, List.set_cons_zero, List.set_cons_succ])
                  refine wpAnyH_ready (rs := [7]) (by kernel_rfl) (by simp) ?_
                  refine ar_cell18 (i := 7) (o := { dst := none, op := Op.store 35 (Operand.tmp 4) (Operand.tmp 11), type := 0, pos := "least.go:116", after := #[{ on := 5, ground := Ground.data }, { on := 3, ground := Ground.data }, { on := 6, ground := Ground.chain }, { on := 0, ground := Ground.phase }, { on := 1, ground := Ground.phase }, { on := 2, ground := Ground.phase }, { on := 3, ground := Ground.phase }, { on := 4, ground := Ground.phase }, { on := 5, ground := Ground.phase }, { on := 6, ground := Ground.phase }], guard := none } ) rfl (by kernel_rfl) 35 (.tmp 4) (.tmp 11) rfl DO 0 (.slice none 0 0) rfl rfl 35 _ HDO.out (show 0 < 1 from by decide) (by kernel_rfl) rfl ?_
                  intro wb hRb hob hsb hbb
                  have HB := Lib.hid (rowIs_same HB.out (hob _ n6))
                  have HRa := Lib.hid (rowIs_same HRa.out (hob _ hRD))
                  have hb := hb.trans (hbb.mono hglDO)
                  refine ⟨range_of_row HB.out rfl, ?_⟩
                  clear hRb hob hsb hbb HDO n6 RD
                  (try simp only [Act.put, List.setIfInBounds_toArray, List.set_cons_zero, List.set_cons_succ])
                  refine wpAnyH_done (by kernel_rfl) ?_ _
                  go_wp2_with fail
                  go_meet
                  exact ⟨RO, DO, rfl, rfl, HRa.out, HB.out, hb⟩
    case more1 =>
      refine ar_alloc18 (i := 4) (o := { dst := some 3, op := Op.alloc 35, type := 0, pos := "least.go:116", after := #[], guard := none }) rfl (by kernel_rfl) 35 rfl #[.slice none 0 0] (by kernel_rfl) ?h17 ?more17
      case h17 =>
        have hbk : Below wd.heap.size wd (wd.alloc (.cells #[.slice none 0 0] 35)) := (Below.refl _ _).alloc (Nat.le_refl _) _
        have HRO := Lib.hid (rowIs_new wd 35 #[.slice none 0 0])
        have HB := Lib.hid (HB.out.kept hbk)
        have hglRO : w1.heap.size ≤ wd.heap.size := hb.size
        have hb := hb.trans (hbk.mono hb.size)
        have RD : (fun w' => w'.rangeAt w.heap.size 0 [.slice v.ai N.ids.length v.ci, .slice v.ac N.costs.length v.cc, .slice v.al N.links.length v.cl]) (wd.alloc (.cells #[.slice none 0 0] 35)) := range_of_row HB.out rfl
        refine ⟨RD, ?_⟩
        clear hbk
        generalize wd.alloc (.cells #[.slice none 0 0] 35) = v17 at *
        generalize wd.heap.size = RO at *
        (try simp only [Act.put, List.setIfInBounds_toArray, List.set_cons_zero, List.set_cons_succ])
        refine wpAnyH_ready (rs := [1, 5]) (by kernel_rfl) (by simp) ?_
        refine ar_call18 (i := 1) (o := { dst := some 9, op := Op.call { callee := Callee.value (Operand.func 13), args := #[Operand.tmp 8], argTypes := #[32] }, type := 35, pos := "least.go:116", after := #[{ on := 0, ground := Ground.data }], guard := none }) rfl (by kernel_rfl) (xs := [.tmp 8]) (vs := [.agg #[.slice v.ai N.ids.length v.ci, .slice v.ac N.costs.length v.cc, .slice v.al N.links.length v.cl]]) rfl rfl Try.func13 (by kernel_rfl) (by kernel_rfl) ?h18 ?more18
        case h18 =>
          refine (HRY.out v17 hb).mono ?_
          rintro e v18 ⟨rfl, hbk⟩
          have HRO := Lib.hid (HRO.out.kept hbk)
          have HB := Lib.hid (HB.out.kept hbk)
          have hb := hb.trans (hbk.mono hb.size)
          have RD : (fun w' => w'.rangeAt w.heap.size 0 [.slice v.ai N.ids.length v.ci, .slice v.ac N.costs.length v.cc, .slice v.al N.links.length v.cl]) v18 := range_of_row HB.out rfl
          refine ⟨_, rfl, RD, ?_⟩
          clear hbk
          (try simp only [Act.put, List.setIfInBounds_toArray, List.set_cons_zero, List.set_cons_succ])
          refine wpAnyH_ready (rs := [3, 5]) (by kernel_rfl) (by simp) ?_
          refine ar_call18 (i := 3) (o := { dst := some 11, op := Op.call { callee := Callee.value (Operand.func 14), args := #[Operand.tmp 10], argTypes := #[32] }, type := 35, pos := "least.go:116", after := #[{ on := 2, ground := Ground.data }, { on := 1, ground := Ground.chain }], guard := none }) rfl (by kernel_rfl) (xs := [.tmp 10]) (vs := [.agg #[.slice v.ai N.ids.length v.ci, .slice v.ac N.costs.length v.cc, .slice v.al N.links.length v.cl]]) rfl rfl Try.func14 (by kernel_rfl) (by kernel_rfl) ?h19 ?more19
          case h19 =>
            refine (HDY.out v18 hb).mono ?_
            rintro e v19 ⟨rfl, hbk⟩
            have HRO := Lib.hid (HRO.out.kept hbk)
            have HB := Lib.hid (HB.out.kept hbk)
            have hb := hb.trans (hbk.mono hb.size)
            have RD : (fun w' => w'.rangeAt w.heap.size 0 [.slice v.ai N.ids.length v.ci, .slice v.ac N.costs.length v.cc, .slice v.al N.links.length v.cl]) v19 := range_of_row HB.out rfl
            refine ⟨_, rfl, RD, ?_⟩
            clear hbk
            (try simp only [Act.put, List.setIfInBounds_toArray, List.set_cons_zero, List.set_cons_succ])
            refine wpAnyH_ready (rs := [5]) (by kernel_rfl) (by simp) ?_
            refine ar_alloc18 (i := 5) (o := { dst := some 4, op := Op.alloc 35, type := 0, pos := "least.go:116", after := #[], guard := none }) rfl (by kernel_rfl) 35 rfl #[.slice none 0 0] (by kernel_rfl) ?h20 AllReadyH.nil
            case h20 =>
              have hbk : Below v19.heap.size v19 (v19.alloc (.cells #[.slice none 0 0] 35)) := (Below.refl _ _).alloc (Nat.le_refl _) _
              have hne : RO ≠ v19.heap.size := by have := HRO.out.lt; omega
              have HRO := Lib.hid (HRO.out.kept hbk)
              have HDO := Lib.hid (rowIs_new v19 35 #[.slice none 0 0])
              have HB := Lib.hid (HB.out.kept hbk)
              have hglDO : w1.heap.size ≤ v19.heap.size := hb.size
              have hb := hb.trans (hbk.mono hb.size)
              have RD : (fun w' => w'.rangeAt w.heap.size 0 [.slice v.ai N.ids.length v.ci, .slice v.ac N.costs.length v.cc, .slice v.al N.links.length v.cl]) (v19.alloc (.cells #[.slice none 0 0] 35)) := range_of_row HB.out rfl
              refine ⟨RD, ?_⟩
              clear hbk
              generalize v19.alloc (.cells #[.slice none 0 0] 35) = v20 at *
              generalize v19.heap.size = DO at *
              (try simp only [Act.put, List.setIfInBounds_toArray, List.set_cons_zero, List.set_cons_succ])
              have hRD : RO ≠ DO := hne
              refine wpAnyH_ready (rs := [6]) (by kernel_rfl) (by simp) ?_
              refine ar_cell18 (i := 6) (o := { dst := none, op := Op.store 35 (Operand.tmp 3) (Operand.tmp 9), type := 0, pos := "least.go:116", after := #[{ on := 4, ground := Ground.data }, { on := 1, ground := Ground.data }, { on := 3, ground := Ground.chain }, { on := 0, ground := Ground.phase }, { on := 1, ground := Ground.phase }, { on := 2, ground := Ground.textOnly Departure.lateStores }, { on := 3, ground := Ground.textOnly Departure.lateStoresUnsure }, { on := 4, ground := Ground.phase }, { on := 5, ground := Ground.phase }], guard := none }) rfl (by kernel_rfl) 35 (.tmp 3) (.tmp 9) rfl RO 0 (.slice none 0 0) rfl rfl 35 _ HRO.out (show 0 < 1 from by decide) (by kernel_rfl) rfl ?_
              intro wa hRa hoa hsa hba
              have HRa : Hid (RowIs wa RO 35 #[.slice none 0 0]) := hRa
              have n3 : w.heap.size ≠ RO := rowIs_ne HB.out HRO.out (by decide)
              have n6 : w.heap.size ≠ DO := rowIs_ne HB.out HDO.out (by decide)
              have HB := Lib.hid (rowIs_same HB.out (hoa _ n3))
              have HDO := Lib.hid (rowIs_same HDO.out (hoa _ (Ne.symm hRD)))
              have hb := hb.trans (hba.mono hglRO)
              have RD : (fun w' => w'.rangeAt w.heap.size 0 [.slice v.ai N.ids.length v.ci, .slice v.ac N.costs.length v.cc, .slice v.al N.links.length v.cl]) wa := range_of_row HB.out rfl
              refine ⟨RD, ?_⟩
              clear hRa hoa hsa hba HRO n3
              (try simp only [Act.put, List.setIfInBounds_toArray, List.set_cons_zero, List.set_cons_succ])
              refine wpAnyH_ready (rs := [7]) (by kernel_rfl) (by simp) ?_
              refine ar_cell18 (i := 7) (o := { dst := none, op := Op.store 35 (Operand.tmp 4) (Operand.tmp 11), type := 0, pos := "least.go:116", after := #[{ on := 5, ground := Ground.data }, { on := 3, ground := Ground.data }, { on := 6, ground := Ground.chain }, { on := 0, ground := Ground.phase }, { on := 1, ground := Ground.phase }, { on := 2, ground := Ground.phase }, { on := 3, ground := Ground.phase }, { on := 4, ground := Ground.phase }, { on := 5, ground := Ground.phase }, { on := 6, ground := Ground.phase }], guard := none } ) rfl (by kernel_rfl) 35 (.tmp 4) (.tmp 11) rfl DO 0 (.slice none 0 0) rfl rfl 35 _ HDO.out (show 0 < 1 from by decide) (by kernel_rfl) rfl ?_
              intro wb hRb hob hsb hbb
              have HB := Lib.hid (rowIs_same HB.out (hob _ n6))
              have HRa := Lib.hid (rowIs_same HRa.out (hob _ hRD))
              have hb := hb.trans (hbb.mono hglDO)
              refine ⟨range_of_row HB.out rfl, ?_⟩
              clear hRb hob hsb hbb HDO n6 RD
              (try simp only [Act.put, List.setIfInBounds_toArray, List.set_cons_zero, List.set_cons_succ])
              refine wpAnyH_done (by kernel_rfl) ?_ _
              go_wp2_with fail
              go_meet
              exact ⟨RO, DO, rfl, rfl, HRa.out, HB.out, hb⟩
          case more19 =>
            refine ar_alloc18 (i := 5) (o := { dst := some 4, op := Op.alloc 35, type := 0, pos := "least.go:116", after := #[], guard := none }) rfl (by kernel_rfl) 35 rfl #[.slice none 0 0] (by kernel_rfl) ?h21 AllReadyH.nil
            case h21 =>
              have hbk : Below v18.heap.size v18 (v18.alloc (.cells #[.slice none 0 0] 35)) := (Below.refl _ _).alloc (Nat.le_refl _) _
              have hne : RO ≠ v18.heap.size := by have := HRO.out.lt; omega
              have HRO := Lib.hid (HRO.out.kept hbk)
              have HDO := Lib.hid (rowIs_new v18 35 #[.slice none 0 0])
              have HB := Lib.hid (HB.out.kept hbk)
              have hglDO : w1.heap.size ≤ v18.heap.size := hb.size
              have hb := hb.trans (hbk.mono hb.size)
              have RD : (fun w' => w'.rangeAt w.heap.size 0 [.slice v.ai N.ids.length v.ci, .slice v.ac N.costs.length v.cc, .slice v.al N.links.length v.cl]) (v18.alloc (.cells #[.slice none 0 0] 35)) := range_of_row HB.out rfl
              refine ⟨RD, ?_⟩
              clear hbk
              generalize v18.alloc (.cells #[.slice none 0 0] 35) = v21 at *
              generalize v18.heap.size = DO at *
              (try simp only [Act.put, List.setIfInBounds_toArray, List.set_cons_zero, List.set_cons_succ])
              refine wpAnyH_ready (rs := [3]) (by kernel_rfl) (by simp) ?_
              refine ar_call18 (i := 3) (o := { dst := some 11, op := Op.call { callee := Callee.value (Operand.func 14), args := #[Operand.tmp 10], argTypes := #[32] }, type := 35, pos := "least.go:116", after := #[{ on := 2, ground := Ground.data }, { on := 1, ground := Ground.chain }], guard := none }) rfl (by kernel_rfl) (xs := [.tmp 10]) (vs := [.agg #[.slice v.ai N.ids.length v.ci, .slice v.ac N.costs.length v.cc, .slice v.al N.links.length v.cl]]) rfl rfl Try.func14 (by kernel_rfl) (by kernel_rfl) ?h22 AllReadyH.nil
              case h22 =>
                refine (HDY.out v21 hb).mono ?_
                rintro e v22 ⟨rfl, hbk⟩
                have HRO := Lib.hid (HRO.out.kept hbk)
                have HDO := Lib.hid (HDO.out.kept hbk)
                have HB := Lib.hid (HB.out.kept hbk)
                have hb := hb.trans (hbk.mono hb.size)
                have RD : (fun w' => w'.rangeAt w.heap.size 0 [.slice v.ai N.ids.length v.ci, .slice v.ac N.costs.length v.cc, .slice v.al N.links.length v.cl]) v22 := range_of_row HB.out rfl
                refine ⟨_, rfl, RD, ?_⟩
                clear hbk
                (try simp only [Act.put, List.setIfInBounds_toArray, List.set_cons_zero, List.set_cons_succ])
                have hRD : RO ≠ DO := hne
                refine wpAnyH_ready (rs := [6]) (by kernel_rfl) (by simp) ?_
                refine ar_cell18 (i := 6) (o := { dst := none, op := Op.store 35 (Operand.tmp 3) (Operand.tmp 9), type := 0, pos := "least.go:116", after := #[{ on := 4, ground := Ground.data }, { on := 1, ground := Ground.data }, { on := 3, ground := Ground.chain }, { on := 0, ground := Ground.phase }, { on := 1, ground := Ground.phase }, { on := 2, ground := Ground.textOnly Departure.lateStores }, { on := 3, ground := Ground.textOnly Departure.lateStoresUnsure }, { on := 4, ground := Ground.phase }, { on := 5, ground := Ground.phase }], guard := none }) rfl (by kernel_rfl) 35 (.tmp 3) (.tmp 9) rfl RO 0 (.slice none 0 0) rfl rfl 35 _ HRO.out (show 0 < 1 from by decide) (by kernel_rfl) rfl ?_
                intro wa hRa hoa hsa hba
                have HRa : Hid (RowIs wa RO 35 #[.slice none 0 0]) := hRa
                have n3 : w.heap.size ≠ RO := rowIs_ne HB.out HRO.out (by decide)
                have n6 : w.heap.size ≠ DO := rowIs_ne HB.out HDO.out (by decide)
                have HB := Lib.hid (rowIs_same HB.out (hoa _ n3))
                have HDO := Lib.hid (rowIs_same HDO.out (hoa _ (Ne.symm hRD)))
                have hb := hb.trans (hba.mono hglRO)
                have RD : (fun w' => w'.rangeAt w.heap.size 0 [.slice v.ai N.ids.length v.ci, .slice v.ac N.costs.length v.cc, .slice v.al N.links.length v.cl]) wa := range_of_row HB.out rfl
                refine ⟨RD, ?_⟩
                clear hRa hoa hsa hba HRO n3
                (try simp only [Act.put, List.setIfInBounds_toArray, List.set_cons_zero, List.set_cons_succ])
                refine wpAnyH_ready (rs := [7]) (by kernel_rfl) (by simp) ?_
                refine ar_cell18 (i := 7) (o := { dst := none, op := Op.store 35 (Operand.tmp 4) (Operand.tmp 11), type := 0, pos := "least.go:116", after := #[{ on := 5, ground := Ground.data }, { on := 3, ground := Ground.data }, { on := 6, ground := Ground.chain }, { on := 0, ground := Ground.phase }, { on := 1, ground := Ground.phase }, { on := 2, ground := Ground.phase }, { on := 3, ground := Ground.phase }, { on := 4, ground := Ground.phase }, { on := 5, ground := Ground.phase }, { on := 6, ground := Ground.phase }], guard := none } ) rfl (by kernel_rfl) 35 (.tmp 4) (.tmp 11) rfl DO 0 (.slice none 0 0) rfl rfl 35 _ HDO.out (show 0 < 1 from by decide) (by kernel_rfl) rfl ?_
                intro wb hRb hob hsb hbb
                have HB := Lib.hid (rowIs_same HB.out (hob _ n6))
                have HRa := Lib.hid (rowIs_same HRa.out (hob _ hRD))
                have hb := hb.trans (hbb.mono hglDO)
                refine ⟨range_of_row HB.out rfl, ?_⟩
                clear hRb hob hsb hbb HDO n6 RD
                (try simp only [Act.put, List.setIfInBounds_toArray, List.set_cons_zero, List.set_cons_succ])
                refine wpAnyH_done (by kernel_rfl) ?_ _
                go_wp2_with fail
                go_meet
                exact ⟨RO, DO, rfl, rfl, HRa.out, HB.out, hb⟩
        case more18 =>
          refine ar_alloc18 (i := 5) (o := { dst := some 4, op := Op.alloc 35, type := 0, pos := "least.go:116", after := #[], guard := none }) rfl (by kernel_rfl) 35 rfl #[.slice none 0 0] (by kernel_rfl) ?h23 AllReadyH.nil
          case h23 =>
            have hbk : Below v17.heap.size v17 (v17.alloc (.cells #[.slice none 0 0] 35)) := (Below.refl _ _).alloc (Nat.le_refl _) _
            have hne : RO ≠ v17.heap.size := by have := HRO.out.lt; omega
            have HRO := Lib.hid (HRO.out.kept hbk)
            have HDO := Lib.hid (rowIs_new v17 35 #[.slice none 0 0])
            have HB := Lib.hid (HB.out.kept hbk)
            have hglDO : w1.heap.size ≤ v17.heap.size := hb.size
            have hb := hb.trans (hbk.mono hb.size)
            have RD : (fun w' => w'.rangeAt w.heap.size 0 [.slice v.ai N.ids.length v.ci, .slice v.ac N.costs.length v.cc, .slice v.al N.links.length v.cl]) (v17.alloc (.cells #[.slice none 0 0] 35)) := range_of_row HB.out rfl
            refine ⟨RD, ?_⟩
            clear hbk
            generalize v17.alloc (.cells #[.slice none 0 0] 35) = v23 at *
            generalize v17.heap.size = DO at *
            (try simp only [Act.put, List.setIfInBounds_toArray, List.set_cons_zero, List.set_cons_succ])
            refine wpAnyH_ready (rs := [1]) (by kernel_rfl) (by simp) ?_
            refine ar_call18 (i := 1) (o := { dst := some 9, op := Op.call { callee := Callee.value (Operand.func 13), args := #[Operand.tmp 8], argTypes := #[32] }, type := 35, pos := "least.go:116", after := #[{ on := 0, ground := Ground.data }], guard := none }) rfl (by kernel_rfl) (xs := [.tmp 8]) (vs := [.agg #[.slice v.ai N.ids.length v.ci, .slice v.ac N.costs.length v.cc, .slice v.al N.links.length v.cl]]) rfl rfl Try.func13 (by kernel_rfl) (by kernel_rfl) ?h24 AllReadyH.nil
            case h24 =>
              refine (HRY.out v23 hb).mono ?_
              rintro e v24 ⟨rfl, hbk⟩
              have HRO := Lib.hid (HRO.out.kept hbk)
              have HDO := Lib.hid (HDO.out.kept hbk)
              have HB := Lib.hid (HB.out.kept hbk)
              have hb := hb.trans (hbk.mono hb.size)
              have RD : (fun w' => w'.rangeAt w.heap.size 0 [.slice v.ai N.ids.length v.ci, .slice v.ac N.costs.length v.cc, .slice v.al N.links.length v.cl]) v24 := range_of_row HB.out rfl
              refine ⟨_, rfl, RD, ?_⟩
              clear hbk
              (try simp only [Act.put, List.setIfInBounds_toArray, List.set_cons_zero, List.set_cons_succ])
              refine wpAnyH_ready (rs := [3]) (by kernel_rfl) (by simp) ?_
              refine ar_call18 (i := 3) (o := { dst := some 11, op := Op.call { callee := Callee.value (Operand.func 14), args := #[Operand.tmp 10], argTypes := #[32] }, type := 35, pos := "least.go:116", after := #[{ on := 2, ground := Ground.data }, { on := 1, ground := Ground.chain }], guard := none }) rfl (by kernel_rfl) (xs := [.tmp 10]) (vs := [.agg #[.slice v.ai N.ids.length v.ci, .slice v.ac N.costs.length v.cc, .slice v.al N.links.length v.cl]]) rfl rfl Try.func14 (by kernel_rfl) (by kernel_rfl) ?h25 AllReadyH.nil
              case h25 =>
                refine (HDY.out v24 hb).mono ?_
                rintro e v25 ⟨rfl, hbk⟩
                have HRO := Lib.hid (HRO.out.kept hbk)
                have HDO := Lib.hid (HDO.out.kept hbk)
                have HB := Lib.hid (HB.out.kept hbk)
                have hb := hb.trans (hbk.mono hb.size)
                have RD : (fun w' => w'.rangeAt w.heap.size 0 [.slice v.ai N.ids.length v.ci, .slice v.ac N.costs.length v.cc, .slice v.al N.links.length v.cl]) v25 := range_of_row HB.out rfl
                refine ⟨_, rfl, RD, ?_⟩
                clear hbk
                (try simp only [Act.put, List.setIfInBounds_toArray, List.set_cons_zero, List.set_cons_succ])
                have hRD : RO ≠ DO := hne
                refine wpAnyH_ready (rs := [6]) (by kernel_rfl) (by simp) ?_
                refine ar_cell18 (i := 6) (o := { dst := none, op := Op.store 35 (Operand.tmp 3) (Operand.tmp 9), type := 0, pos := "least.go:116", after := #[{ on := 4, ground := Ground.data }, { on := 1, ground := Ground.data }, { on := 3, ground := Ground.chain }, { on := 0, ground := Ground.phase }, { on := 1, ground := Ground.phase }, { on := 2, ground := Ground.textOnly Departure.lateStores }, { on := 3, ground := Ground.textOnly Departure.lateStoresUnsure }, { on := 4, ground := Ground.phase }, { on := 5, ground := Ground.phase }], guard := none }) rfl (by kernel_rfl) 35 (.tmp 3) (.tmp 9) rfl RO 0 (.slice none 0 0) rfl rfl 35 _ HRO.out (show 0 < 1 from by decide) (by kernel_rfl) rfl ?_
                intro wa hRa hoa hsa hba
                have HRa : Hid (RowIs wa RO 35 #[.slice none 0 0]) := hRa
                have n3 : w.heap.size ≠ RO := rowIs_ne HB.out HRO.out (by decide)
                have n6 : w.heap.size ≠ DO := rowIs_ne HB.out HDO.out (by decide)
                have HB := Lib.hid (rowIs_same HB.out (hoa _ n3))
                have HDO := Lib.hid (rowIs_same HDO.out (hoa _ (Ne.symm hRD)))
                have hb := hb.trans (hba.mono hglRO)
                have RD : (fun w' => w'.rangeAt w.heap.size 0 [.slice v.ai N.ids.length v.ci, .slice v.ac N.costs.length v.cc, .slice v.al N.links.length v.cl]) wa := range_of_row HB.out rfl
                refine ⟨RD, ?_⟩
                clear hRa hoa hsa hba HRO n3
                (try simp only [Act.put, List.setIfInBounds_toArray, List.set_cons_zero, List.set_cons_succ])
                refine wpAnyH_ready (rs := [7]) (by kernel_rfl) (by simp) ?_
                refine ar_cell18 (i := 7) (o := { dst := none, op := Op.store 35 (Operand.tmp 4) (Operand.tmp 11), type := 0, pos := "least.go:116", after := #[{ on := 5, ground := Ground.data }, { on := 3, ground := Ground.data }, { on := 6, ground := Ground.chain }, { on := 0, ground := Ground.phase }, { on := 1, ground := Ground.phase }, { on := 2, ground := Ground.phase }, { on := 3, ground := Ground.phase }, { on := 4, ground := Ground.phase }, { on := 5, ground := Ground.phase }, { on := 6, ground := Ground.phase }], guard := none } ) rfl (by kernel_rfl) 35 (.tmp 4) (.tmp 11) rfl DO 0 (.slice none 0 0) rfl rfl 35 _ HDO.out (show 0 < 1 from by decide) (by kernel_rfl) rfl ?_
                intro wb hRb hob hsb hbb
                have HB := Lib.hid (rowIs_same HB.out (hob _ n6))
                have HRa := Lib.hid (rowIs_same HRa.out (hob _ hRD))
                have hb := hb.trans (hbb.mono hglDO)
                refine ⟨range_of_row HB.out rfl, ?_⟩
                clear hRb hob hsb hbb HDO n6 RD
                (try simp only [Act.put, List.setIfInBounds_toArray, List.set_cons_zero, List.set_cons_succ])
                refine wpAnyH_done (by kernel_rfl) ?_ _
                go_wp2_with fail
                go_meet
                exact ⟨RO, DO, rfl, rfl, HRa.out, HB.out, hb⟩
      case more17 =>
        refine ar_alloc18 (i := 5) (o := { dst := some 4, op := Op.alloc 35, type := 0, pos := "least.go:116", after := #[], guard := none }) rfl (by kernel_rfl) 35 rfl #[.slice none 0 0] (by kernel_rfl) ?h26 AllReadyH.nil
        case h26 =>
          have hbk : Below wd.heap.size wd (wd.alloc (.cells #[.slice none 0 0] 35)) := (Below.refl _ _).alloc (Nat.le_refl _) _
          have HDO := Lib.hid (rowIs_new wd 35 #[.slice none 0 0])
          have HB := Lib.hid (HB.out.kept hbk)
          have hglDO : w1.heap.size ≤ wd.heap.size := hb.size
          have hb := hb.trans (hbk.mono hb.size)
          have RD : (fun w' => w'.rangeAt w.heap.size 0 [.slice v.ai N.ids.length v.ci, .slice v.ac N.costs.length v.cc, .slice v.al N.links.length v.cl]) (wd.alloc (.cells #[.slice none 0 0] 35)) := range_of_row HB.out rfl
          refine ⟨RD, ?_⟩
          clear hbk
          generalize wd.alloc (.cells #[.slice none 0 0] 35) = v26 at *
          generalize wd.heap.size = DO at *
          (try simp only [Act.put, List.setIfInBounds_toArray, List.set_cons_zero, List.set_cons_succ])
          refine wpAnyH_ready (rs := [1, 4]) (by kernel_rfl) (by simp) ?_
          refine ar_call18 (i := 1) (o := { dst := some 9, op := Op.call { callee := Callee.value (Operand.func 13), args := #[Operand.tmp 8], argTypes := #[32] }, type := 35, pos := "least.go:116", after := #[{ on := 0, ground := Ground.data }], guard := none }) rfl (by kernel_rfl) (xs := [.tmp 8]) (vs := [.agg #[.slice v.ai N.ids.length v.ci, .slice v.ac N.costs.length v.cc, .slice v.al N.links.length v.cl]]) rfl rfl Try.func13 (by kernel_rfl) (by kernel_rfl) ?h27 ?more27
          case h27 =>
            refine (HRY.out v26 hb).mono ?_
            rintro e v27 ⟨rfl, hbk⟩
            have HDO := Lib.hid (HDO.out.kept hbk)
            have HB := Lib.hid (HB.out.kept hbk)
            have hb := hb.trans (hbk.mono hb.size)
            have RD : (fun w' => w'.rangeAt w.heap.size 0 [.slice v.ai N.ids.length v.ci, .slice v.ac N.costs.length v.cc, .slice v.al N.links.length v.cl]) v27 := range_of_row HB.out rfl
            refine ⟨_, rfl, RD, ?_⟩
            clear hbk
            (try simp only [Act.put, List.setIfInBounds_toArray, List.set_cons_zero, List.set_cons_succ])
            refine wpAnyH_ready (rs := [3, 4]) (by kernel_rfl) (by simp) ?_
            refine ar_call18 (i := 3) (o := { dst := some 11, op := Op.call { callee := Callee.value (Operand.func 14), args := #[Operand.tmp 10], argTypes := #[32] }, type := 35, pos := "least.go:116", after := #[{ on := 2, ground := Ground.data }, { on := 1, ground := Ground.chain }], guard := none }) rfl (by kernel_rfl) (xs := [.tmp 10]) (vs := [.agg #[.slice v.ai N.ids.length v.ci, .slice v.ac N.costs.length v.cc, .slice v.al N.links.length v.cl]]) rfl rfl Try.func14 (by kernel_rfl) (by kernel_rfl) ?h28 ?more28
            case h28 =>
              refine (HDY.out v27 hb).mono ?_
              rintro e v28 ⟨rfl, hbk⟩
              have HDO := Lib.hid (HDO.out.kept hbk)
              have HB := Lib.hid (HB.out.kept hbk)
              have hb := hb.trans (hbk.mono hb.size)
              have RD : (fun w' => w'.rangeAt w.heap.size 0 [.slice v.ai N.ids.length v.ci, .slice v.ac N.costs.length v.cc, .slice v.al N.links.length v.cl]) v28 := range_of_row HB.out rfl
              refine ⟨_, rfl, RD, ?_⟩
              clear hbk
              (try simp only [Act.put, List.setIfInBounds_toArray, List.set_cons_zero, List.set_cons_succ])
              refine wpAnyH_ready (rs := [4]) (by kernel_rfl) (by simp) ?_
              refine ar_alloc18 (i := 4) (o := { dst := some 3, op := Op.alloc 35, type := 0, pos := "least.go:116", after := #[], guard := none }) rfl (by kernel_rfl) 35 rfl #[.slice none 0 0] (by kernel_rfl) ?h29 AllReadyH.nil
              case h29 =>
                have hbk : Below v28.heap.size v28 (v28.alloc (.cells #[.slice none 0 0] 35)) := (Below.refl _ _).alloc (Nat.le_refl _) _
                have hne : DO ≠ v28.heap.size := by have := HDO.out.lt; omega
                have HDO := Lib.hid (HDO.out.kept hbk)
                have HRO := Lib.hid (rowIs_new v28 35 #[.slice none 0 0])
                have HB := Lib.hid (HB.out.kept hbk)
                have hglRO : w1.heap.size ≤ v28.heap.size := hb.size
                have hb := hb.trans (hbk.mono hb.size)
                have RD : (fun w' => w'.rangeAt w.heap.size 0 [.slice v.ai N.ids.length v.ci, .slice v.ac N.costs.length v.cc, .slice v.al N.links.length v.cl]) (v28.alloc (.cells #[.slice none 0 0] 35)) := range_of_row HB.out rfl
                refine ⟨RD, ?_⟩
                clear hbk
                generalize v28.alloc (.cells #[.slice none 0 0] 35) = v29 at *
                generalize v28.heap.size = RO at *
                (try simp only [Act.put, List.setIfInBounds_toArray, List.set_cons_zero, List.set_cons_succ])
                have hRD : RO ≠ DO := (Ne.symm hne)
                refine wpAnyH_ready (rs := [6]) (by kernel_rfl) (by simp) ?_
                refine ar_cell18 (i := 6) (o := { dst := none, op := Op.store 35 (Operand.tmp 3) (Operand.tmp 9), type := 0, pos := "least.go:116", after := #[{ on := 4, ground := Ground.data }, { on := 1, ground := Ground.data }, { on := 3, ground := Ground.chain }, { on := 0, ground := Ground.phase }, { on := 1, ground := Ground.phase }, { on := 2, ground := Ground.textOnly Departure.lateStores }, { on := 3, ground := Ground.textOnly Departure.lateStoresUnsure }, { on := 4, ground := Ground.phase }, { on := 5, ground := Ground.phase }], guard := none }) rfl (by kernel_rfl) 35 (.tmp 3) (.tmp 9) rfl RO 0 (.slice none 0 0) rfl rfl 35 _ HRO.out (show 0 < 1 from by decide) (by kernel_rfl) rfl ?_
                intro wa hRa hoa hsa hba
                have HRa : Hid (RowIs wa RO 35 #[.slice none 0 0]) := hRa
                have n3 : w.heap.size ≠ RO := rowIs_ne HB.out HRO.out (by decide)
                have n6 : w.heap.size ≠ DO := rowIs_ne HB.out HDO.out (by decide)
                have HB := Lib.hid (rowIs_same HB.out (hoa _ n3))
                have HDO := Lib.hid (rowIs_same HDO.out (hoa _ (Ne.symm hRD)))
                have hb := hb.trans (hba.mono hglRO)
                have RD : (fun w' => w'.rangeAt w.heap.size 0 [.slice v.ai N.ids.length v.ci, .slice v.ac N.costs.length v.cc, .slice v.al N.links.length v.cl]) wa := range_of_row HB.out rfl
                refine ⟨RD, ?_⟩
                clear hRa hoa hsa hba HRO n3
                (try simp only [Act.put, List.setIfInBounds_toArray, List.set_cons_zero, List.set_cons_succ])
                refine wpAnyH_ready (rs := [7]) (by kernel_rfl) (by simp) ?_
                refine ar_cell18 (i := 7) (o := { dst := none, op := Op.store 35 (Operand.tmp 4) (Operand.tmp 11), type := 0, pos := "least.go:116", after := #[{ on := 5, ground := Ground.data }, { on := 3, ground := Ground.data }, { on := 6, ground := Ground.chain }, { on := 0, ground := Ground.phase }, { on := 1, ground := Ground.phase }, { on := 2, ground := Ground.phase }, { on := 3, ground := Ground.phase }, { on := 4, ground := Ground.phase }, { on := 5, ground := Ground.phase }, { on := 6, ground := Ground.phase }], guard := none } ) rfl (by kernel_rfl) 35 (.tmp 4) (.tmp 11) rfl DO 0 (.slice none 0 0) rfl rfl 35 _ HDO.out (show 0 < 1 from by decide) (by kernel_rfl) rfl ?_
                intro wb hRb hob hsb hbb
                have HB := Lib.hid (rowIs_same HB.out (hob _ n6))
                have HRa := Lib.hid (rowIs_same HRa.out (hob _ hRD))
                have hb := hb.trans (hbb.mono hglDO)
                refine ⟨range_of_row HB.out rfl, ?_⟩
                clear hRb hob hsb hbb HDO n6 RD
                (try simp only [Act.put, List.setIfInBounds_toArray, List.set_cons_zero, List.set_cons_succ])
                refine wpAnyH_done (by kernel_rfl) ?_ _
                go_wp2_with fail
                go_meet
                exact ⟨RO, DO, rfl, rfl, HRa.out, HB.out, hb⟩
            case more28 =>
              refine ar_alloc18 (i := 4) (o := { dst := some 3, op := Op.alloc 35, type := 0, pos := "least.go:116", after := #[], guard := none }) rfl (by kernel_rfl) 35 rfl #[.slice none 0 0] (by kernel_rfl) ?h30 AllReadyH.nil
              case h30 =>
                have hbk : Below v27.heap.size v27 (v27.alloc (.cells #[.slice none 0 0] 35)) := (Below.refl _ _).alloc (Nat.le_refl _) _
                have hne : DO ≠ v27.heap.size := by have := HDO.out.lt; omega
                have HDO := Lib.hid (HDO.out.kept hbk)
                have HRO := Lib.hid (rowIs_new v27 35 #[.slice none 0 0])
                have HB := Lib.hid (HB.out.kept hbk)
                have hglRO : w1.heap.size ≤ v27.heap.size := hb.size
                have hb := hb.trans (hbk.mono hb.size)
                have RD : (fun w' => w'.rangeAt w.heap.size 0 [.slice v.ai N.ids.length v.ci, .slice v.ac N.costs.length v.cc, .slice v.al N.links.length v.cl]) (v27.alloc (.cells #[.slice none 0 0] 35)) := range_of_row HB.out rfl
                refine ⟨RD, ?_⟩
                clear hbk
                generalize v27.alloc (.cells #[.slice none 0 0] 35) = v30 at *
                generalize v27.heap.size = RO at *
                (try simp only [Act.put, List.setIfInBounds_toArray, List.set_cons_zero, List.set_cons_succ])
                refine wpAnyH_ready (rs := [3]) (by kernel_rfl) (by simp) ?_
                refine ar_call18 (i := 3) (o := { dst := some 11, op := Op.call { callee := Callee.value (Operand.func 14), args := #[Operand.tmp 10], argTypes := #[32] }, type := 35, pos := "least.go:116", after := #[{ on := 2, ground := Ground.data }, { on := 1, ground := Ground.chain }], guard := none }) rfl (by kernel_rfl) (xs := [.tmp 10]) (vs := [.agg #[.slice v.ai N.ids.length v.ci, .slice v.ac N.costs.length v.cc, .slice v.al N.links.length v.cl]]) rfl rfl Try.func14 (by kernel_rfl) (by kernel_rfl) ?h31 AllReadyH.nil
                case h31 =>
                  refine (HDY.out v30 hb).mono ?_
                  rintro e v31 ⟨rfl, hbk⟩
                  have HDO := Lib.hid (HDO.out.kept hbk)
                  have HRO := Lib.hid (HRO.out.kept hbk)
                  have HB := Lib.hid (HB.out.kept hbk)
                  have hb := hb.trans (hbk.mono hb.size)
                  have RD : (fun w' => w'.rangeAt w.heap.size 0 [.slice v.ai N.ids.length v.ci, .slice v.ac N.costs.length v.cc, .slice v.al N.links.length v.cl]) v31 := range_of_row HB.out rfl
                  refine ⟨_, rfl, RD, ?_⟩
                  clear hbk
                  (try simp only [Act.put, List.setIfInBounds_toArray, List.set_cons_zero, List.set_cons_succ])
                  have hRD : RO ≠ DO := (Ne.symm hne)
                  refine wpAnyH_ready (rs := [6]) (by kernel_rfl) (by simp) ?_
                  refine ar_cell18 (i := 6) (o := { dst := none, op := Op.store 35 (Operand.tmp 3) (Operand.tmp 9), type := 0, pos := "least.go:116", after := #[{ on := 4, ground := Ground.data }, { on := 1, ground := Ground.data }, { on := 3, ground := Ground.chain }, { on := 0, ground := Ground.phase }, { on := 1, ground := Ground.phase }, { on := 2, ground := Ground.textOnly Departure.lateStores }, { on := 3, ground := Ground.textOnly Departure.lateStoresUnsure }, { on := 4, ground := Ground.phase }, { on := 5, ground := Ground.phase }], guard := none }) rfl (by kernel_rfl) 35 (.tmp 3) (.tmp 9) rfl RO 0 (.slice none 0 0) rfl rfl 35 _ HRO.out (show 0 < 1 from by decide) (by kernel_rfl) rfl ?_
                  intro wa hRa hoa hsa hba
                  have HRa : Hid (RowIs wa RO 35 #[.slice none 0 0]) := hRa
                  have n3 : w.heap.size ≠ RO := rowIs_ne HB.out HRO.out (by decide)
                  have n6 : w.heap.size ≠ DO := rowIs_ne HB.out HDO.out (by decide)
                  have HB := Lib.hid (rowIs_same HB.out (hoa _ n3))
                  have HDO := Lib.hid (rowIs_same HDO.out (hoa _ (Ne.symm hRD)))
                  have hb := hb.trans (hba.mono hglRO)
                  have RD : (fun w' => w'.rangeAt w.heap.size 0 [.slice v.ai N.ids.length v.ci, .slice v.ac N.costs.length v.cc, .slice v.al N.links.length v.cl]) wa := range_of_row HB.out rfl
                  refine ⟨RD, ?_⟩
                  clear hRa hoa hsa hba HRO n3
                  (try simp only [Act.put, List.setIfInBounds_toArray, List.set_cons_zero, List.set_cons_succ])
                  refine wpAnyH_ready (rs := [7]) (by kernel_rfl) (by simp) ?_
                  refine ar_cell18 (i := 7) (o := { dst := none, op := Op.store 35 (Operand.tmp 4) (Operand.tmp 11), type := 0, pos := "least.go:116", after := #[{ on := 5, ground := Ground.data }, { on := 3, ground := Ground.data }, { on := 6, ground := Ground.chain }, { on := 0, ground := Ground.phase }, { on := 1, ground := Ground.phase }, { on := 2, ground := Ground.phase }, { on := 3, ground := Ground.phase }, { on := 4, ground := Ground.phase }, { on := 5, ground := Ground.phase }, { on := 6, ground := Ground.phase }], guard := none } ) rfl (by kernel_rfl) 35 (.tmp 4) (.tmp 11) rfl DO 0 (.slice none 0 0) rfl rfl 35 _ HDO.out (show 0 < 1 from by decide) (by kernel_rfl) rfl ?_
                  intro wb hRb hob hsb hbb
                  have HB := Lib.hid (rowIs_same HB.out (hob _ n6))
                  have HRa := Lib.hid (rowIs_same HRa.out (hob _ hRD))
                  have hb := hb.trans (hbb.mono hglDO)
                  refine ⟨range_of_row HB.out rfl, ?_⟩
                  clear hRb hob hsb hbb HDO n6 RD
                  (try simp only [Act.put, List.setIfInBounds_toArray, List.set_cons_zero, List.set_cons_succ])
                  refine wpAnyH_done (by kernel_rfl) ?_ _
                  go_wp2_with fail
                  go_meet
                  exact ⟨RO, DO, rfl, rfl, HRa.out, HB.out, hb⟩
          case more27 =>
            refine ar_alloc18 (i := 4) (o := { dst := some 3, op := Op.alloc 35, type := 0, pos := "least.go:116", after := #[], guard := none }) rfl (by kernel_rfl) 35 rfl #[.slice none 0 0] (by kernel_rfl) ?h32 AllReadyH.nil
            case h32 =>
              have hbk : Below v26.heap.size v26 (v26.alloc (.cells #[.slice none 0 0] 35)) := (Below.refl _ _).alloc (Nat.le_refl _) _
              have hne : DO ≠ v26.heap.size := by have := HDO.out.lt; omega
              have HDO := Lib.hid (HDO.out.kept hbk)
              have HRO := Lib.hid (rowIs_new v26 35 #[.slice none 0 0])
              have HB := Lib.hid (HB.out.kept hbk)
              have hglRO : w1.heap.size ≤ v26.heap.size := hb.size
              have hb := hb.trans (hbk.mono hb.size)
              have RD : (fun w' => w'.rangeAt w.heap.size 0 [.slice v.ai N.ids.length v.ci, .slice v.ac N.costs.length v.cc, .slice v.al N.links.length v.cl]) (v26.alloc (.cells #[.slice none 0 0] 35)) := range_of_row HB.out rfl
              refine ⟨RD, ?_⟩
              clear hbk
              generalize v26.alloc (.cells #[.slice none 0 0] 35) = v32 at *
              generalize v26.heap.size = RO at *
              (try simp only [Act.put, List.setIfInBounds_toArray, List.set_cons_zero, List.set_cons_succ])
              refine wpAnyH_ready (rs := [1]) (by kernel_rfl) (by simp) ?_
              refine ar_call18 (i := 1) (o := { dst := some 9, op := Op.call { callee := Callee.value (Operand.func 13), args := #[Operand.tmp 8], argTypes := #[32] }, type := 35, pos := "least.go:116", after := #[{ on := 0, ground := Ground.data }], guard := none }) rfl (by kernel_rfl) (xs := [.tmp 8]) (vs := [.agg #[.slice v.ai N.ids.length v.ci, .slice v.ac N.costs.length v.cc, .slice v.al N.links.length v.cl]]) rfl rfl Try.func13 (by kernel_rfl) (by kernel_rfl) ?h33 AllReadyH.nil
              case h33 =>
                refine (HRY.out v32 hb).mono ?_
                rintro e v33 ⟨rfl, hbk⟩
                have HDO := Lib.hid (HDO.out.kept hbk)
                have HRO := Lib.hid (HRO.out.kept hbk)
                have HB := Lib.hid (HB.out.kept hbk)
                have hb := hb.trans (hbk.mono hb.size)
                have RD : (fun w' => w'.rangeAt w.heap.size 0 [.slice v.ai N.ids.length v.ci, .slice v.ac N.costs.length v.cc, .slice v.al N.links.length v.cl]) v33 := range_of_row HB.out rfl
                refine ⟨_, rfl, RD, ?_⟩
                clear hbk
                (try simp only [Act.put, List.setIfInBounds_toArray, List.set_cons_zero, List.set_cons_succ])
                refine wpAnyH_ready (rs := [3]) (by kernel_rfl) (by simp) ?_
                refine ar_call18 (i := 3) (o := { dst := some 11, op := Op.call { callee := Callee.value (Operand.func 14), args := #[Operand.tmp 10], argTypes := #[32] }, type := 35, pos := "least.go:116", after := #[{ on := 2, ground := Ground.data }, { on := 1, ground := Ground.chain }], guard := none }) rfl (by kernel_rfl) (xs := [.tmp 10]) (vs := [.agg #[.slice v.ai N.ids.length v.ci, .slice v.ac N.costs.length v.cc, .slice v.al N.links.length v.cl]]) rfl rfl Try.func14 (by kernel_rfl) (by kernel_rfl) ?h34 AllReadyH.nil
                case h34 =>
                  refine (HDY.out v33 hb).mono ?_
                  rintro e v34 ⟨rfl, hbk⟩
                  have HDO := Lib.hid (HDO.out.kept hbk)
                  have HRO := Lib.hid (HRO.out.kept hbk)
                  have HB := Lib.hid (HB.out.kept hbk)
                  have hb := hb.trans (hbk.mono hb.size)
                  have RD : (fun w' => w'.rangeAt w.heap.size 0 [.slice v.ai N.ids.length v.ci, .slice v.ac N.costs.length v.cc, .slice v.al N.links.length v.cl]) v34 := range_of_row HB.out rfl
                  refine ⟨_, rfl, RD, ?_⟩
                  clear hbk
                  (try simp only [Act.put, List.setIfInBounds_toArray, List.set_cons_zero, List.set_cons_succ])
                  have hRD : RO ≠ DO := (Ne.symm hne)
                  refine wpAnyH_ready (rs := [6]) (by kernel_rfl) (by simp) ?_
                  refine ar_cell18 (i := 6) (o := { dst := none, op := Op.store 35 (Operand.tmp 3) (Operand.tmp 9), type := 0, pos := "least.go:116", after := #[{ on := 4, ground := Ground.data }, { on := 1, ground := Ground.data }, { on := 3, ground := Ground.chain }, { on := 0, ground := Ground.phase }, { on := 1, ground := Ground.phase }, { on := 2, ground := Ground.textOnly Departure.lateStores }, { on := 3, ground := Ground.textOnly Departure.lateStoresUnsure }, { on := 4, ground := Ground.phase }, { on := 5, ground := Ground.phase }], guard := none }) rfl (by kernel_rfl) 35 (.tmp 3) (.tmp 9) rfl RO 0 (.slice none 0 0) rfl rfl 35 _ HRO.out (show 0 < 1 from by decide) (by kernel_rfl) rfl ?_
                  intro wa hRa hoa hsa hba
                  have HRa : Hid (RowIs wa RO 35 #[.slice none 0 0]) := hRa
                  have n3 : w.heap.size ≠ RO := rowIs_ne HB.out HRO.out (by decide)
                  have n6 : w.heap.size ≠ DO := rowIs_ne HB.out HDO.out (by decide)
                  have HB := Lib.hid (rowIs_same HB.out (hoa _ n3))
                  have HDO := Lib.hid (rowIs_same HDO.out (hoa _ (Ne.symm hRD)))
                  have hb := hb.trans (hba.mono hglRO)
                  have RD : (fun w' => w'.rangeAt w.heap.size 0 [.slice v.ai N.ids.length v.ci, .slice v.ac N.costs.length v.cc, .slice v.al N.links.length v.cl]) wa := range_of_row HB.out rfl
                  refine ⟨RD, ?_⟩
                  clear hRa hoa hsa hba HRO n3
                  (try simp only [Act.put, List.setIfInBounds_toArray, List.set_cons_zero, List.set_cons_succ])
                  refine wpAnyH_ready (rs := [7]) (by kernel_rfl) (by simp) ?_
                  refine ar_cell18 (i := 7) (o := { dst := none, op := Op.store 35 (Operand.tmp 4) (Operand.tmp 11), type := 0, pos := "least.go:116", after := #[{ on := 5, ground := Ground.data }, { on := 3, ground := Ground.data }, { on := 6, ground := Ground.chain }, { on := 0, ground := Ground.phase }, { on := 1, ground := Ground.phase }, { on := 2, ground := Ground.phase }, { on := 3, ground := Ground.phase }, { on := 4, ground := Ground.phase }, { on := 5, ground := Ground.phase }, { on := 6, ground := Ground.phase }], guard := none } ) rfl (by kernel_rfl) 35 (.tmp 4) (.tmp 11) rfl DO 0 (.slice none 0 0) rfl rfl 35 _ HDO.out (show 0 < 1 from by decide) (by kernel_rfl) rfl ?_
                  intro wb hRb hob hsb hbb
                  have HB := Lib.hid (rowIs_same HB.out (hob _ n6))
                  have HRa := Lib.hid (rowIs_same HRa.out (hob _ hRD))
                  have hb := hb.trans (hbb.mono hglDO)
                  refine ⟨range_of_row HB.out rfl, ?_⟩
                  clear hRb hob hsb hbb HDO n6 RD
                  (try simp only [Act.put, List.setIfInBounds_toArray, List.set_cons_zero, List.set_cons_succ])
                  refine wpAnyH_done (by kernel_rfl) ?_ _
                  go_wp2_with fail
                  go_meet
                  exact ⟨RO, DO, rfl, rfl, HRa.out, HB.out, hb⟩
  case rest =>
    obtain ⟨RO, DO, rfl, rfl, hro, hbx, hbx1⟩ := hcut
    have HRO := Lib.hid hro
    have HB := Lib.hid hbx
    have hbW2 := hbW.trans (hbx1.mono hbW.size)
    rename World => w2
    have cR : w2.cell? ⟨RO, 0, none⟩ = some (.slice none 0 0) := hro.cell 0
    have hmk : (Instr.makeSlice 35 (.int .i64 0) (.int .i64 0)).run Try.prog w2 = .ok (.slice (some ⟨w2.heap.size, 0, none⟩) 0 0) (w2.alloc (.cells (intsA []) 3)) := run_make_ints 0 (by omega) w2
    clear hro hbx hbx1 HRY HDY R0 hbW
    go_upto_region 3 with fail
    have hb3 : Below w2.heap.size w2 (w2.alloc (.cells (intsA []) 3)) := (Below.refl _ _).alloc (Nat.le_refl _) _
    have HRO := Lib.hid (HRO.out.kept hb3)
    have HB := Lib.hid (HB.out.kept hb3)
    have hbW3 := hbW2.trans (hb3.mono hbW2.size)
    clear hmk cR hb3 hbW2
    generalize hW3 : w2.alloc (.cells (intsA []) 3) = w3 at *
    have hs3 : w3.heap.size = w2.heap.size + 1 := by rw [← hW3]; simp
    have ROV := Lib.hid (rowIs_new w3 35 #[.slice (some ⟨w2.heap.size, 0, none⟩) 0 0])
    have hb4 : Below w3.heap.size w3 (w3.alloc (.cells #[.slice (some ⟨w2.heap.size, 0, none⟩) 0 0] 35)) := (Below.refl _ _).alloc (Nat.le_refl _) _
    have HRO := Lib.hid (HRO.out.kept hb4)
    have HB := Lib.hid (HB.out.kept hb4)
    have hbW4 := hbW3.trans (hb4.mono hbW3.size)
    rw [hs3] at ROV
    clear hb4 hbW3 hW3
    generalize hW4 : w3.alloc _ = w4 at *
    have hs4 : w4.heap.size = w2.heap.size + 2 := by rw [← hW4]; simp; omega
    clear hW4 hs3
    generalize w2.heap.size = g at *
    have cR : w4.cell? ⟨RO, 0, none⟩ = some (.slice none 0 0) := HRO.out.cell 0
    have hmk : (Instr.makeSlice 71 (.int .i64 0) (.int .i64 0)).run Try.prog w4 = .ok (.slice (some ⟨w4.heap.size, 0, none⟩) 0 0) (w4.alloc (.cells (vecsA []) 73)) := run_make_vecs 0 (by omega) w4
    rw [hs4] at hmk
    go_upto_region 4 with fail
    have hb5 : Below w4.heap.size w4 (w4.alloc (.cells (vecsA []) 73)) := (Below.refl _ _).alloc (Nat.le_refl _) _
    have HRO := Lib.hid (HRO.out.kept hb5)
    have HB := Lib.hid (HB.out.kept hb5)
    have ROV := Lib.hid (ROV.out.kept hb5)
    have hbW5 := hbW4.trans (hb5.mono hbW4.size)
    clear hmk cR hb5 hbW4
    generalize hW5 : w4.alloc (.cells (vecsA []) 73) = w5 at *
    have hs5 : w5.heap.size = g + 3 := by rw [← hW5]; simp; omega
    have hb6 : Below w5.heap.size w5 (w5.alloc (.cells #[.slice (some ⟨g + 2, 0, none⟩) 0 0] 71)) := (Below.refl _ _).alloc (Nat.le_refl _) _
    have HRO := Lib.hid (HRO.out.kept hb6)
    have HB := Lib.hid (HB.out.kept hb6)
    have ROV := Lib.hid (ROV.out.kept hb6)
    have hbW6 := hbW5.trans (hb6.mono hbW5.size)
    clear hb6 hbW5 hW5
    generalize hW6 : w5.alloc _ = w6 at *
    clear hW6 hs5 hs4
    have cO : w6.cell? ⟨g + 1, 0, none⟩ = some (.slice (some ⟨g, 0, none⟩) 0 0) := ROV.out.cell 0
    go_wp2_with fail
    clear cO
    go_loopw [7, 20] (fun _ s20 wr => s20 = .int .i64 0 ∧ Hid (RowIs wr (g + 1) 35 #[.slice (some ⟨g, 0, none⟩) 0 0]) ∧ Hid (RowIs wr RO 35 #[.slice none 0 0]) ∧ Hid (RowIs wr w.heap.size 32 #[.slice v.ai N.ids.length v.ci, .slice v.ac N.costs.length v.cc, .slice v.al N.links.length v.cl]) ∧ Below w.heap.size w wr) (fun _ s20 _ => 0)
    case atStart => exact ⟨rfl, ROV, HRO, HB, hbW6⟩
    case round =>
      clear ROV HRO HB hbW6
      rename World => wr
      obtain ⟨rfl, ROV, HRO, HB, hbr⟩ := hrel
      have HCA : Hid (Calls Try.prog 29 #[.agg #[.slice v.ai N.ids.length v.ci, .slice v.ac N.costs.length v.cc, .slice v.al N.links.length v.cl], .func (.func 32) #[] #[.pointer (some ⟨RO, 0, none⟩), .pointer (some ⟨w.heap.size, 0, none⟩), .pointer (some ⟨DO, 0, none⟩), .pointer (some ⟨g + 1, 0, none⟩), .pointer (some ⟨g + 3, 0, none⟩)]] wr
          fun e w' => e = .returned (.tuple #[]) ∧ Below wr.heap.size wr w') := by
        refine (both18 32 _ v N wr (fun _ w' => Below wr.heap.size wr w') [] (enters_of Try.func32 (by kernel_rfl) rfl) (by simp) (fun k w' hj => HN.out.kept (hbr.trans (hj.mono hbr.size)))
          (fun k w' w'' hj hb => hj.trans (hb.mono hj.size)) ?_ (Below.refl _ _) hl)
        intro k d w' hd hj
        refine (portsC_no w' RO d _ _ _ _ (HRO.out.kept hj)).mono ?_
        rintro e w2 ⟨he, hb⟩
        exact ⟨he, hj.trans (hb.mono hj.size), only_of_below hb⟩
      go_wp2_with ((with_reducible refine at_load 32 (.tmp 1) ?_); refine wpList_load_own rfl 32 (.tmp 1) rfl w.heap.size rfl _ _ _ HB.out Try.underlying32 rfl (by kernel_rfl) ?_)
      refine HCA.out.mono ?_
      rintro e w8 ⟨rfl, hb8⟩
      have cO : w8.cell? ⟨g + 1, 0, none⟩ = some (.slice (some ⟨g, 0, none⟩) 0 0) := (ROV.out.kept hb8).cell 0
      go_wp2_with fail
      go_ret
      exact ⟨⟨g, rfl⟩, hbr.trans (hb8.mono hbr.size)⟩
end Go.Proofs.Ytcmokhpnooldgaa
