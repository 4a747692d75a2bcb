import Derived.Test.YthkhgihjigmkoaaGreatRBt
set_option linter.unusedVariables false
set_option linter.unusedSimpArgs false
namespace Go.Proofs.YthkhgihjigmkoaaGreat.Tk
open Go.ChangeShapes Go.WideShapes Go.ChangeAt Go.RowKit Go.Maps
set_option maxRecDepth 100000 in
set_option maxHeartbeats 3200000 in
theorem give_13 (w : World) (F : Nat → Prop) (tb : Nat) (p : TPrg) (T : Tk) (X : TB) (h : TaskAt w F tb p T X) (hn : T.parts.length ≤ 1000) (hm : nextN T.marks = 0) (hml : T.marks.length ≤ 10000) (P : List Part) (q : Part) (hP : T.parts = P ++ [q])
  (D : Nat → Prop) (hD : ∀ k, D k → ¬ F k ∧ k < w.heap.size) (pr : Prg) (c0 c1 c2 : Value) (hv : PrgVal w D pr c0 c1 c2) (j : Nat) (hj : j < pr.funcs.length) (hfj : q.fn = j) (pc : Nat) (hpc : q.pc = pc) (hpl : pc < pr.funcs[j].code.length) (ia ib ic : Int) (hi : pr.funcs[j].code[pc] = ⟨13, ia, ib, ic⟩)
  (T' : Tk) (v : Int) (SET : ∀ wr, Below w.heap.size w wr → Calls Tryz.prog 70 #[.agg (stepV c0 c1 c2 (.pointer none) tb 13 ia ib ic), .int .i64 ia, .int .i64 v] wr fun e w' => e = .returned (actV 0 0 0 0 0 false (.slice none 0 0)) ∧ TaskAt w' F tb p T' X ∧ Fr F wr w') :
  Calls Tryz.prog 35 #[.agg #[c0, c1, c2], .pointer (some ⟨tb, 0, none⟩), .int .i64 v] w fun e w' => e = .returned (.bool true) ∧ TaskAt w' F tb p T' X ∧ Fr F w w' := by
 have hv0 := hv
 obtain ⟨⟨a0, m0, rfl, _⟩, ⟨a1, m1, rfl, _⟩, a2, m2, rfl, hfn⟩ := hv
 have hb0 := ((Below.refl w.heap.size w).alloc (Nat.le_refl _) (.cells #[.slice a0 pr.globals.length m0, .slice a1 pr.shapes.length m1, .slice a2 pr.funcs.length m2] 27))
 have hr0 := heap_new w (.cells #[.slice a0 pr.globals.length m0, .slice a1 pr.shapes.length m1, .slice a2 pr.funcs.length m2] 27)
 obtain ⟨W, hW⟩ : ∃ W, W = (w.alloc (.cells #[.slice a0 pr.globals.length m0, .slice a1 pr.shapes.length m1, .slice a2 pr.funcs.length m2] 27)) := ⟨_, rfl⟩
 rw [← hW] at hb0 hr0
 have hT := h.below hb0
 have hl : T.parts.length = P.length + 1 := by rw [hP]; simp
 have e0 : (T.parts[P.length]'(by omega)) = q := by simp only [hP]; simp
 have nx := tkNext_any W F tb p T X hT hml
 have dp := depth_any W F tb p T X hT
 rw [hm] at nx
 rw [hl] at dp
 have hd0 : ((((P.length + 1 : Nat) : Int)) == 0) = false := by rw [beq_eq_false_iff_ne]; omega
 have fnc := fun wr (hw : Below w.heap.size w wr) => fn_some wr F tb p T X (h.below hw) hn P.length hl
 have pcc := fun wr (hw : Below w.heap.size w wr) => pc_some wr F tb p T X (h.below hw) hn P.length hl
 rw [e0, hfj] at fnc
 rw [e0, hpc] at pcc
 obtain ⟨bb, o, rfl, hdb, y0, y1, y2, y3, y4, g0, g1, g2, g3, g4, hfv⟩ := hfn j hj
 obtain ⟨_, _, _, _, ac, cc, rfl, hcode⟩ := hfv
 obtain ⟨cb, co, rfl, hdc, x0, x1, x2, x3⟩ := hcode pc hpl
 rw [hi] at x0 x1 x2 x3
 have hcs : ∀ wx, Below W.heap.size W wx → wx.cell? ⟨w.heap.size, 0, none⟩ = some (.slice a0 pr.globals.length m0) ∧ wx.cell? ⟨w.heap.size, 1, none⟩ = some (.slice a1 pr.shapes.length m1) ∧ wx.cell? ⟨w.heap.size, 2, none⟩ = some (.slice (some ⟨bb, o, none⟩) pr.funcs.length m2) ∧ wx.cell? ⟨bb, o + j * 5 + 4, none⟩ = some (.slice (some ⟨cb, co, none⟩) pr.funcs[j].code.length cc) ∧ wx.cell? ⟨cb, co + pc * 4, none⟩ = some (.int .i64 13) ∧ wx.cell? ⟨cb, co + pc * 4 + 1, none⟩ = some (.int .i64 ia) ∧ wx.cell? ⟨cb, co + pc * 4 + 2, none⟩ = some (.int .i64 ib) ∧ wx.cell? ⟨cb, co + pc * 4 + 3, none⟩ = some (.int .i64 ic) := fun wx hw => by
  have hk := (Fr.of_below hw (fun _ => False)).heap hr0 (fun h => h)
  have hw2 := hb0.trans (hw.mono hb0.size)
  exact ⟨(row_cell hk 0).1, (row_cell hk 1).1, (row_cell hk 2).1, below_cell hw2 g4, below_cell hw2 x0, below_cell hw2 x1, below_cell hw2 x2, below_cell hw2 x3⟩
 have hj0 : (0 : Int) ≤ (j : Int) := by omega
 have hj1 : (j : Int) < (pr.funcs.length : Int) := by omega
 have hp0 : (0 : Int) ≤ (pc : Int) := by omega
 have hp1 : (pc : Int) < (pr.funcs[j].code.length : Int) := by omega
 have HFLT := Lib.hid h.flt
 have HW := Lib.hid hW
 have HBW := Lib.hid hb0
 obtain ⟨k0, k1, k2, _⟩ := hcs W (Below.refl _ _)
 clear hb0 hW hT hl e0 h hn hm hml hP hfj hpc hi hv0 hfn g0 g1 g2 g3 g4 x0 x1 x2 x3 hdb hdc hD hpl
 generalize pr.funcs[j].code.length = cl at *
 generalize ((P.length + 1 : Nat) : Int) = dn at *
 have FNC := Lib.hid fnc; clear fnc
 have PCC := Lib.hid pcc; clear pcc
 have SETX := Lib.hid SET; clear SET
 have NX := Lib.hid nx; clear nx
 have DP := Lib.hid dp; clear dp
 have HR0 := Lib.hid hr0; clear hr0
 have HCS := Lib.hid hcs; clear hcs
 unfold stepV at SETX
 go_enter Tryz.func35, Tryz.ntmps35
 go_upto_region 1 with fail
 rw [← HW.out]
 go_wp2_with fail
 refine DP.out.mono ?_
 rintro e w3 ⟨rfl, rfl⟩
 go_wp2_with fail
 refine NX.out.mono ?_
 rintro e w3 ⟨rfl, hb3⟩
 have HB3 := Lib.hid hb3
 have hSd := HCS.out _ hb3.drew
 clear hb3 k0 k1 k2
 obtain ⟨k0, k1, k2, _⟩ := HCS.out _ HB3.out
 go_upto_region 3 with fail
 go_cut [7] (fun x wx => ∃ z : Nat, x = .pointer (some ⟨z, 0, none⟩) ∧ wx.heap[z]? = some (.cells #[.int .i64 13, .int .i64 ia, .int .i64 ib, .int .i64 ic] 59) ∧ w3.heap.size ≤ z ∧ Below w3.heap.size w3 wx)
 case first =>
  clear k0 k1 k2
  have HCB := Lib.hid (fun wx (hx : Below w3.heap.size w3 wx) => HCS.out wx (HB3.out.trans (hx.mono HB3.out.size)))
  have hto := fun wx (hx : Below w3.heap.size w3 wx) => HBW.out.trans ((HB3.out.trans (hx.mono HB3.out.size)).mono HBW.out.size)
  have fnc := fun wx (hx : Below w3.heap.size w3 wx) => (FNC.out wx (hto wx hx)).mono (fun e w' he => (show e = .returned (.int .i64 j) ∧ Below wx.heap.size wx w' from ⟨he.1, by obtain ⟨m, hm⟩ := he.2; rw [hm]; exact below_drewN (Below.refl _ _) m⟩))
  have pcc := fun wx (hx : Below w3.heap.size w3 wx) => (PCC.out wx (hto wx hx)).mono (fun e w' he => (show e = .returned (.int .i64 pc) ∧ Below wx.heap.size wx w' from ⟨he.1, by obtain ⟨m, hm⟩ := he.2; rw [hm]; exact below_drewN (Below.refl _ _) m⟩))
  clear hto hSd
  have FNC := Lib.hid fnc; clear fnc
  have PCC := Lib.hid pcc; clear pcc
  refine wp_region_noPanic ?_
  refine wp_region_held_drew (S := fun w' => Below w3.heap.size w3 w') (by kernel_rfl) (Below.refl _ _).drew (fun _ => ?_)
  have HR1 := Lib.hid (Below.refl w3.heap.size w3).drew
  generalize w3.drew = r1 at *
  refine wpAnyH_take (i := 0) (v := ?_) rfl (by kernel_rfl) (by kernel_rfl) (by kernel_rfl) (fun _ _ _ h => h) (Or.inl ⟨by rfl, ?tq1⟩) HR1.out ?_
  case tq1 => (intro wq hq; obtain ⟨f0, f1, f2, f3, f4, f5, f6, f7⟩ := HCB.out wq hq; go_simp; first | done | with_reducible rfl)
  refine wpAnyH_take (i := 1) (v := ?_) rfl (by kernel_rfl) (by kernel_rfl) (by kernel_rfl) (fun _ _ _ h => h) (Or.inl ⟨by rfl, ?tq2⟩) HR1.out ?_
  case tq2 => (intro wq hq; obtain ⟨f0, f1, f2, f3, f4, f5, f6, f7⟩ := HCB.out wq hq; go_simp; first | done | with_reducible rfl)
  refine wpAnyH_take (i := 2) (v := ?_) rfl (by kernel_rfl) (by kernel_rfl) (by kernel_rfl) (fun _ _ _ h => h) (Or.inl ⟨by rfl, ?tq3⟩) HR1.out ?_
  case tq3 => (intro wq hq; obtain ⟨f0, f1, f2, f3, f4, f5, f6, f7⟩ := HCB.out wq hq; go_simp; first | done | with_reducible rfl)
  refine wpAnyH_take (i := 7) (v := ?_) rfl (by kernel_rfl) (by kernel_rfl) (by kernel_rfl) (fun _ _ _ h => h) (Or.inl ⟨by rfl, ?tq4⟩) HR1.out ?_
  case tq4 => (intro wq hq; obtain ⟨f0, f1, f2, f3, f4, f5, f6, f7⟩ := HCB.out wq hq; go_simp; first | done | with_reducible rfl)
  refine wpAnyH_ready (rs := [3, 11]) (by kernel_rfl) (by simp) ?_
  refine (AllReadyH.cons rfl (fun K hK => ?_) (AllReadyH.cons rfl (fun K hK => ?_) AllReadyH.nil))
  ·skip
   go_simp
   go_at_call 38
   refine (FNC.out r1 HR1.out).mono ?_
   rintro e r2 ⟨rfl, hb⟩
   have HR2 := Lib.hid (HR1.out.trans (hb.mono HR1.out.size))
   clear hb
   refine hK.out _ _ HR2.out (fun _ => ?_)
   clear hK K
   refine wpAnyH_take (i := 4) (v := ?_) rfl (by kernel_rfl) (by kernel_rfl) (by kernel_rfl) (fun _ _ _ h => h) (Or.inl ⟨by rfl, ?tq5⟩) HR2.out ?_
   case tq5 => (intro wq hq; obtain ⟨f0, f1, f2, f3, f4, f5, f6, f7⟩ := HCB.out wq hq; go_simp; first | done | with_reducible rfl)
   refine wpAnyH_take (i := 5) (v := ?_) rfl (by kernel_rfl) (by kernel_rfl) (by kernel_rfl) (fun _ _ _ h => h) (Or.inl ⟨by rfl, ?tq6⟩) HR2.out ?_
   case tq6 => (intro wq hq; obtain ⟨f0, f1, f2, f3, f4, f5, f6, f7⟩ := HCB.out wq hq; go_simp; first | done | with_reducible rfl)
   refine wpAnyH_take (i := 6) (v := ?_) rfl (by kernel_rfl) (by kernel_rfl) (by kernel_rfl) (fun _ _ _ h => h) (Or.inl ⟨by rfl, ?tq7⟩) HR2.out ?_
   case tq7 => (intro wq hq; obtain ⟨f0, f1, f2, f3, f4, f5, f6, f7⟩ := HCB.out wq hq; go_simp; first | done | with_reducible rfl)
   refine wpAnyH_ready (rs := [8, 11]) (by kernel_rfl) (by simp) ?_
   refine (AllReadyH.cons rfl (fun K hK => ?_) (AllReadyH.cons rfl (fun K hK => ?_) AllReadyH.nil))
   ·skip
    go_simp
    go_at_call 31
    refine (PCC.out r2 HR2.out).mono ?_
    rintro e r3 ⟨rfl, hb⟩
    have HR3 := Lib.hid (HR2.out.trans (hb.mono HR2.out.size))
    clear hb
    refine hK.out _ _ HR3.out (fun _ => ?_)
    clear hK K
    refine wpAnyH_take (i := 9) (v := ?_) rfl (by kernel_rfl) (by kernel_rfl) (by kernel_rfl) (fun _ _ _ h => h) (Or.inl ⟨by rfl, ?tq8⟩) HR3.out ?_
    case tq8 => (intro wq hq; obtain ⟨f0, f1, f2, f3, f4, f5, f6, f7⟩ := HCB.out wq hq; go_simp; first | done | with_reducible rfl)
    refine wpAnyH_take (i := 10) (v := ?_) rfl (by kernel_rfl) (by kernel_rfl) (by kernel_rfl) (fun _ _ _ h => h) (Or.inl ⟨by rfl, ?tq9⟩) HR3.out ?_
    case tq9 => (intro wq hq; obtain ⟨f0, f1, f2, f3, f4, f5, f6, f7⟩ := HCB.out wq hq; go_simp; first | done | with_reducible rfl)
    refine wpAnyH_ready (rs := [11]) (by kernel_rfl) (by simp) ?_
    refine (AllReadyH.cons rfl (fun K hK => ?_) AllReadyH.nil)
    ·skip
     go_simp
     obtain ⟨r4, hr⟩ : ∃ r, r = r3.alloc (.cells #[.int .i64 0, .int .i64 0, .int .i64 0, .int .i64 0] 59) := ⟨_, rfl⟩
     obtain ⟨y, hy⟩ : ∃ y, y = r3.heap.size := ⟨_, rfl⟩
     have hl : r4.heap[y]? = some (.cells #[.int .i64 0, .int .i64 0, .int .i64 0, .int .i64 0] 59) := by rw [hr, hy]; exact heap_new _ _
     have hb : Below r3.heap.size r3 r4 := by rw [hr]; exact (Below.refl _ _).alloc (Nat.le_refl _) _
     rw [← hr, ← hy]
     have hyW : w3.heap.size ≤ y := by have := HR3.out.size; omega
     have HR4 := Lib.hid (HR3.out.trans (hb.mono HR3.out.size))
     have HY := Lib.hid hl
     clear hl hb hr hy
     refine hK.out _ _ HR4.out (fun _ => ?_)
     clear hK K
     refine wpAnyH_ready (rs := [12]) (by kernel_rfl) (by simp) ?_
     refine (AllReadyH.cons rfl (fun K hK => ?_) AllReadyH.nil)
     have k0 := (row_cell HY.out 0).1
     have g0 := (row_cell HY.out 0).2
     have k1 := (row_cell HY.out 1).1
     have g1 := (row_cell HY.out 1).2
     have k2 := (row_cell HY.out 2).1
     have g2 := (row_cell HY.out 2).2
     have k3 := (row_cell HY.out 3).1
     have g3 := (row_cell HY.out 3).2
     simp only [List.getElem?_toArray, List.getElem?_cons_zero, List.getElem?_cons_succ] at k0 k1 k2 k3
     go_simp
     clear k0 k1 k2 k3 g0 g1 g2 g3
     have hl := (row_set (row_set (row_set (row_set HY.out 0 (.int .i64 13)) 1 (.int .i64 ia)) 2 (.int .i64 ib)) 3 (.int .i64 ic))
     simp only [List.setIfInBounds_toArray, List.set_cons_zero, List.set_cons_succ] at hl
     have hf : Fr (fun k => k = y) r4 _ := (((((Fr.refl (fun k => k = y) r4).setCell (p := ⟨y, 0, none⟩) (fun _ => rfl) (.int .i64 13)).setCell (p := ⟨y, 1, none⟩) (fun _ => rfl) (.int .i64 ia)).setCell (p := ⟨y, 2, none⟩) (fun _ => rfl) (.int .i64 ib)).setCell (p := ⟨y, 3, none⟩) (fun _ => rfl) (.int .i64 ic))
     generalize (((r4.setCell ⟨y, 0, none⟩ (.int .i64 13)).setCell ⟨y, 1, none⟩ (.int .i64 ia)).setCell ⟨y, 2, none⟩ (.int .i64 ib)).setCell ⟨y, 3, none⟩ (.int .i64 ic) = r5 at *
     have HR5 := Lib.hid (HR4.out.trans (hf.below HR4.out.size (fun k hk => by have e : k = y := hk; omega)))
     have HY := Lib.hid hl
     clear hl hf
     refine hK.out _ _ HR5.out (fun _ => ?_)
     clear hK K
     refine wpAnyH_done (by kernel_rfl) ?_ _
     refine NoPanic.normal ?_
     go_wp2_with fail
     go_meet
     case rel => exact ⟨y, rfl, HY.out, hyW, HR5.out⟩
   ·skip
    go_simp
    obtain ⟨r3, hr⟩ : ∃ r, r = r2.alloc (.cells #[.int .i64 0, .int .i64 0, .int .i64 0, .int .i64 0] 59) := ⟨_, rfl⟩
    obtain ⟨y, hy⟩ : ∃ y, y = r2.heap.size := ⟨_, rfl⟩
    have hl : r3.heap[y]? = some (.cells #[.int .i64 0, .int .i64 0, .int .i64 0, .int .i64 0] 59) := by rw [hr, hy]; exact heap_new _ _
    have hb : Below r2.heap.size r2 r3 := by rw [hr]; exact (Below.refl _ _).alloc (Nat.le_refl _) _
    rw [← hr, ← hy]
    have hyW : w3.heap.size ≤ y := by have := HR2.out.size; omega
    have HR3 := Lib.hid (HR2.out.trans (hb.mono HR2.out.size))
    have HY := Lib.hid hl
    clear hl hb hr hy
    refine hK.out _ _ HR3.out (fun _ => ?_)
    clear hK K
    refine wpAnyH_ready (rs := [8]) (by kernel_rfl) (by simp) ?_
    refine (AllReadyH.cons rfl (fun K hK => ?_) AllReadyH.nil)
    ·skip
     go_simp
     go_at_call 31
     refine (PCC.out r3 HR3.out).mono ?_
     rintro e r4 ⟨rfl, hb⟩
     have HR4 := Lib.hid (HR3.out.trans (hb.mono HR3.out.size))
     have HY := Lib.hid ((Fr.of_below hb (fun _ => False)).heap HY.out (fun h => h))
     clear hb
     refine hK.out _ _ HR4.out (fun _ => ?_)
     clear hK K
     refine wpAnyH_take (i := 9) (v := ?_) rfl (by kernel_rfl) (by kernel_rfl) (by kernel_rfl) (fun _ _ _ h => h) (Or.inl ⟨by rfl, ?tq10⟩) HR4.out ?_
     case tq10 => (intro wq hq; obtain ⟨f0, f1, f2, f3, f4, f5, f6, f7⟩ := HCB.out wq hq; go_simp; first | done | with_reducible rfl)
     refine wpAnyH_take (i := 10) (v := ?_) rfl (by kernel_rfl) (by kernel_rfl) (by kernel_rfl) (fun _ _ _ h => h) (Or.inl ⟨by rfl, ?tq11⟩) HR4.out ?_
     case tq11 => (intro wq hq; obtain ⟨f0, f1, f2, f3, f4, f5, f6, f7⟩ := HCB.out wq hq; go_simp; first | done | with_reducible rfl)
     refine wpAnyH_ready (rs := [12]) (by kernel_rfl) (by simp) ?_
     refine (AllReadyH.cons rfl (fun K hK => ?_) AllReadyH.nil)
     have k0 := (row_cell HY.out 0).1
     have g0 := (row_cell HY.out 0).2
     have k1 := (row_cell HY.out 1).1
     have g1 := (row_cell HY.out 1).2
     have k2 := (row_cell HY.out 2).1
     have g2 := (row_cell HY.out 2).2
     have k3 := (row_cell HY.out 3).1
     have g3 := (row_cell HY.out 3).2
     simp only [List.getElem?_toArray, List.getElem?_cons_zero, List.getElem?_cons_succ] at k0 k1 k2 k3
     go_simp
     clear k0 k1 k2 k3 g0 g1 g2 g3
     have hl := (row_set (row_set (row_set (row_set HY.out 0 (.int .i64 13)) 1 (.int .i64 ia)) 2 (.int .i64 ib)) 3 (.int .i64 ic))
     simp only [List.setIfInBounds_toArray, List.set_cons_zero, List.set_cons_succ] at hl
     have hf : Fr (fun k => k = y) r4 _ := (((((Fr.refl (fun k => k = y) r4).setCell (p := ⟨y, 0, none⟩) (fun _ => rfl) (.int .i64 13)).setCell (p := ⟨y, 1, none⟩) (fun _ => rfl) (.int .i64 ia)).setCell (p := ⟨y, 2, none⟩) (fun _ => rfl) (.int .i64 ib)).setCell (p := ⟨y, 3, none⟩) (fun _ => rfl) (.int .i64 ic))
     generalize (((r4.setCell ⟨y, 0, none⟩ (.int .i64 13)).setCell ⟨y, 1, none⟩ (.int .i64 ia)).setCell ⟨y, 2, none⟩ (.int .i64 ib)).setCell ⟨y, 3, none⟩ (.int .i64 ic) = r5 at *
     have HR5 := Lib.hid (HR4.out.trans (hf.below HR4.out.size (fun k hk => by have e : k = y := hk; omega)))
     have HY := Lib.hid hl
     clear hl hf
     refine hK.out _ _ HR5.out (fun _ => ?_)
     clear hK K
     refine wpAnyH_done (by kernel_rfl) ?_ _
     refine NoPanic.normal ?_
     go_wp2_with fail
     go_meet
     case rel => exact ⟨y, rfl, HY.out, hyW, HR5.out⟩
  ·skip
   go_simp
   obtain ⟨r2, hr⟩ : ∃ r, r = r1.alloc (.cells #[.int .i64 0, .int .i64 0, .int .i64 0, .int .i64 0] 59) := ⟨_, rfl⟩
   obtain ⟨y, hy⟩ : ∃ y, y = r1.heap.size := ⟨_, rfl⟩
   have hl : r2.heap[y]? = some (.cells #[.int .i64 0, .int .i64 0, .int .i64 0, .int .i64 0] 59) := by rw [hr, hy]; exact heap_new _ _
   have hb : Below r1.heap.size r1 r2 := by rw [hr]; exact (Below.refl _ _).alloc (Nat.le_refl _) _
   rw [← hr, ← hy]
   have hyW : w3.heap.size ≤ y := by have := HR1.out.size; omega
   have HR2 := Lib.hid (HR1.out.trans (hb.mono HR1.out.size))
   have HY := Lib.hid hl
   clear hl hb hr hy
   refine hK.out _ _ HR2.out (fun _ => ?_)
   clear hK K
   refine wpAnyH_ready (rs := [3]) (by kernel_rfl) (by simp) ?_
   refine (AllReadyH.cons rfl (fun K hK => ?_) AllReadyH.nil)
   ·skip
    go_simp
    go_at_call 38
    refine (FNC.out r2 HR2.out).mono ?_
    rintro e r3 ⟨rfl, hb⟩
    have HR3 := Lib.hid (HR2.out.trans (hb.mono HR2.out.size))
    have HY := Lib.hid ((Fr.of_below hb (fun _ => False)).heap HY.out (fun h => h))
    clear hb
    refine hK.out _ _ HR3.out (fun _ => ?_)
    clear hK K
    refine wpAnyH_take (i := 4) (v := ?_) rfl (by kernel_rfl) (by kernel_rfl) (by kernel_rfl) (fun _ _ _ h => h) (Or.inl ⟨by rfl, ?tq12⟩) HR3.out ?_
    case tq12 => (intro wq hq; obtain ⟨f0, f1, f2, f3, f4, f5, f6, f7⟩ := HCB.out wq hq; go_simp; first | done | with_reducible rfl)
    refine wpAnyH_take (i := 5) (v := ?_) rfl (by kernel_rfl) (by kernel_rfl) (by kernel_rfl) (fun _ _ _ h => h) (Or.inl ⟨by rfl, ?tq13⟩) HR3.out ?_
    case tq13 => (intro wq hq; obtain ⟨f0, f1, f2, f3, f4, f5, f6, f7⟩ := HCB.out wq hq; go_simp; first | done | with_reducible rfl)
    refine wpAnyH_take (i := 6) (v := ?_) rfl (by kernel_rfl) (by kernel_rfl) (by kernel_rfl) (fun _ _ _ h => h) (Or.inl ⟨by rfl, ?tq14⟩) HR3.out ?_
    case tq14 => (intro wq hq; obtain ⟨f0, f1, f2, f3, f4, f5, f6, f7⟩ := HCB.out wq hq; go_simp; first | done | with_reducible rfl)
    refine wpAnyH_ready (rs := [8]) (by kernel_rfl) (by simp) ?_
    refine (AllReadyH.cons rfl (fun K hK => ?_) AllReadyH.nil)
    ·skip
     go_simp
     go_at_call 31
     refine (PCC.out r3 HR3.out).mono ?_
     rintro e r4 ⟨rfl, hb⟩
     have HR4 := Lib.hid (HR3.out.trans (hb.mono HR3.out.size))
     have HY := Lib.hid ((Fr.of_below hb (fun _ => False)).heap HY.out (fun h => h))
     clear hb
     refine hK.out _ _ HR4.out (fun _ => ?_)
     clear hK K
     refine wpAnyH_take (i := 9) (v := ?_) rfl (by kernel_rfl) (by kernel_rfl) (by kernel_rfl) (fun _ _ _ h => h) (Or.inl ⟨by rfl, ?tq15⟩) HR4.out ?_
     case tq15 => (intro wq hq; obtain ⟨f0, f1, f2, f3, f4, f5, f6, f7⟩ := HCB.out wq hq; go_simp; first | done | with_reducible rfl)
     refine wpAnyH_take (i := 10) (v := ?_) rfl (by kernel_rfl) (by kernel_rfl) (by kernel_rfl) (fun _ _ _ h => h) (Or.inl ⟨by rfl, ?tq16⟩) HR4.out ?_
     case tq16 => (intro wq hq; obtain ⟨f0, f1, f2, f3, f4, f5, f6, f7⟩ := HCB.out wq hq; go_simp; first | done | with_reducible rfl)
     refine wpAnyH_ready (rs := [12]) (by kernel_rfl) (by simp) ?_
     refine (AllReadyH.cons rfl (fun K hK => ?_) AllReadyH.nil)
     have k0 := (row_cell HY.out 0).1
     have g0 := (row_cell HY.out 0).2
     have k1 := (row_cell HY.out 1).1
     have g1 := (row_cell HY.out 1).2
     have k2 := (row_cell HY.out 2).1
     have g2 := (row_cell HY.out 2).2
     have k3 := (row_cell HY.out 3).1
     have g3 := (row_cell HY.out 3).2
     simp only [List.getElem?_toArray, List.getElem?_cons_zero, List.getElem?_cons_succ] at k0 k1 k2 k3
     go_simp
     clear k0 k1 k2 k3 g0 g1 g2 g3
     have hl := (row_set (row_set (row_set (row_set HY.out 0 (.int .i64 13)) 1 (.int .i64 ia)) 2 (.int .i64 ib)) 3 (.int .i64 ic))
     simp only [List.setIfInBounds_toArray, List.set_cons_zero, List.set_cons_succ] at hl
     have hf : Fr (fun k => k = y) r4 _ := (((((Fr.refl (fun k => k = y) r4).setCell (p := ⟨y, 0, none⟩) (fun _ => rfl) (.int .i64 13)).setCell (p := ⟨y, 1, none⟩) (fun _ => rfl) (.int .i64 ia)).setCell (p := ⟨y, 2, none⟩) (fun _ => rfl) (.int .i64 ib)).setCell (p := ⟨y, 3, none⟩) (fun _ => rfl) (.int .i64 ic))
     generalize (((r4.setCell ⟨y, 0, none⟩ (.int .i64 13)).setCell ⟨y, 1, none⟩ (.int .i64 ia)).setCell ⟨y, 2, none⟩ (.int .i64 ib)).setCell ⟨y, 3, none⟩ (.int .i64 ic) = r5 at *
     have HR5 := Lib.hid (HR4.out.trans (hf.below HR4.out.size (fun k hk => by have e : k = y := hk; omega)))
     have HY := Lib.hid hl
     clear hl hf
     refine hK.out _ _ HR5.out (fun _ => ?_)
     clear hK K
     refine wpAnyH_done (by kernel_rfl) ?_ _
     refine NoPanic.normal ?_
     go_wp2_with fail
     go_meet
     case rel => exact ⟨y, rfl, HY.out, hyW, HR5.out⟩
 case rest =>
  obtain ⟨z, rfl, hz, hzl, hR⟩ := hcut
  have hbc := HB3.out.trans (hR.mono HB3.out.size)
  obtain ⟨k0, k1, k2, _⟩ := HCS.out _ hbc
  have z0 : wc.cell? ⟨z, 0, none⟩ = some (.int .i64 13) := (row_cell hz 0).1
  have z1 : wc.cell? ⟨z, 1, none⟩ = some (.int .i64 ia) := (row_cell hz 1).1
  have z2 : wc.cell? ⟨z, 2, none⟩ = some (.int .i64 ib) := (row_cell hz 2).1
  have z3 : wc.cell? ⟨z, 3, none⟩ = some (.int .i64 ic) := (row_cell hz 3).1
  have ha := (Below.refl wc.heap.size wc).alloc (Nat.le_refl _) (.cells #[.slice a0 pr.globals.length m0, .slice a1 pr.shapes.length m1, .slice (some ⟨bb, o, none⟩) pr.funcs.length m2, .pointer none, .pointer (some ⟨tb, 0, none⟩), .int .i64 13, .int .i64 ia, .int .i64 ib, .int .i64 ic] 124)
  have hra := heap_new wc (.cells #[.slice a0 pr.globals.length m0, .slice a1 pr.shapes.length m1, .slice (some ⟨bb, o, none⟩) pr.funcs.length m2, .pointer none, .pointer (some ⟨tb, 0, none⟩), .int .i64 13, .int .i64 ia, .int .i64 ib, .int .i64 ic] 124)
  obtain ⟨V, hV⟩ : ∃ V, V = wc.alloc (.cells #[.slice a0 pr.globals.length m0, .slice a1 pr.shapes.length m1, .slice (some ⟨bb, o, none⟩) pr.funcs.length m2, .pointer none, .pointer (some ⟨tb, 0, none⟩), .int .i64 13, .int .i64 ia, .int .i64 ib, .int .i64 ic] 124) := ⟨_, rfl⟩
  obtain ⟨y, hy⟩ : ∃ y, y = wc.heap.size := ⟨_, rfl⟩
  rw [← hV] at ha hra
  rw [← hy] at hra
  have hz' := (Fr.of_below ha (fun _ => False)).heap hz (fun h => h)
  have HVB := Lib.hid (hbc.trans (ha.mono hbc.size))
  have HV := Lib.hid hV
  have HY := Lib.hid hy
  have HZ := Lib.hid hz'
  have HRA := Lib.hid hra
  clear hz hR hbc hV hy hz' hra ha hzl hSd
  go_upto_region 5 with fail
  rw [← HV.out, ← HY.out]
  clear z0 z1 z2 z3 k0 k1 k2
  have z0 : V.cell? ⟨z, 0, none⟩ = some (.int .i64 13) := (row_cell HZ.out 0).1
  have z1 : V.cell? ⟨z, 1, none⟩ = some (.int .i64 ia) := (row_cell HZ.out 1).1
  have y0 : V.cell? ⟨y, 0, none⟩ = some (.slice a0 pr.globals.length m0) := (row_cell HRA.out 0).1
  have y1 : V.cell? ⟨y, 1, none⟩ = some (.slice a1 pr.shapes.length m1) := (row_cell HRA.out 1).1
  have y2 : V.cell? ⟨y, 2, none⟩ = some (.slice (some ⟨bb, o, none⟩) pr.funcs.length m2) := (row_cell HRA.out 2).1
  have y3 : V.cell? ⟨y, 3, none⟩ = some (.pointer none) := (row_cell HRA.out 3).1
  have y4 : V.cell? ⟨y, 4, none⟩ = some (.pointer (some ⟨tb, 0, none⟩)) := (row_cell HRA.out 4).1
  have y5 : V.cell? ⟨y, 5, none⟩ = some (.int .i64 13) := (row_cell HRA.out 5).1
  have y6 : V.cell? ⟨y, 6, none⟩ = some (.int .i64 ia) := (row_cell HRA.out 6).1
  have y7 : V.cell? ⟨y, 7, none⟩ = some (.int .i64 ib) := (row_cell HRA.out 7).1
  have y8 : V.cell? ⟨y, 8, none⟩ = some (.int .i64 ic) := (row_cell HRA.out 8).1
  have hbV := HBW.out.trans (HVB.out.mono HBW.out.size)
  have HBV := Lib.hid hbV
  clear hbV
  go_wp2_with fail
  refine (SETX.out V HBV.out).mono ?_
  rintro e w9 ⟨rfl, hT9, hf9⟩
  have hf := (Fr.of_below HBV.out F).trans hf9 (fun _ _ h => h)
  clear z0 z1 y0 y1 y2 y3 y4 y5 y6 y7 y8 hf9
  have HT9 := Lib.hid hT9; clear hT9
  have HF := Lib.hid hf; clear hf
  go_wp2_with fail
  go_ret
  exact ⟨rfl, HT9.out, HF.out⟩
set_option maxRecDepth 100000 in
set_option maxHeartbeats 3200000 in
theorem give_14 (w : World) (F : Nat → Prop) (tb : Nat) (p : TPrg) (T : Tk) (X : TB) (h : TaskAt w F tb p T X) (hn : T.parts.length ≤ 1000) (hm : nextN T.marks = 0) (hml : T.marks.length ≤ 10000) (P : List Part) (q : Part) (hP : T.parts = P ++ [q])
  (D : Nat → Prop) (hD : ∀ k, D k → ¬ F k ∧ k < w.heap.size) (pr : Prg) (c0 c1 c2 : Value) (hv : PrgVal w D pr c0 c1 c2) (j : Nat) (hj : j < pr.funcs.length) (hfj : q.fn = j) (pc : Nat) (hpc : q.pc = pc) (hpl : pc < pr.funcs[j].code.length) (ia ib ic : Int) (hi : pr.funcs[j].code[pc] = ⟨14, ia, ib, ic⟩)
  (T' : Tk) (v : Int) (SET : ∀ wr, Below w.heap.size w wr → Calls Tryz.prog 70 #[.agg (stepV c0 c1 c2 (.pointer none) tb 14 ia ib ic), .int .i64 ia, .int .i64 v] wr fun e w' => e = .returned (actV 0 0 0 0 0 false (.slice none 0 0)) ∧ TaskAt w' F tb p T' X ∧ Fr F wr w') :
  Calls Tryz.prog 35 #[.agg #[c0, c1, c2], .pointer (some ⟨tb, 0, none⟩), .int .i64 v] w fun e w' => e = .returned (.bool true) ∧ TaskAt w' F tb p T' X ∧ Fr F w w' := by
 have hv0 := hv
 obtain ⟨⟨a0, m0, rfl, _⟩, ⟨a1, m1, rfl, _⟩, a2, m2, rfl, hfn⟩ := hv
 have hb0 := ((Below.refl w.heap.size w).alloc (Nat.le_refl _) (.cells #[.slice a0 pr.globals.length m0, .slice a1 pr.shapes.length m1, .slice a2 pr.funcs.length m2] 27))
 have hr0 := heap_new w (.cells #[.slice a0 pr.globals.length m0, .slice a1 pr.shapes.length m1, .slice a2 pr.funcs.length m2] 27)
 obtain ⟨W, hW⟩ : ∃ W, W = (w.alloc (.cells #[.slice a0 pr.globals.length m0, .slice a1 pr.shapes.length m1, .slice a2 pr.funcs.length m2] 27)) := ⟨_, rfl⟩
 rw [← hW] at hb0 hr0
 have hT := h.below hb0
 have hl : T.parts.length = P.length + 1 := by rw [hP]; simp
 have e0 : (T.parts[P.length]'(by omega)) = q := by simp only [hP]; simp
 have nx := tkNext_any W F tb p T X hT hml
 have dp := depth_any W F tb p T X hT
 rw [hm] at nx
 rw [hl] at dp
 have hd0 : ((((P.length + 1 : Nat) : Int)) == 0) = false := by rw [beq_eq_false_iff_ne]; omega
 have fnc := fun wr (hw : Below w.heap.size w wr) => fn_some wr F tb p T X (h.below hw) hn P.length hl
 have pcc := fun wr (hw : Below w.heap.size w wr) => pc_some wr F tb p T X (h.below hw) hn P.length hl
 rw [e0, hfj] at fnc
 rw [e0, hpc] at pcc
 obtain ⟨bb, o, rfl, hdb, y0, y1, y2, y3, y4, g0, g1, g2, g3, g4, hfv⟩ := hfn j hj
 obtain ⟨_, _, _, _, ac, cc, rfl, hcode⟩ := hfv
 obtain ⟨cb, co, rfl, hdc, x0, x1, x2, x3⟩ := hcode pc hpl
 rw [hi] at x0 x1 x2 x3
 have hcs : ∀ wx, Below W.heap.size W wx → wx.cell? ⟨w.heap.size, 0, none⟩ = some (.slice a0 pr.globals.length m0) ∧ wx.cell? ⟨w.heap.size, 1, none⟩ = some (.slice a1 pr.shapes.length m1) ∧ wx.cell? ⟨w.heap.size, 2, none⟩ = some (.slice (some ⟨bb, o, none⟩) pr.funcs.length m2) ∧ wx.cell? ⟨bb, o + j * 5 + 4, none⟩ = some (.slice (some ⟨cb, co, none⟩) pr.funcs[j].code.length cc) ∧ wx.cell? ⟨cb, co + pc * 4, none⟩ = some (.int .i64 14) ∧ wx.cell? ⟨cb, co + pc * 4 + 1, none⟩ = some (.int .i64 ia) ∧ wx.cell? ⟨cb, co + pc * 4 + 2, none⟩ = some (.int .i64 ib) ∧ wx.cell? ⟨cb, co + pc * 4 + 3, none⟩ = some (.int .i64 ic) := fun wx hw => by
  have hk := (Fr.of_below hw (fun _ => False)).heap hr0 (fun h => h)
  have hw2 := hb0.trans (hw.mono hb0.size)
  exact ⟨(row_cell hk 0).1, (row_cell hk 1).1, (row_cell hk 2).1, below_cell hw2 g4, below_cell hw2 x0, below_cell hw2 x1, below_cell hw2 x2, below_cell hw2 x3⟩
 have hj0 : (0 : Int) ≤ (j : Int) := by omega
 have hj1 : (j : Int) < (pr.funcs.length : Int) := by omega
 have hp0 : (0 : Int) ≤ (pc : Int) := by omega
 have hp1 : (pc : Int) < (pr.funcs[j].code.length : Int) := by omega
 have HFLT := Lib.hid h.flt
 have HW := Lib.hid hW
 have HBW := Lib.hid hb0
 obtain ⟨k0, k1, k2, _⟩ := hcs W (Below.refl _ _)
 clear hb0 hW hT hl e0 h hn hm hml hP hfj hpc hi hv0 hfn g0 g1 g2 g3 g4 x0 x1 x2 x3 hdb hdc hD hpl
 generalize pr.funcs[j].code.length = cl at *
 generalize ((P.length + 1 : Nat) : Int) = dn at *
 have FNC := Lib.hid fnc; clear fnc
 have PCC := Lib.hid pcc; clear pcc
 have SETX := Lib.hid SET; clear SET
 have NX := Lib.hid nx; clear nx
 have DP := Lib.hid dp; clear dp
 have HR0 := Lib.hid hr0; clear hr0
 have HCS := Lib.hid hcs; clear hcs
 unfold stepV at SETX
 go_enter Tryz.func35, Tryz.ntmps35
 go_upto_region 1 with fail
 rw [← HW.out]
 go_wp2_with fail
 refine DP.out.mono ?_
 rintro e w3 ⟨rfl, rfl⟩
 go_wp2_with fail
 refine NX.out.mono ?_
 rintro e w3 ⟨rfl, hb3⟩
 have HB3 := Lib.hid hb3
 have hSd := HCS.out _ hb3.drew
 clear hb3 k0 k1 k2
 obtain ⟨k0, k1, k2, _⟩ := HCS.out _ HB3.out
 go_upto_region 3 with fail
 go_cut [7] (fun x wx => ∃ z : Nat, x = .pointer (some ⟨z, 0, none⟩) ∧ wx.heap[z]? = some (.cells #[.int .i64 14, .int .i64 ia, .int .i64 ib, .int .i64 ic] 59) ∧ w3.heap.size ≤ z ∧ Below w3.heap.size w3 wx)
 case first =>
  clear k0 k1 k2
  have HCB := Lib.hid (fun wx (hx : Below w3.heap.size w3 wx) => HCS.out wx (HB3.out.trans (hx.mono HB3.out.size)))
  have hto := fun wx (hx : Below w3.heap.size w3 wx) => HBW.out.trans ((HB3.out.trans (hx.mono HB3.out.size)).mono HBW.out.size)
  have fnc := fun wx (hx : Below w3.heap.size w3 wx) => (FNC.out wx (hto wx hx)).mono (fun e w' he => (show e = .returned (.int .i64 j) ∧ Below wx.heap.size wx w' from ⟨he.1, by obtain ⟨m, hm⟩ := he.2; rw [hm]; exact below_drewN (Below.refl _ _) m⟩))
  have pcc := fun wx (hx : Below w3.heap.size w3 wx) => (PCC.out wx (hto wx hx)).mono (fun e w' he => (show e = .returned (.int .i64 pc) ∧ Below wx.heap.size wx w' from ⟨he.1, by obtain ⟨m, hm⟩ := he.2; rw [hm]; exact below_drewN (Below.refl _ _) m⟩))
  clear hto hSd
  have FNC := Lib.hid fnc; clear fnc
  have PCC := Lib.hid pcc; clear pcc
  refine wp_region_noPanic ?_
  refine wp_region_held_drew (S := fun w' => Below w3.heap.size w3 w') (by kernel_rfl) (Below.refl _ _).drew (fun _ => ?_)
  have HR1 := Lib.hid (Below.refl w3.heap.size w3).drew
  generalize w3.drew = r1 at *
  refine wpAnyH_take (i := 0) (v := ?_) rfl (by kernel_rfl) (by kernel_rfl) (by kernel_rfl) (fun _ _ _ h => h) (Or.inl ⟨by rfl, ?tq1⟩) HR1.out ?_
  case tq1 => (intro wq hq; obtain ⟨f0, f1, f2, f3, f4, f5, f6, f7⟩ := HCB.out wq hq; go_simp; first | done | with_reducible rfl)
  refine wpAnyH_take (i := 1) (v := ?_) rfl (by kernel_rfl) (by kernel_rfl) (by kernel_rfl) (fun _ _ _ h => h) (Or.inl ⟨by rfl, ?tq2⟩) HR1.out ?_
  case tq2 => (intro wq hq; obtain ⟨f0, f1, f2, f3, f4, f5, f6, f7⟩ := HCB.out wq hq; go_simp; first | done | with_reducible rfl)
  refine wpAnyH_take (i := 2) (v := ?_) rfl (by kernel_rfl) (by kernel_rfl) (by kernel_rfl) (fun _ _ _ h => h) (Or.inl ⟨by rfl, ?tq3⟩) HR1.out ?_
  case tq3 => (intro wq hq; obtain ⟨f0, f1, f2, f3, f4, f5, f6, f7⟩ := HCB.out wq hq; go_simp; first | done | with_reducible rfl)
  refine wpAnyH_take (i := 7) (v := ?_) rfl (by kernel_rfl) (by kernel_rfl) (by kernel_rfl) (fun _ _ _ h => h) (Or.inl ⟨by rfl, ?tq4⟩) HR1.out ?_
  case tq4 => (intro wq hq; obtain ⟨f0, f1, f2, f3, f4, f5, f6, f7⟩ := HCB.out wq hq; go_simp; first | done | with_reducible rfl)
  refine wpAnyH_ready (rs := [3, 11]) (by kernel_rfl) (by simp) ?_
  refine (AllReadyH.cons rfl (fun K hK => ?_) (AllReadyH.cons rfl (fun K hK => ?_) AllReadyH.nil))
  ·skip
   go_simp
   go_at_call 38
   refine (FNC.out r1 HR1.out).mono ?_
   rintro e r2 ⟨rfl, hb⟩
   have HR2 := Lib.hid (HR1.out.trans (hb.mono HR1.out.size))
   clear hb
   refine hK.out _ _ HR2.out (fun _ => ?_)
   clear hK K
   refine wpAnyH_take (i := 4) (v := ?_) rfl (by kernel_rfl) (by kernel_rfl) (by kernel_rfl) (fun _ _ _ h => h) (Or.inl ⟨by rfl, ?tq5⟩) HR2.out ?_
   case tq5 => (intro wq hq; obtain ⟨f0, f1, f2, f3, f4, f5, f6, f7⟩ := HCB.out wq hq; go_simp; first | done | with_reducible rfl)
   refine wpAnyH_take (i := 5) (v := ?_) rfl (by kernel_rfl) (by kernel_rfl) (by kernel_rfl) (fun _ _ _ h => h) (Or.inl ⟨by rfl, ?tq6⟩) HR2.out ?_
   case tq6 => (intro wq hq; obtain ⟨f0, f1, f2, f3, f4, f5, f6, f7⟩ := HCB.out wq hq; go_simp; first | done | with_reducible rfl)
   refine wpAnyH_take (i := 6) (v := ?_) rfl (by kernel_rfl) (by kernel_rfl) (by kernel_rfl) (fun _ _ _ h => h) (Or.inl ⟨by rfl, ?tq7⟩) HR2.out ?_
   case tq7 => (intro wq hq; obtain ⟨f0, f1, f2, f3, f4, f5, f6, f7⟩ := HCB.out wq hq; go_simp; first | done | with_reducible rfl)
   refine wpAnyH_ready (rs := [8, 11]) (by kernel_rfl) (by simp) ?_
   refine (AllReadyH.cons rfl (fun K hK => ?_) (AllReadyH.cons rfl (fun K hK => ?_) AllReadyH.nil))
   ·skip
    go_simp
    go_at_call 31
    refine (PCC.out r2 HR2.out).mono ?_
    rintro e r3 ⟨rfl, hb⟩
    have HR3 := Lib.hid (HR2.out.trans (hb.mono HR2.out.size))
    clear hb
    refine hK.out _ _ HR3.out (fun _ => ?_)
    clear hK K
    refine wpAnyH_take (i := 9) (v := ?_) rfl (by kernel_rfl) (by kernel_rfl) (by kernel_rfl) (fun _ _ _ h => h) (Or.inl ⟨by rfl, ?tq8⟩) HR3.out ?_
    case tq8 => (intro wq hq; obtain ⟨f0, f1, f2, f3, f4, f5, f6, f7⟩ := HCB.out wq hq; go_simp; first | done | with_reducible rfl)
    refine wpAnyH_take (i := 10) (v := ?_) rfl (by kernel_rfl) (by kernel_rfl) (by kernel_rfl) (fun _ _ _ h => h) (Or.inl ⟨by rfl, ?tq9⟩) HR3.out ?_
    case tq9 => (intro wq hq; obtain ⟨f0, f1, f2, f3, f4, f5, f6, f7⟩ := HCB.out wq hq; go_simp; first | done | with_reducible rfl)
    refine wpAnyH_ready (rs := [11]) (by kernel_rfl) (by simp) ?_
    refine (AllReadyH.cons rfl (fun K hK => ?_) AllReadyH.nil)
    ·skip
     go_simp
     obtain ⟨r4, hr⟩ : ∃ r, r = r3.alloc (.cells #[.int .i64 0, .int .i64 0, .int .i64 0, .int .i64 0] 59) := ⟨_, rfl⟩
     obtain ⟨y, hy⟩ : ∃ y, y = r3.heap.size := ⟨_, rfl⟩
     have hl : r4.heap[y]? = some (.cells #[.int .i64 0, .int .i64 0, .int .i64 0, .int .i64 0] 59) := by rw [hr, hy]; exact heap_new _ _
     have hb : Below r3.heap.size r3 r4 := by rw [hr]; exact (Below.refl _ _).alloc (Nat.le_refl _) _
     rw [← hr, ← hy]
     have hyW : w3.heap.size ≤ y := by have := HR3.out.size; omega
     have HR4 := Lib.hid (HR3.out.trans (hb.mono HR3.out.size))
     have HY := Lib.hid hl
     clear hl hb hr hy
     refine hK.out _ _ HR4.out (fun _ => ?_)
     clear hK K
     refine wpAnyH_ready (rs := [12]) (by kernel_rfl) (by simp) ?_
     refine (AllReadyH.cons rfl (fun K hK => ?_) AllReadyH.nil)
     have k0 := (row_cell HY.out 0).1
     have g0 := (row_cell HY.out 0).2
     have k1 := (row_cell HY.out 1).1
     have g1 := (row_cell HY.out 1).2
     have k2 := (row_cell HY.out 2).1
     have g2 := (row_cell HY.out 2).2
     have k3 := (row_cell HY.out 3).1
     have g3 := (row_cell HY.out 3).2
     simp only [List.getElem?_toArray, List.getElem?_cons_zero, List.getElem?_cons_succ] at k0 k1 k2 k3
     go_simp
     clear k0 k1 k2 k3 g0 g1 g2 g3
     have hl := (row_set (row_set (row_set (row_set HY.out 0 (.int .i64 14)) 1 (.int .i64 ia)) 2 (.int .i64 ib)) 3 (.int .i64 ic))
     simp only [List.setIfInBounds_toArray, List.set_cons_zero, List.set_cons_succ] at hl
     have hf : Fr (fun k => k = y) r4 _ := (((((Fr.refl (fun k => k = y) r4).setCell (p := ⟨y, 0, none⟩) (fun _ => rfl) (.int .i64 14)).setCell (p := ⟨y, 1, none⟩) (fun _ => rfl) (.int .i64 ia)).setCell (p := ⟨y, 2, none⟩) (fun _ => rfl) (.int .i64 ib)).setCell (p := ⟨y, 3, none⟩) (fun _ => rfl) (.int .i64 ic))
     generalize (((r4.setCell ⟨y, 0, none⟩ (.int .i64 14)).setCell ⟨y, 1, none⟩ (.int .i64 ia)).setCell ⟨y, 2, none⟩ (.int .i64 ib)).setCell ⟨y, 3, none⟩ (.int .i64 ic) = r5 at *
     have HR5 := Lib.hid (HR4.out.trans (hf.below HR4.out.size (fun k hk => by have e : k = y := hk; omega)))
     have HY := Lib.hid hl
     clear hl hf
     refine hK.out _ _ HR5.out (fun _ => ?_)
     clear hK K
     refine wpAnyH_done (by kernel_rfl) ?_ _
     refine NoPanic.normal ?_
     go_wp2_with fail
     go_meet
     case rel => exact ⟨y, rfl, HY.out, hyW, HR5.out⟩
   ·skip
    go_simp
    obtain ⟨r3, hr⟩ : ∃ r, r = r2.alloc (.cells #[.int .i64 0, .int .i64 0, .int .i64 0, .int .i64 0] 59) := ⟨_, rfl⟩
    obtain ⟨y, hy⟩ : ∃ y, y = r2.heap.size := ⟨_, rfl⟩
    have hl : r3.heap[y]? = some (.cells #[.int .i64 0, .int .i64 0, .int .i64 0, .int .i64 0] 59) := by rw [hr, hy]; exact heap_new _ _
    have hb : Below r2.heap.size r2 r3 := by rw [hr]; exact (Below.refl _ _).alloc (Nat.le_refl _) _
    rw [← hr, ← hy]
    have hyW : w3.heap.size ≤ y := by have := HR2.out.size; omega
    have HR3 := Lib.hid (HR2.out.trans (hb.mono HR2.out.size))
    have HY := Lib.hid hl
    clear hl hb hr hy
    refine hK.out _ _ HR3.out (fun _ => ?_)
    clear hK K
    refine wpAnyH_ready (rs := [8]) (by kernel_rfl) (by simp) ?_
    refine (AllReadyH.cons rfl (fun K hK => ?_) AllReadyH.nil)
    ·skip
     go_simp
     go_at_call 31
     refine (PCC.out r3 HR3.out).mono ?_
     rintro e r4 ⟨rfl, hb⟩
     have HR4 := Lib.hid (HR3.out.trans (hb.mono HR3.out.size))
     have HY := Lib.hid ((Fr.of_below hb (fun _ => False)).heap HY.out (fun h => h))
     clear hb
     refine hK.out _ _ HR4.out (fun _ => ?_)
     clear hK K
     refine wpAnyH_take (i := 9) (v := ?_) rfl (by kernel_rfl) (by kernel_rfl) (by kernel_rfl) (fun _ _ _ h => h) (Or.inl ⟨by rfl, ?tq10⟩) HR4.out ?_
     case tq10 => (intro wq hq; obtain ⟨f0, f1, f2, f3, f4, f5, f6, f7⟩ := HCB.out wq hq; go_simp; first | done | with_reducible rfl)
     refine wpAnyH_take (i := 10) (v := ?_) rfl (by kernel_rfl) (by kernel_rfl) (by kernel_rfl) (fun _ _ _ h => h) (Or.inl ⟨by rfl, ?tq11⟩) HR4.out ?_
     case tq11 => (intro wq hq; obtain ⟨f0, f1, f2, f3, f4, f5, f6, f7⟩ := HCB.out wq hq; go_simp; first | done | with_reducible rfl)
     refine wpAnyH_ready (rs := [12]) (by kernel_rfl) (by simp) ?_
     refine (AllReadyH.cons rfl (fun K hK => ?_) AllReadyH.nil)
     have k0 := (row_cell HY.out 0).1
     have g0 := (row_cell HY.out 0).2
     have k1 := (row_cell HY.out 1).1
     have g1 := (row_cell HY.out 1).2
     have k2 := (row_cell HY.out 2).1
     have g2 := (row_cell HY.out 2).2
     have k3 := (row_cell HY.out 3).1
     have g3 := (row_cell HY.out 3).2
     simp only [List.getElem?_toArray, List.getElem?_cons_zero, List.getElem?_cons_succ] at k0 k1 k2 k3
     go_simp
     clear k0 k1 k2 k3 g0 g1 g2 g3
     have hl := (row_set (row_set (row_set (row_set HY.out 0 (.int .i64 14)) 1 (.int .i64 ia)) 2 (.int .i64 ib)) 3 (.int .i64 ic))
     simp only [List.setIfInBounds_toArray, List.set_cons_zero, List.set_cons_succ] at hl
     have hf : Fr (fun k => k = y) r4 _ := (((((Fr.refl (fun k => k = y) r4).setCell (p := ⟨y, 0, none⟩) (fun _ => rfl) (.int .i64 14)).setCell (p := ⟨y, 1, none⟩) (fun _ => rfl) (.int .i64 ia)).setCell (p := ⟨y, 2, none⟩) (fun _ => rfl) (.int .i64 ib)).setCell (p := ⟨y, 3, none⟩) (fun _ => rfl) (.int .i64 ic))
     generalize (((r4.setCell ⟨y, 0, none⟩ (.int .i64 14)).setCell ⟨y, 1, none⟩ (.int .i64 ia)).setCell ⟨y, 2, none⟩ (.int .i64 ib)).setCell ⟨y, 3, none⟩ (.int .i64 ic) = r5 at *
     have HR5 := Lib.hid (HR4.out.trans (hf.below HR4.out.size (fun k hk => by have e : k = y := hk; omega)))
     have HY := Lib.hid hl
     clear hl hf
     refine hK.out _ _ HR5.out (fun _ => ?_)
     clear hK K
     refine wpAnyH_done (by kernel_rfl) ?_ _
     refine NoPanic.normal ?_
     go_wp2_with fail
     go_meet
     case rel => exact ⟨y, rfl, HY.out, hyW, HR5.out⟩
  ·skip
   go_simp
   obtain ⟨r2, hr⟩ : ∃ r, r = r1.alloc (.cells #[.int .i64 0, .int .i64 0, .int .i64 0, .int .i64 0] 59) := ⟨_, rfl⟩
   obtain ⟨y, hy⟩ : ∃ y, y = r1.heap.size := ⟨_, rfl⟩
   have hl : r2.heap[y]? = some (.cells #[.int .i64 0, .int .i64 0, .int .i64 0, .int .i64 0] 59) := by rw [hr, hy]; exact heap_new _ _
   have hb : Below r1.heap.size r1 r2 := by rw [hr]; exact (Below.refl _ _).alloc (Nat.le_refl _) _
   rw [← hr, ← hy]
   have hyW : w3.heap.size ≤ y := by have := HR1.out.size; omega
   have HR2 := Lib.hid (HR1.out.trans (hb.mono HR1.out.size))
   have HY := Lib.hid hl
   clear hl hb hr hy
   refine hK.out _ _ HR2.out (fun _ => ?_)
   clear hK K
   refine wpAnyH_ready (rs := [3]) (by kernel_rfl) (by simp) ?_
   refine (AllReadyH.cons rfl (fun K hK => ?_) AllReadyH.nil)
   ·skip
    go_simp
    go_at_call 38
    refine (FNC.out r2 HR2.out).mono ?_
    rintro e r3 ⟨rfl, hb⟩
    have HR3 := Lib.hid (HR2.out.trans (hb.mono HR2.out.size))
    have HY := Lib.hid ((Fr.of_below hb (fun _ => False)).heap HY.out (fun h => h))
    clear hb
    refine hK.out _ _ HR3.out (fun _ => ?_)
    clear hK K
    refine wpAnyH_take (i := 4) (v := ?_) rfl (by kernel_rfl) (by kernel_rfl) (by kernel_rfl) (fun _ _ _ h => h) (Or.inl ⟨by rfl, ?tq12⟩) HR3.out ?_
    case tq12 => (intro wq hq; obtain ⟨f0, f1, f2, f3, f4, f5, f6, f7⟩ := HCB.out wq hq; go_simp; first | done | with_reducible rfl)
    refine wpAnyH_take (i := 5) (v := ?_) rfl (by kernel_rfl) (by kernel_rfl) (by kernel_rfl) (fun _ _ _ h => h) (Or.inl ⟨by rfl, ?tq13⟩) HR3.out ?_
    case tq13 => (intro wq hq; obtain ⟨f0, f1, f2, f3, f4, f5, f6, f7⟩ := HCB.out wq hq; go_simp; first | done | with_reducible rfl)
    refine wpAnyH_take (i := 6) (v := ?_) rfl (by kernel_rfl) (by kernel_rfl) (by kernel_rfl) (fun _ _ _ h => h) (Or.inl ⟨by rfl, ?tq14⟩) HR3.out ?_
    case tq14 => (intro wq hq; obtain ⟨f0, f1, f2, f3, f4, f5, f6, f7⟩ := HCB.out wq hq; go_simp; first | done | with_reducible rfl)
    refine wpAnyH_ready (rs := [8]) (by kernel_rfl) (by simp) ?_
    refine (AllReadyH.cons rfl (fun K hK => ?_) AllReadyH.nil)
    ·skip
     go_simp
     go_at_call 31
     refine (PCC.out r3 HR3.out).mono ?_
     rintro e r4 ⟨rfl, hb⟩
     have HR4 := Lib.hid (HR3.out.trans (hb.mono HR3.out.size))
     have HY := Lib.hid ((Fr.of_below hb (fun _ => False)).heap HY.out (fun h => h))
     clear hb
     refine hK.out _ _ HR4.out (fun _ => ?_)
     clear hK K
     refine wpAnyH_take (i := 9) (v := ?_) rfl (by kernel_rfl) (by kernel_rfl) (by kernel_rfl) (fun _ _ _ h => h) (Or.inl ⟨by rfl, ?tq15⟩) HR4.out ?_
     case tq15 => (intro wq hq; obtain ⟨f0, f1, f2, f3, f4, f5, f6, f7⟩ := HCB.out wq hq; go_simp; first | done | with_reducible rfl)
     refine wpAnyH_take (i := 10) (v := ?_) rfl (by kernel_rfl) (by kernel_rfl) (by kernel_rfl) (fun _ _ _ h => h) (Or.inl ⟨by rfl, ?tq16⟩) HR4.out ?_
     case tq16 => (intro wq hq; obtain ⟨f0, f1, f2, f3, f4, f5, f6, f7⟩ := HCB.out wq hq; go_simp; first | done | with_reducible rfl)
     refine wpAnyH_ready (rs := [12]) (by kernel_rfl) (by simp) ?_
     refine (AllReadyH.cons rfl (fun K hK => ?_) AllReadyH.nil)
     have k0 := (row_cell HY.out 0).1
     have g0 := (row_cell HY.out 0).2
     have k1 := (row_cell HY.out 1).1
     have g1 := (row_cell HY.out 1).2
     have k2 := (row_cell HY.out 2).1
     have g2 := (row_cell HY.out 2).2
     have k3 := (row_cell HY.out 3).1
     have g3 := (row_cell HY.out 3).2
     simp only [List.getElem?_toArray, List.getElem?_cons_zero, List.getElem?_cons_succ] at k0 k1 k2 k3
     go_simp
     clear k0 k1 k2 k3 g0 g1 g2 g3
     have hl := (row_set (row_set (row_set (row_set HY.out 0 (.int .i64 14)) 1 (.int .i64 ia)) 2 (.int .i64 ib)) 3 (.int .i64 ic))
     simp only [List.setIfInBounds_toArray, List.set_cons_zero, List.set_cons_succ] at hl
     have hf : Fr (fun k => k = y) r4 _ := (((((Fr.refl (fun k => k = y) r4).setCell (p := ⟨y, 0, none⟩) (fun _ => rfl) (.int .i64 14)).setCell (p := ⟨y, 1, none⟩) (fun _ => rfl) (.int .i64 ia)).setCell (p := ⟨y, 2, none⟩) (fun _ => rfl) (.int .i64 ib)).setCell (p := ⟨y, 3, none⟩) (fun _ => rfl) (.int .i64 ic))
     generalize (((r4.setCell ⟨y, 0, none⟩ (.int .i64 14)).setCell ⟨y, 1, none⟩ (.int .i64 ia)).setCell ⟨y, 2, none⟩ (.int .i64 ib)).setCell ⟨y, 3, none⟩ (.int .i64 ic) = r5 at *
     have HR5 := Lib.hid (HR4.out.trans (hf.below HR4.out.size (fun k hk => by have e : k = y := hk; omega)))
     have HY := Lib.hid hl
     clear hl hf
     refine hK.out _ _ HR5.out (fun _ => ?_)
     clear hK K
     refine wpAnyH_done (by kernel_rfl) ?_ _
     refine NoPanic.normal ?_
     go_wp2_with fail
     go_meet
     case rel => exact ⟨y, rfl, HY.out, hyW, HR5.out⟩
 case rest =>
  obtain ⟨z, rfl, hz, hzl, hR⟩ := hcut
  have hbc := HB3.out.trans (hR.mono HB3.out.size)
  obtain ⟨k0, k1, k2, _⟩ := HCS.out _ hbc
  have z0 : wc.cell? ⟨z, 0, none⟩ = some (.int .i64 14) := (row_cell hz 0).1
  have z1 : wc.cell? ⟨z, 1, none⟩ = some (.int .i64 ia) := (row_cell hz 1).1
  have z2 : wc.cell? ⟨z, 2, none⟩ = some (.int .i64 ib) := (row_cell hz 2).1
  have z3 : wc.cell? ⟨z, 3, none⟩ = some (.int .i64 ic) := (row_cell hz 3).1
  have ha := (Below.refl wc.heap.size wc).alloc (Nat.le_refl _) (.cells #[.slice a0 pr.globals.length m0, .slice a1 pr.shapes.length m1, .slice (some ⟨bb, o, none⟩) pr.funcs.length m2, .pointer none, .pointer (some ⟨tb, 0, none⟩), .int .i64 14, .int .i64 ia, .int .i64 ib, .int .i64 ic] 124)
  have hra := heap_new wc (.cells #[.slice a0 pr.globals.length m0, .slice a1 pr.shapes.length m1, .slice (some ⟨bb, o, none⟩) pr.funcs.length m2, .pointer none, .pointer (some ⟨tb, 0, none⟩), .int .i64 14, .int .i64 ia, .int .i64 ib, .int .i64 ic] 124)
  obtain ⟨V, hV⟩ : ∃ V, V = wc.alloc (.cells #[.slice a0 pr.globals.length m0, .slice a1 pr.shapes.length m1, .slice (some ⟨bb, o, none⟩) pr.funcs.length m2, .pointer none, .pointer (some ⟨tb, 0, none⟩), .int .i64 14, .int .i64 ia, .int .i64 ib, .int .i64 ic] 124) := ⟨_, rfl⟩
  obtain ⟨y, hy⟩ : ∃ y, y = wc.heap.size := ⟨_, rfl⟩
  rw [← hV] at ha hra
  rw [← hy] at hra
  have hz' := (Fr.of_below ha (fun _ => False)).heap hz (fun h => h)
  have HVB := Lib.hid (hbc.trans (ha.mono hbc.size))
  have HV := Lib.hid hV
  have HY := Lib.hid hy
  have HZ := Lib.hid hz'
  have HRA := Lib.hid hra
  clear hz hR hbc hV hy hz' hra ha hzl hSd
  go_upto_region 5 with fail
  rw [← HV.out, ← HY.out]
  clear z0 z1 z2 z3 k0 k1 k2
  have z0 : V.cell? ⟨z, 0, none⟩ = some (.int .i64 14) := (row_cell HZ.out 0).1
  have z1 : V.cell? ⟨z, 1, none⟩ = some (.int .i64 ia) := (row_cell HZ.out 1).1
  have y0 : V.cell? ⟨y, 0, none⟩ = some (.slice a0 pr.globals.length m0) := (row_cell HRA.out 0).1
  have y1 : V.cell? ⟨y, 1, none⟩ = some (.slice a1 pr.shapes.length m1) := (row_cell HRA.out 1).1
  have y2 : V.cell? ⟨y, 2, none⟩ = some (.slice (some ⟨bb, o, none⟩) pr.funcs.length m2) := (row_cell HRA.out 2).1
  have y3 : V.cell? ⟨y, 3, none⟩ = some (.pointer none) := (row_cell HRA.out 3).1
  have y4 : V.cell? ⟨y, 4, none⟩ = some (.pointer (some ⟨tb, 0, none⟩)) := (row_cell HRA.out 4).1
  have y5 : V.cell? ⟨y, 5, none⟩ = some (.int .i64 14) := (row_cell HRA.out 5).1
  have y6 : V.cell? ⟨y, 6, none⟩ = some (.int .i64 ia) := (row_cell HRA.out 6).1
  have y7 : V.cell? ⟨y, 7, none⟩ = some (.int .i64 ib) := (row_cell HRA.out 7).1
  have y8 : V.cell? ⟨y, 8, none⟩ = some (.int .i64 ic) := (row_cell HRA.out 8).1
  have hbV := HBW.out.trans (HVB.out.mono HBW.out.size)
  have HBV := Lib.hid hbV
  clear hbV
  go_wp2_with fail
  refine (SETX.out V HBV.out).mono ?_
  rintro e w9 ⟨rfl, hT9, hf9⟩
  have hf := (Fr.of_below HBV.out F).trans hf9 (fun _ _ h => h)
  clear z0 z1 y0 y1 y2 y3 y4 y5 y6 y7 y8 hf9
  have HT9 := Lib.hid hT9; clear hT9
  have HF := Lib.hid hf; clear hf
  go_wp2_with fail
  go_ret
  exact ⟨rfl, HT9.out, HF.out⟩
set_option maxRecDepth 100000 in
set_option maxHeartbeats 3200000 in
theorem give_16 (w : World) (F : Nat → Prop) (tb : Nat) (p : TPrg) (T : Tk) (X : TB) (h : TaskAt w F tb p T X) (hn : T.parts.length ≤ 1000) (hm : nextN T.marks = 0) (hml : T.marks.length ≤ 10000) (P : List Part) (q : Part) (hP : T.parts = P ++ [q])
  (D : Nat → Prop) (hD : ∀ k, D k → ¬ F k ∧ k < w.heap.size) (pr : Prg) (c0 c1 c2 : Value) (hv : PrgVal w D pr c0 c1 c2) (j : Nat) (hj : j < pr.funcs.length) (hfj : q.fn = j) (pc : Nat) (hpc : q.pc = pc) (hpl : pc < pr.funcs[j].code.length) (ia ib ic : Int) (hi : pr.funcs[j].code[pc] = ⟨16, ia, ib, ic⟩)
  (T' : Tk) (v : Int) (SET : ∀ wr, Below w.heap.size w wr → Calls Tryz.prog 70 #[.agg (stepV c0 c1 c2 (.pointer none) tb 16 ia ib ic), .int .i64 ia, .int .i64 v] wr fun e w' => e = .returned (actV 0 0 0 0 0 false (.slice none 0 0)) ∧ TaskAt w' F tb p T' X ∧ Fr F wr w') :
  Calls Tryz.prog 35 #[.agg #[c0, c1, c2], .pointer (some ⟨tb, 0, none⟩), .int .i64 v] w fun e w' => e = .returned (.bool true) ∧ TaskAt w' F tb p T' X ∧ Fr F w w' := by
 have hv0 := hv
 obtain ⟨⟨a0, m0, rfl, _⟩, ⟨a1, m1, rfl, _⟩, a2, m2, rfl, hfn⟩ := hv
 have hb0 := ((Below.refl w.heap.size w).alloc (Nat.le_refl _) (.cells #[.slice a0 pr.globals.length m0, .slice a1 pr.shapes.length m1, .slice a2 pr.funcs.length m2] 27))
 have hr0 := heap_new w (.cells #[.slice a0 pr.globals.length m0, .slice a1 pr.shapes.length m1, .slice a2 pr.funcs.length m2] 27)
 obtain ⟨W, hW⟩ : ∃ W, W = (w.alloc (.cells #[.slice a0 pr.globals.length m0, .slice a1 pr.shapes.length m1, .slice a2 pr.funcs.length m2] 27)) := ⟨_, rfl⟩
 rw [← hW] at hb0 hr0
 have hT := h.below hb0
 have hl : T.parts.length = P.length + 1 := by rw [hP]; simp
 have e0 : (T.parts[P.length]'(by omega)) = q := by simp only [hP]; simp
 have nx := tkNext_any W F tb p T X hT hml
 have dp := depth_any W F tb p T X hT
 rw [hm] at nx
 rw [hl] at dp
 have hd0 : ((((P.length + 1 : Nat) : Int)) == 0) = false := by rw [beq_eq_false_iff_ne]; omega
 have fnc := fun wr (hw : Below w.heap.size w wr) => fn_some wr F tb p T X (h.below hw) hn P.length hl
 have pcc := fun wr (hw : Below w.heap.size w wr) => pc_some wr F tb p T X (h.below hw) hn P.length hl
 rw [e0, hfj] at fnc
 rw [e0, hpc] at pcc
 obtain ⟨bb, o, rfl, hdb, y0, y1, y2, y3, y4, g0, g1, g2, g3, g4, hfv⟩ := hfn j hj
 obtain ⟨_, _, _, _, ac, cc, rfl, hcode⟩ := hfv
 obtain ⟨cb, co, rfl, hdc, x0, x1, x2, x3⟩ := hcode pc hpl
 rw [hi] at x0 x1 x2 x3
 have hcs : ∀ wx, Below W.heap.size W wx → wx.cell? ⟨w.heap.size, 0, none⟩ = some (.slice a0 pr.globals.length m0) ∧ wx.cell? ⟨w.heap.size, 1, none⟩ = some (.slice a1 pr.shapes.length m1) ∧ wx.cell? ⟨w.heap.size, 2, none⟩ = some (.slice (some ⟨bb, o, none⟩) pr.funcs.length m2) ∧ wx.cell? ⟨bb, o + j * 5 + 4, none⟩ = some (.slice (some ⟨cb, co, none⟩) pr.funcs[j].code.length cc) ∧ wx.cell? ⟨cb, co + pc * 4, none⟩ = some (.int .i64 16) ∧ wx.cell? ⟨cb, co + pc * 4 + 1, none⟩ = some (.int .i64 ia) ∧ wx.cell? ⟨cb, co + pc * 4 + 2, none⟩ = some (.int .i64 ib) ∧ wx.cell? ⟨cb, co + pc * 4 + 3, none⟩ = some (.int .i64 ic) := fun wx hw => by
  have hk := (Fr.of_below hw (fun _ => False)).heap hr0 (fun h => h)
  have hw2 := hb0.trans (hw.mono hb0.size)
  exact ⟨(row_cell hk 0).1, (row_cell hk 1).1, (row_cell hk 2).1, below_cell hw2 g4, below_cell hw2 x0, below_cell hw2 x1, below_cell hw2 x2, below_cell hw2 x3⟩
 have hj0 : (0 : Int) ≤ (j : Int) := by omega
 have hj1 : (j : Int) < (pr.funcs.length : Int) := by omega
 have hp0 : (0 : Int) ≤ (pc : Int) := by omega
 have hp1 : (pc : Int) < (pr.funcs[j].code.length : Int) := by omega
 have HFLT := Lib.hid h.flt
 have HW := Lib.hid hW
 have HBW := Lib.hid hb0
 obtain ⟨k0, k1, k2, _⟩ := hcs W (Below.refl _ _)
 clear hb0 hW hT hl e0 h hn hm hml hP hfj hpc hi hv0 hfn g0 g1 g2 g3 g4 x0 x1 x2 x3 hdb hdc hD hpl
 generalize pr.funcs[j].code.length = cl at *
 generalize ((P.length + 1 : Nat) : Int) = dn at *
 have FNC := Lib.hid fnc; clear fnc
 have PCC := Lib.hid pcc; clear pcc
 have SETX := Lib.hid SET; clear SET
 have NX := Lib.hid nx; clear nx
 have DP := Lib.hid dp; clear dp
 have HR0 := Lib.hid hr0; clear hr0
 have HCS := Lib.hid hcs; clear hcs
 unfold stepV at SETX
 go_enter Tryz.func35, Tryz.ntmps35
 go_upto_region 1 with fail
 rw [← HW.out]
 go_wp2_with fail
 refine DP.out.mono ?_
 rintro e w3 ⟨rfl, rfl⟩
 go_wp2_with fail
 refine NX.out.mono ?_
 rintro e w3 ⟨rfl, hb3⟩
 have HB3 := Lib.hid hb3
 have hSd := HCS.out _ hb3.drew
 clear hb3 k0 k1 k2
 obtain ⟨k0, k1, k2, _⟩ := HCS.out _ HB3.out
 go_upto_region 3 with fail
 go_cut [7] (fun x wx => ∃ z : Nat, x = .pointer (some ⟨z, 0, none⟩) ∧ wx.heap[z]? = some (.cells #[.int .i64 16, .int .i64 ia, .int .i64 ib, .int .i64 ic] 59) ∧ w3.heap.size ≤ z ∧ Below w3.heap.size w3 wx)
 case first =>
  clear k0 k1 k2
  have HCB := Lib.hid (fun wx (hx : Below w3.heap.size w3 wx) => HCS.out wx (HB3.out.trans (hx.mono HB3.out.size)))
  have hto := fun wx (hx : Below w3.heap.size w3 wx) => HBW.out.trans ((HB3.out.trans (hx.mono HB3.out.size)).mono HBW.out.size)
  have fnc := fun wx (hx : Below w3.heap.size w3 wx) => (FNC.out wx (hto wx hx)).mono (fun e w' he => (show e = .returned (.int .i64 j) ∧ Below wx.heap.size wx w' from ⟨he.1, by obtain ⟨m, hm⟩ := he.2; rw [hm]; exact below_drewN (Below.refl _ _) m⟩))
  have pcc := fun wx (hx : Below w3.heap.size w3 wx) => (PCC.out wx (hto wx hx)).mono (fun e w' he => (show e = .returned (.int .i64 pc) ∧ Below wx.heap.size wx w' from ⟨he.1, by obtain ⟨m, hm⟩ := he.2; rw [hm]; exact below_drewN (Below.refl _ _) m⟩))
  clear hto hSd
  have FNC := Lib.hid fnc; clear fnc
  have PCC := Lib.hid pcc; clear pcc
  refine wp_region_noPanic ?_
  refine wp_region_held_drew (S := fun w' => Below w3.heap.size w3 w') (by kernel_rfl) (Below.refl _ _).drew (fun _ => ?_)
  have HR1 := Lib.hid (Below.refl w3.heap.size w3).drew
  generalize w3.drew = r1 at *
  refine wpAnyH_take (i := 0) (v := ?_) rfl (by kernel_rfl) (by kernel_rfl) (by kernel_rfl) (fun _ _ _ h => h) (Or.inl ⟨by rfl, ?tq1⟩) HR1.out ?_
  case tq1 => (intro wq hq; obtain ⟨f0, f1, f2, f3, f4, f5, f6, f7⟩ := HCB.out wq hq; go_simp; first | done | with_reducible rfl)
  refine wpAnyH_take (i := 1) (v := ?_) rfl (by kernel_rfl) (by kernel_rfl) (by kernel_rfl) (fun _ _ _ h => h) (Or.inl ⟨by rfl, ?tq2⟩) HR1.out ?_
  case tq2 => (intro wq hq; obtain ⟨f0, f1, f2, f3, f4, f5, f6, f7⟩ := HCB.out wq hq; go_simp; first | done | with_reducible rfl)
  refine wpAnyH_take (i := 2) (v := ?_) rfl (by kernel_rfl) (by kernel_rfl) (by kernel_rfl) (fun _ _ _ h => h) (Or.inl ⟨by rfl, ?tq3⟩) HR1.out ?_
  case tq3 => (intro wq hq; obtain ⟨f0, f1, f2, f3, f4, f5, f6, f7⟩ := HCB.out wq hq; go_simp; first | done | with_reducible rfl)
  refine wpAnyH_take (i := 7) (v := ?_) rfl (by kernel_rfl) (by kernel_rfl) (by kernel_rfl) (fun _ _ _ h => h) (Or.inl ⟨by rfl, ?tq4⟩) HR1.out ?_
  case tq4 => (intro wq hq; obtain ⟨f0, f1, f2, f3, f4, f5, f6, f7⟩ := HCB.out wq hq; go_simp; first | done | with_reducible rfl)
  refine wpAnyH_ready (rs := [3, 11]) (by kernel_rfl) (by simp) ?_
  refine (AllReadyH.cons rfl (fun K hK => ?_) (AllReadyH.cons rfl (fun K hK => ?_) AllReadyH.nil))
  ·skip
   go_simp
   go_at_call 38
   refine (FNC.out r1 HR1.out).mono ?_
   rintro e r2 ⟨rfl, hb⟩
   have HR2 := Lib.hid (HR1.out.trans (hb.mono HR1.out.size))
   clear hb
   refine hK.out _ _ HR2.out (fun _ => ?_)
   clear hK K
   refine wpAnyH_take (i := 4) (v := ?_) rfl (by kernel_rfl) (by kernel_rfl) (by kernel_rfl) (fun _ _ _ h => h) (Or.inl ⟨by rfl, ?tq5⟩) HR2.out ?_
   case tq5 => (intro wq hq; obtain ⟨f0, f1, f2, f3, f4, f5, f6, f7⟩ := HCB.out wq hq; go_simp; first | done | with_reducible rfl)
   refine wpAnyH_take (i := 5) (v := ?_) rfl (by kernel_rfl) (by kernel_rfl) (by kernel_rfl) (fun _ _ _ h => h) (Or.inl ⟨by rfl, ?tq6⟩) HR2.out ?_
   case tq6 => (intro wq hq; obtain ⟨f0, f1, f2, f3, f4, f5, f6, f7⟩ := HCB.out wq hq; go_simp; first | done | with_reducible rfl)
   refine wpAnyH_take (i := 6) (v := ?_) rfl (by kernel_rfl) (by kernel_rfl) (by kernel_rfl) (fun _ _ _ h => h) (Or.inl ⟨by rfl, ?tq7⟩) HR2.out ?_
   case tq7 => (intro wq hq; obtain ⟨f0, f1, f2, f3, f4, f5, f6, f7⟩ := HCB.out wq hq; go_simp; first | done | with_reducible rfl)
   refine wpAnyH_ready (rs := [8, 11]) (by kernel_rfl) (by simp) ?_
   refine (AllReadyH.cons rfl (fun K hK => ?_) (AllReadyH.cons rfl (fun K hK => ?_) AllReadyH.nil))
   ·skip
    go_simp
    go_at_call 31
    refine (PCC.out r2 HR2.out).mono ?_
    rintro e r3 ⟨rfl, hb⟩
    have HR3 := Lib.hid (HR2.out.trans (hb.mono HR2.out.size))
    clear hb
    refine hK.out _ _ HR3.out (fun _ => ?_)
    clear hK K
    refine wpAnyH_take (i := 9) (v := ?_) rfl (by kernel_rfl) (by kernel_rfl) (by kernel_rfl) (fun _ _ _ h => h) (Or.inl ⟨by rfl, ?tq8⟩) HR3.out ?_
    case tq8 => (intro wq hq; obtain ⟨f0, f1, f2, f3, f4, f5, f6, f7⟩ := HCB.out wq hq; go_simp; first | done | with_reducible rfl)
    refine wpAnyH_take (i := 10) (v := ?_) rfl (by kernel_rfl) (by kernel_rfl) (by kernel_rfl) (fun _ _ _ h => h) (Or.inl ⟨by rfl, ?tq9⟩) HR3.out ?_
    case tq9 => (intro wq hq; obtain ⟨f0, f1, f2, f3, f4, f5, f6, f7⟩ := HCB.out wq hq; go_simp; first | done | with_reducible rfl)
    refine wpAnyH_ready (rs := [11]) (by kernel_rfl) (by simp) ?_
    refine (AllReadyH.cons rfl (fun K hK => ?_) AllReadyH.nil)
    ·skip
     go_simp
     obtain ⟨r4, hr⟩ : ∃ r, r = r3.alloc (.cells #[.int .i64 0, .int .i64 0, .int .i64 0, .int .i64 0] 59) := ⟨_, rfl⟩
     obtain ⟨y, hy⟩ : ∃ y, y = r3.heap.size := ⟨_, rfl⟩
     have hl : r4.heap[y]? = some (.cells #[.int .i64 0, .int .i64 0, .int .i64 0, .int .i64 0] 59) := by rw [hr, hy]; exact heap_new _ _
     have hb : Below r3.heap.size r3 r4 := by rw [hr]; exact (Below.refl _ _).alloc (Nat.le_refl _) _
     rw [← hr, ← hy]
     have hyW : w3.heap.size ≤ y := by have := HR3.out.size; omega
     have HR4 := Lib.hid (HR3.out.trans (hb.mono HR3.out.size))
     have HY := Lib.hid hl
     clear hl hb hr hy
     refine hK.out _ _ HR4.out (fun _ => ?_)
     clear hK K
     refine wpAnyH_ready (rs := [12]) (by kernel_rfl) (by simp) ?_
     refine (AllReadyH.cons rfl (fun K hK => ?_) AllReadyH.nil)
     have k0 := (row_cell HY.out 0).1
     have g0 := (row_cell HY.out 0).2
     have k1 := (row_cell HY.out 1).1
     have g1 := (row_cell HY.out 1).2
     have k2 := (row_cell HY.out 2).1
     have g2 := (row_cell HY.out 2).2
     have k3 := (row_cell HY.out 3).1
     have g3 := (row_cell HY.out 3).2
     simp only [List.getElem?_toArray, List.getElem?_cons_zero, List.getElem?_cons_succ] at k0 k1 k2 k3
     go_simp
     clear k0 k1 k2 k3 g0 g1 g2 g3
     have hl := (row_set (row_set (row_set (row_set HY.out 0 (.int .i64 16)) 1 (.int .i64 ia)) 2 (.int .i64 ib)) 3 (.int .i64 ic))
     simp only [List.setIfInBounds_toArray, List.set_cons_zero, List.set_cons_succ] at hl
     have hf : Fr (fun k => k = y) r4 _ := (((((Fr.refl (fun k => k = y) r4).setCell (p := ⟨y, 0, none⟩) (fun _ => rfl) (.int .i64 16)).setCell (p := ⟨y, 1, none⟩) (fun _ => rfl) (.int .i64 ia)).setCell (p := ⟨y, 2, none⟩) (fun _ => rfl) (.int .i64 ib)).setCell (p := ⟨y, 3, none⟩) (fun _ => rfl) (.int .i64 ic))
     generalize (((r4.setCell ⟨y, 0, none⟩ (.int .i64 16)).setCell ⟨y, 1, none⟩ (.int .i64 ia)).setCell ⟨y, 2, none⟩ (.int .i64 ib)).setCell ⟨y, 3, none⟩ (.int .i64 ic) = r5 at *
     have HR5 := Lib.hid (HR4.out.trans (hf.below HR4.out.size (fun k hk => by have e : k = y := hk; omega)))
     have HY := Lib.hid hl
     clear hl hf
     refine hK.out _ _ HR5.out (fun _ => ?_)
     clear hK K
     refine wpAnyH_done (by kernel_rfl) ?_ _
     refine NoPanic.normal ?_
     go_wp2_with fail
     go_meet
     case rel => exact ⟨y, rfl, HY.out, hyW, HR5.out⟩
   ·skip
    go_simp
    obtain ⟨r3, hr⟩ : ∃ r, r = r2.alloc (.cells #[.int .i64 0, .int .i64 0, .int .i64 0, .int .i64 0] 59) := ⟨_, rfl⟩
    obtain ⟨y, hy⟩ : ∃ y, y = r2.heap.size := ⟨_, rfl⟩
    have hl : r3.heap[y]? = some (.cells #[.int .i64 0, .int .i64 0, .int .i64 0, .int .i64 0] 59) := by rw [hr, hy]; exact heap_new _ _
    have hb : Below r2.heap.size r2 r3 := by rw [hr]; exact (Below.refl _ _).alloc (Nat.le_refl _) _
    rw [← hr, ← hy]
    have hyW : w3.heap.size ≤ y := by have := HR2.out.size; omega
    have HR3 := Lib.hid (HR2.out.trans (hb.mono HR2.out.size))
    have HY := Lib.hid hl
    clear hl hb hr hy
    refine hK.out _ _ HR3.out (fun _ => ?_)
    clear hK K
    refine wpAnyH_ready (rs := [8]) (by kernel_rfl) (by simp) ?_
    refine (AllReadyH.cons rfl (fun K hK => ?_) AllReadyH.nil)
    ·skip
     go_simp
     go_at_call 31
     refine (PCC.out r3 HR3.out).mono ?_
     rintro e r4 ⟨rfl, hb⟩
     have HR4 := Lib.hid (HR3.out.trans (hb.mono HR3.out.size))
     have HY := Lib.hid ((Fr.of_below hb (fun _ => False)).heap HY.out (fun h => h))
     clear hb
     refine hK.out _ _ HR4.out (fun _ => ?_)
     clear hK K
     refine wpAnyH_take (i := 9) (v := ?_) rfl (by kernel_rfl) (by kernel_rfl) (by kernel_rfl) (fun _ _ _ h => h) (Or.inl ⟨by rfl, ?tq10⟩) HR4.out ?_
     case tq10 => (intro wq hq; obtain ⟨f0, f1, f2, f3, f4, f5, f6, f7⟩ := HCB.out wq hq; go_simp; first | done | with_reducible rfl)
     refine wpAnyH_take (i := 10) (v := ?_) rfl (by kernel_rfl) (by kernel_rfl) (by kernel_rfl) (fun _ _ _ h => h) (Or.inl ⟨by rfl, ?tq11⟩) HR4.out ?_
     case tq11 => (intro wq hq; obtain ⟨f0, f1, f2, f3, f4, f5, f6, f7⟩ := HCB.out wq hq; go_simp; first | done | with_reducible rfl)
     refine wpAnyH_ready (rs := [12]) (by kernel_rfl) (by simp) ?_
     refine (AllReadyH.cons rfl (fun K hK => ?_) AllReadyH.nil)
     have k0 := (row_cell HY.out 0).1
     have g0 := (row_cell HY.out 0).2
     have k1 := (row_cell HY.out 1).1
     have g1 := (row_cell HY.out 1).2
     have k2 := (row_cell HY.out 2).1
     have g2 := (row_cell HY.out 2).2
     have k3 := (row_cell HY.out 3).1
     have g3 := (row_cell HY.out 3).2
     simp only [List.getElem?_toArray, List.getElem?_cons_zero, List.getElem?_cons_succ] at k0 k1 k2 k3
     go_simp
     clear k0 k1 k2 k3 g0 g1 g2 g3
     have hl := (row_set (row_set (row_set (row_set HY.out 0 (.int .i64 16)) 1 (.int .i64 ia)) 2 (.int .i64 ib)) 3 (.int .i64 ic))
     simp only [List.setIfInBounds_toArray, List.set_cons_zero, List.set_cons_succ] at hl
     have hf : Fr (fun k => k = y) r4 _ := (((((Fr.refl (fun k => k = y) r4).setCell (p := ⟨y, 0, none⟩) (fun _ => rfl) (.int .i64 16)).setCell (p := ⟨y, 1, none⟩) (fun _ => rfl) (.int .i64 ia)).setCell (p := ⟨y, 2, none⟩) (fun _ => rfl) (.int .i64 ib)).setCell (p := ⟨y, 3, none⟩) (fun _ => rfl) (.int .i64 ic))
     generalize (((r4.setCell ⟨y, 0, none⟩ (.int .i64 16)).setCell ⟨y, 1, none⟩ (.int .i64 ia)).setCell ⟨y, 2, none⟩ (.int .i64 ib)).setCell ⟨y, 3, none⟩ (.int .i64 ic) = r5 at *
     have HR5 := Lib.hid (HR4.out.trans (hf.below HR4.out.size (fun k hk => by have e : k = y := hk; omega)))
     have HY := Lib.hid hl
     clear hl hf
     refine hK.out _ _ HR5.out (fun _ => ?_)
     clear hK K
     refine wpAnyH_done (by kernel_rfl) ?_ _
     refine NoPanic.normal ?_
     go_wp2_with fail
     go_meet
     case rel => exact ⟨y, rfl, HY.out, hyW, HR5.out⟩
  ·skip
   go_simp
   obtain ⟨r2, hr⟩ : ∃ r, r = r1.alloc (.cells #[.int .i64 0, .int .i64 0, .int .i64 0, .int .i64 0] 59) := ⟨_, rfl⟩
   obtain ⟨y, hy⟩ : ∃ y, y = r1.heap.size := ⟨_, rfl⟩
   have hl : r2.heap[y]? = some (.cells #[.int .i64 0, .int .i64 0, .int .i64 0, .int .i64 0] 59) := by rw [hr, hy]; exact heap_new _ _
   have hb : Below r1.heap.size r1 r2 := by rw [hr]; exact (Below.refl _ _).alloc (Nat.le_refl _) _
   rw [← hr, ← hy]
   have hyW : w3.heap.size ≤ y := by have := HR1.out.size; omega
   have HR2 := Lib.hid (HR1.out.trans (hb.mono HR1.out.size))
   have HY := Lib.hid hl
   clear hl hb hr hy
   refine hK.out _ _ HR2.out (fun _ => ?_)
   clear hK K
   refine wpAnyH_ready (rs := [3]) (by kernel_rfl) (by simp) ?_
   refine (AllReadyH.cons rfl (fun K hK => ?_) AllReadyH.nil)
   ·skip
    go_simp
    go_at_call 38
    refine (FNC.out r2 HR2.out).mono ?_
    rintro e r3 ⟨rfl, hb⟩
    have HR3 := Lib.hid (HR2.out.trans (hb.mono HR2.out.size))
    have HY := Lib.hid ((Fr.of_below hb (fun _ => False)).heap HY.out (fun h => h))
    clear hb
    refine hK.out _ _ HR3.out (fun _ => ?_)
    clear hK K
    refine wpAnyH_take (i := 4) (v := ?_) rfl (by kernel_rfl) (by kernel_rfl) (by kernel_rfl) (fun _ _ _ h => h) (Or.inl ⟨by rfl, ?tq12⟩) HR3.out ?_
    case tq12 => (intro wq hq; obtain ⟨f0, f1, f2, f3, f4, f5, f6, f7⟩ := HCB.out wq hq; go_simp; first | done | with_reducible rfl)
    refine wpAnyH_take (i := 5) (v := ?_) rfl (by kernel_rfl) (by kernel_rfl) (by kernel_rfl) (fun _ _ _ h => h) (Or.inl ⟨by rfl, ?tq13⟩) HR3.out ?_
    case tq13 => (intro wq hq; obtain ⟨f0, f1, f2, f3, f4, f5, f6, f7⟩ := HCB.out wq hq; go_simp; first | done | with_reducible rfl)
    refine wpAnyH_take (i := 6) (v := ?_) rfl (by kernel_rfl) (by kernel_rfl) (by kernel_rfl) (fun _ _ _ h => h) (Or.inl ⟨by rfl, ?tq14⟩) HR3.out ?_
    case tq14 => (intro wq hq; obtain ⟨f0, f1, f2, f3, f4, f5, f6, f7⟩ := HCB.out wq hq; go_simp; first | done | with_reducible rfl)
    refine wpAnyH_ready (rs := [8]) (by kernel_rfl) (by simp) ?_
    refine (AllReadyH.cons rfl (fun K hK => ?_) AllReadyH.nil)
    ·skip
     go_simp
     go_at_call 31
     refine (PCC.out r3 HR3.out).mono ?_
     rintro e r4 ⟨rfl, hb⟩
     have HR4 := Lib.hid (HR3.out.trans (hb.mono HR3.out.size))
     have HY := Lib.hid ((Fr.of_below hb (fun _ => False)).heap HY.out (fun h => h))
     clear hb
     refine hK.out _ _ HR4.out (fun _ => ?_)
     clear hK K
     refine wpAnyH_take (i := 9) (v := ?_) rfl (by kernel_rfl) (by kernel_rfl) (by kernel_rfl) (fun _ _ _ h => h) (Or.inl ⟨by rfl, ?tq15⟩) HR4.out ?_
     case tq15 => (intro wq hq; obtain ⟨f0, f1, f2, f3, f4, f5, f6, f7⟩ := HCB.out wq hq; go_simp; first | done | with_reducible rfl)
     refine wpAnyH_take (i := 10) (v := ?_) rfl (by kernel_rfl) (by kernel_rfl) (by kernel_rfl) (fun _ _ _ h => h) (Or.inl ⟨by rfl, ?tq16⟩) HR4.out ?_
     case tq16 => (intro wq hq; obtain ⟨f0, f1, f2, f3, f4, f5, f6, f7⟩ := HCB.out wq hq; go_simp; first | done | with_reducible rfl)
     refine wpAnyH_ready (rs := [12]) (by kernel_rfl) (by simp) ?_
     refine (AllReadyH.cons rfl (fun K hK => ?_) AllReadyH.nil)
     have k0 := (row_cell HY.out 0).1
     have g0 := (row_cell HY.out 0).2
     have k1 := (row_cell HY.out 1).1
     have g1 := (row_cell HY.out 1).2
     have k2 := (row_cell HY.out 2).1
     have g2 := (row_cell HY.out 2).2
     have k3 := (row_cell HY.out 3).1
     have g3 := (row_cell HY.out 3).2
     simp only [List.getElem?_toArray, List.getElem?_cons_zero, List.getElem?_cons_succ] at k0 k1 k2 k3
     go_simp
     clear k0 k1 k2 k3 g0 g1 g2 g3
     have hl := (row_set (row_set (row_set (row_set HY.out 0 (.int .i64 16)) 1 (.int .i64 ia)) 2 (.int .i64 ib)) 3 (.int .i64 ic))
     simp only [List.setIfInBounds_toArray, List.set_cons_zero, List.set_cons_succ] at hl
     have hf : Fr (fun k => k = y) r4 _ := (((((Fr.refl (fun k => k = y) r4).setCell (p := ⟨y, 0, none⟩) (fun _ => rfl) (.int .i64 16)).setCell (p := ⟨y, 1, none⟩) (fun _ => rfl) (.int .i64 ia)).setCell (p := ⟨y, 2, none⟩) (fun _ => rfl) (.int .i64 ib)).setCell (p := ⟨y, 3, none⟩) (fun _ => rfl) (.int .i64 ic))
     generalize (((r4.setCell ⟨y, 0, none⟩ (.int .i64 16)).setCell ⟨y, 1, none⟩ (.int .i64 ia)).setCell ⟨y, 2, none⟩ (.int .i64 ib)).setCell ⟨y, 3, none⟩ (.int .i64 ic) = r5 at *
     have HR5 := Lib.hid (HR4.out.trans (hf.below HR4.out.size (fun k hk => by have e : k = y := hk; omega)))
     have HY := Lib.hid hl
     clear hl hf
     refine hK.out _ _ HR5.out (fun _ => ?_)
     clear hK K
     refine wpAnyH_done (by kernel_rfl) ?_ _
     refine NoPanic.normal ?_
     go_wp2_with fail
     go_meet
     case rel => exact ⟨y, rfl, HY.out, hyW, HR5.out⟩
 case rest =>
  obtain ⟨z, rfl, hz, hzl, hR⟩ := hcut
  have hbc := HB3.out.trans (hR.mono HB3.out.size)
  obtain ⟨k0, k1, k2, _⟩ := HCS.out _ hbc
  have z0 : wc.cell? ⟨z, 0, none⟩ = some (.int .i64 16) := (row_cell hz 0).1
  have z1 : wc.cell? ⟨z, 1, none⟩ = some (.int .i64 ia) := (row_cell hz 1).1
  have z2 : wc.cell? ⟨z, 2, none⟩ = some (.int .i64 ib) := (row_cell hz 2).1
  have z3 : wc.cell? ⟨z, 3, none⟩ = some (.int .i64 ic) := (row_cell hz 3).1
  have ha := (Below.refl wc.heap.size wc).alloc (Nat.le_refl _) (.cells #[.slice a0 pr.globals.length m0, .slice a1 pr.shapes.length m1, .slice (some ⟨bb, o, none⟩) pr.funcs.length m2, .pointer none, .pointer (some ⟨tb, 0, none⟩), .int .i64 16, .int .i64 ia, .int .i64 ib, .int .i64 ic] 124)
  have hra := heap_new wc (.cells #[.slice a0 pr.globals.length m0, .slice a1 pr.shapes.length m1, .slice (some ⟨bb, o, none⟩) pr.funcs.length m2, .pointer none, .pointer (some ⟨tb, 0, none⟩), .int .i64 16, .int .i64 ia, .int .i64 ib, .int .i64 ic] 124)
  obtain ⟨V, hV⟩ : ∃ V, V = wc.alloc (.cells #[.slice a0 pr.globals.length m0, .slice a1 pr.shapes.length m1, .slice (some ⟨bb, o, none⟩) pr.funcs.length m2, .pointer none, .pointer (some ⟨tb, 0, none⟩), .int .i64 16, .int .i64 ia, .int .i64 ib, .int .i64 ic] 124) := ⟨_, rfl⟩
  obtain ⟨y, hy⟩ : ∃ y, y = wc.heap.size := ⟨_, rfl⟩
  rw [← hV] at ha hra
  rw [← hy] at hra
  have hz' := (Fr.of_below ha (fun _ => False)).heap hz (fun h => h)
  have HVB := Lib.hid (hbc.trans (ha.mono hbc.size))
  have HV := Lib.hid hV
  have HY := Lib.hid hy
  have HZ := Lib.hid hz'
  have HRA := Lib.hid hra
  clear hz hR hbc hV hy hz' hra ha hzl hSd
  go_upto_region 5 with fail
  rw [← HV.out, ← HY.out]
  clear z0 z1 z2 z3 k0 k1 k2
  have z0 : V.cell? ⟨z, 0, none⟩ = some (.int .i64 16) := (row_cell HZ.out 0).1
  have z1 : V.cell? ⟨z, 1, none⟩ = some (.int .i64 ia) := (row_cell HZ.out 1).1
  have y0 : V.cell? ⟨y, 0, none⟩ = some (.slice a0 pr.globals.length m0) := (row_cell HRA.out 0).1
  have y1 : V.cell? ⟨y, 1, none⟩ = some (.slice a1 pr.shapes.length m1) := (row_cell HRA.out 1).1
  have y2 : V.cell? ⟨y, 2, none⟩ = some (.slice (some ⟨bb, o, none⟩) pr.funcs.length m2) := (row_cell HRA.out 2).1
  have y3 : V.cell? ⟨y, 3, none⟩ = some (.pointer none) := (row_cell HRA.out 3).1
  have y4 : V.cell? ⟨y, 4, none⟩ = some (.pointer (some ⟨tb, 0, none⟩)) := (row_cell HRA.out 4).1
  have y5 : V.cell? ⟨y, 5, none⟩ = some (.int .i64 16) := (row_cell HRA.out 5).1
  have y6 : V.cell? ⟨y, 6, none⟩ = some (.int .i64 ia) := (row_cell HRA.out 6).1
  have y7 : V.cell? ⟨y, 7, none⟩ = some (.int .i64 ib) := (row_cell HRA.out 7).1
  have y8 : V.cell? ⟨y, 8, none⟩ = some (.int .i64 ic) := (row_cell HRA.out 8).1
  have hbV := HBW.out.trans (HVB.out.mono HBW.out.size)
  have HBV := Lib.hid hbV
  clear hbV
  go_wp2_with fail
  refine (SETX.out V HBV.out).mono ?_
  rintro e w9 ⟨rfl, hT9, hf9⟩
  have hf := (Fr.of_below HBV.out F).trans hf9 (fun _ _ h => h)
  clear z0 z1 y0 y1 y2 y3 y4 y5 y6 y7 y8 hf9
  have HT9 := Lib.hid hT9; clear hT9
  have HF := Lib.hid hf; clear hf
  go_wp2_with fail
  go_ret
  exact ⟨rfl, HT9.out, HF.out⟩
set_option maxRecDepth 100000 in
set_option maxHeartbeats 3200000 in
theorem give_15 (w : World) (F : Nat → Prop) (tb : Nat) (p : TPrg) (T : Tk) (X : TB) (h : TaskAt w F tb p T X) (hn : T.parts.length ≤ 1000) (hm : nextN T.marks = 0) (hml : T.marks.length ≤ 10000) (P : List Part) (q : Part) (hP : T.parts = P ++ [q])
  (D : Nat → Prop) (hD : ∀ k, D k → ¬ F k ∧ k < w.heap.size) (pr : Prg) (c0 c1 c2 : Value) (hv : PrgVal w D pr c0 c1 c2) (j : Nat) (hj : j < pr.funcs.length) (hfj : q.fn = j) (pc : Nat) (hpc : q.pc = pc) (hpl : pc < pr.funcs[j].code.length) (ia ib ic : Int) (hi : pr.funcs[j].code[pc] = ⟨15, ia, ib, ic⟩)
  (T' : Tk) (v : Int) (SET : ∀ wr, Below w.heap.size w wr → Calls Tryz.prog 71 #[.agg (stepV c0 c1 c2 (.pointer none) tb 15 ia ib ic)] wr fun e w' => e = .returned (actV 0 0 0 0 0 false (.slice none 0 0)) ∧ TaskAt w' F tb p T' X ∧ Fr F wr w') :
  Calls Tryz.prog 35 #[.agg #[c0, c1, c2], .pointer (some ⟨tb, 0, none⟩), .int .i64 v] w fun e w' => e = .returned (.bool true) ∧ TaskAt w' F tb p T' X ∧ Fr F w w' := by
 have hv0 := hv
 obtain ⟨⟨a0, m0, rfl, _⟩, ⟨a1, m1, rfl, _⟩, a2, m2, rfl, hfn⟩ := hv
 have hb0 := ((Below.refl w.heap.size w).alloc (Nat.le_refl _) (.cells #[.slice a0 pr.globals.length m0, .slice a1 pr.shapes.length m1, .slice a2 pr.funcs.length m2] 27))
 have hr0 := heap_new w (.cells #[.slice a0 pr.globals.length m0, .slice a1 pr.shapes.length m1, .slice a2 pr.funcs.length m2] 27)
 obtain ⟨W, hW⟩ : ∃ W, W = (w.alloc (.cells #[.slice a0 pr.globals.length m0, .slice a1 pr.shapes.length m1, .slice a2 pr.funcs.length m2] 27)) := ⟨_, rfl⟩
 rw [← hW] at hb0 hr0
 have hT := h.below hb0
 have hl : T.parts.length = P.length + 1 := by rw [hP]; simp
 have e0 : (T.parts[P.length]'(by omega)) = q := by simp only [hP]; simp
 have nx := tkNext_any W F tb p T X hT hml
 have dp := depth_any W F tb p T X hT
 rw [hm] at nx
 rw [hl] at dp
 have hd0 : ((((P.length + 1 : Nat) : Int)) == 0) = false := by rw [beq_eq_false_iff_ne]; omega
 have fnc := fun wr (hw : Below w.heap.size w wr) => fn_some wr F tb p T X (h.below hw) hn P.length hl
 have pcc := fun wr (hw : Below w.heap.size w wr) => pc_some wr F tb p T X (h.below hw) hn P.length hl
 rw [e0, hfj] at fnc
 rw [e0, hpc] at pcc
 obtain ⟨bb, o, rfl, hdb, y0, y1, y2, y3, y4, g0, g1, g2, g3, g4, hfv⟩ := hfn j hj
 obtain ⟨_, _, _, _, ac, cc, rfl, hcode⟩ := hfv
 obtain ⟨cb, co, rfl, hdc, x0, x1, x2, x3⟩ := hcode pc hpl
 rw [hi] at x0 x1 x2 x3
 have hcs : ∀ wx, Below W.heap.size W wx → wx.cell? ⟨w.heap.size, 0, none⟩ = some (.slice a0 pr.globals.length m0) ∧ wx.cell? ⟨w.heap.size, 1, none⟩ = some (.slice a1 pr.shapes.length m1) ∧ wx.cell? ⟨w.heap.size, 2, none⟩ = some (.slice (some ⟨bb, o, none⟩) pr.funcs.length m2) ∧ wx.cell? ⟨bb, o + j * 5 + 4, none⟩ = some (.slice (some ⟨cb, co, none⟩) pr.funcs[j].code.length cc) ∧ wx.cell? ⟨cb, co + pc * 4, none⟩ = some (.int .i64 15) ∧ wx.cell? ⟨cb, co + pc * 4 + 1, none⟩ = some (.int .i64 ia) ∧ wx.cell? ⟨cb, co + pc * 4 + 2, none⟩ = some (.int .i64 ib) ∧ wx.cell? ⟨cb, co + pc * 4 + 3, none⟩ = some (.int .i64 ic) := fun wx hw => by
  have hk := (Fr.of_below hw (fun _ => False)).heap hr0 (fun h => h)
  have hw2 := hb0.trans (hw.mono hb0.size)
  exact ⟨(row_cell hk 0).1, (row_cell hk 1).1, (row_cell hk 2).1, below_cell hw2 g4, below_cell hw2 x0, below_cell hw2 x1, below_cell hw2 x2, below_cell hw2 x3⟩
 have hj0 : (0 : Int) ≤ (j : Int) := by omega
 have hj1 : (j : Int) < (pr.funcs.length : Int) := by omega
 have hp0 : (0 : Int) ≤ (pc : Int) := by omega
 have hp1 : (pc : Int) < (pr.funcs[j].code.length : Int) := by omega
 have HFLT := Lib.hid h.flt
 have HW := Lib.hid hW
 have HBW := Lib.hid hb0
 obtain ⟨k0, k1, k2, _⟩ := hcs W (Below.refl _ _)
 clear hb0 hW hT hl e0 h hn hm hml hP hfj hpc hi hv0 hfn g0 g1 g2 g3 g4 x0 x1 x2 x3 hdb hdc hD hpl
 generalize pr.funcs[j].code.length = cl at *
 generalize ((P.length + 1 : Nat) : Int) = dn at *
 have FNC := Lib.hid fnc; clear fnc
 have PCC := Lib.hid pcc; clear pcc
 have SETX := Lib.hid SET; clear SET
 have NX := Lib.hid nx; clear nx
 have DP := Lib.hid dp; clear dp
 have HR0 := Lib.hid hr0; clear hr0
 have HCS := Lib.hid hcs; clear hcs
 unfold stepV at SETX
 go_enter Tryz.func35, Tryz.ntmps35
 go_upto_region 1 with fail
 rw [← HW.out]
 go_wp2_with fail
 refine DP.out.mono ?_
 rintro e w3 ⟨rfl, rfl⟩
 go_wp2_with fail
 refine NX.out.mono ?_
 rintro e w3 ⟨rfl, hb3⟩
 have HB3 := Lib.hid hb3
 have hSd := HCS.out _ hb3.drew
 clear hb3 k0 k1 k2
 obtain ⟨k0, k1, k2, _⟩ := HCS.out _ HB3.out
 go_upto_region 3 with fail
 go_cut [7] (fun x wx => ∃ z : Nat, x = .pointer (some ⟨z, 0, none⟩) ∧ wx.heap[z]? = some (.cells #[.int .i64 15, .int .i64 ia, .int .i64 ib, .int .i64 ic] 59) ∧ w3.heap.size ≤ z ∧ Below w3.heap.size w3 wx)
 case first =>
  clear k0 k1 k2
  have HCB := Lib.hid (fun wx (hx : Below w3.heap.size w3 wx) => HCS.out wx (HB3.out.trans (hx.mono HB3.out.size)))
  have hto := fun wx (hx : Below w3.heap.size w3 wx) => HBW.out.trans ((HB3.out.trans (hx.mono HB3.out.size)).mono HBW.out.size)
  have fnc := fun wx (hx : Below w3.heap.size w3 wx) => (FNC.out wx (hto wx hx)).mono (fun e w' he => (show e = .returned (.int .i64 j) ∧ Below wx.heap.size wx w' from ⟨he.1, by obtain ⟨m, hm⟩ := he.2; rw [hm]; exact below_drewN (Below.refl _ _) m⟩))
  have pcc := fun wx (hx : Below w3.heap.size w3 wx) => (PCC.out wx (hto wx hx)).mono (fun e w' he => (show e = .returned (.int .i64 pc) ∧ Below wx.heap.size wx w' from ⟨he.1, by obtain ⟨m, hm⟩ := he.2; rw [hm]; exact below_drewN (Below.refl _ _) m⟩))
  clear hto hSd
  have FNC := Lib.hid fnc; clear fnc
  have PCC := Lib.hid pcc; clear pcc
  refine wp_region_noPanic ?_
  refine wp_region_held_drew (S := fun w' => Below w3.heap.size w3 w') (by kernel_rfl) (Below.refl _ _).drew (fun _ => ?_)
  have HR1 := Lib.hid (Below.refl w3.heap.size w3).drew
  generalize w3.drew = r1 at *
  refine wpAnyH_take (i := 0) (v := ?_) rfl (by kernel_rfl) (by kernel_rfl) (by kernel_rfl) (fun _ _ _ h => h) (Or.inl ⟨by rfl, ?tq1⟩) HR1.out ?_
  case tq1 => (intro wq hq; obtain ⟨f0, f1, f2, f3, f4, f5, f6, f7⟩ := HCB.out wq hq; go_simp; first | done | with_reducible rfl)
  refine wpAnyH_take (i := 1) (v := ?_) rfl (by kernel_rfl) (by kernel_rfl) (by kernel_rfl) (fun _ _ _ h => h) (Or.inl ⟨by rfl, ?tq2⟩) HR1.out ?_
  case tq2 => (intro wq hq; obtain ⟨f0, f1, f2, f3, f4, f5, f6, f7⟩ := HCB.out wq hq; go_simp; first | done | with_reducible rfl)
  refine wpAnyH_take (i := 2) (v := ?_) rfl (by kernel_rfl) (by kernel_rfl) (by kernel_rfl) (fun _ _ _ h => h) (Or.inl ⟨by rfl, ?tq3⟩) HR1.out ?_
  case tq3 => (intro wq hq; obtain ⟨f0, f1, f2, f3, f4, f5, f6, f7⟩ := HCB.out wq hq; go_simp; first | done | with_reducible rfl)
  refine wpAnyH_take (i := 7) (v := ?_) rfl (by kernel_rfl) (by kernel_rfl) (by kernel_rfl) (fun _ _ _ h => h) (Or.inl ⟨by rfl, ?tq4⟩) HR1.out ?_
  case tq4 => (intro wq hq; obtain ⟨f0, f1, f2, f3, f4, f5, f6, f7⟩ := HCB.out wq hq; go_simp; first | done | with_reducible rfl)
  refine wpAnyH_ready (rs := [3, 11]) (by kernel_rfl) (by simp) ?_
  refine (AllReadyH.cons rfl (fun K hK => ?_) (AllReadyH.cons rfl (fun K hK => ?_) AllReadyH.nil))
  ·skip
   go_simp
   go_at_call 38
   refine (FNC.out r1 HR1.out).mono ?_
   rintro e r2 ⟨rfl, hb⟩
   have HR2 := Lib.hid (HR1.out.trans (hb.mono HR1.out.size))
   clear hb
   refine hK.out _ _ HR2.out (fun _ => ?_)
   clear hK K
   refine wpAnyH_take (i := 4) (v := ?_) rfl (by kernel_rfl) (by kernel_rfl) (by kernel_rfl) (fun _ _ _ h => h) (Or.inl ⟨by rfl, ?tq5⟩) HR2.out ?_
   case tq5 => (intro wq hq; obtain ⟨f0, f1, f2, f3, f4, f5, f6, f7⟩ := HCB.out wq hq; go_simp; first | done | with_reducible rfl)
   refine wpAnyH_take (i := 5) (v := ?_) rfl (by kernel_rfl) (by kernel_rfl) (by kernel_rfl) (fun _ _ _ h => h) (Or.inl ⟨by rfl, ?tq6⟩) HR2.out ?_
   case tq6 => (intro wq hq; obtain ⟨f0, f1, f2, f3, f4, f5, f6, f7⟩ := HCB.out wq hq; go_simp; first | done | with_reducible rfl)
   refine wpAnyH_take (i := 6) (v := ?_) rfl (by kernel_rfl) (by kernel_rfl) (by kernel_rfl) (fun _ _ _ h => h) (Or.inl ⟨by rfl, ?tq7⟩) HR2.out ?_
   case tq7 => (intro wq hq; obtain ⟨f0, f1, f2, f3, f4, f5, f6, f7⟩ := HCB.out wq hq; go_simp; first | done | with_reducible rfl)
   refine wpAnyH_ready (rs := [8, 11]) (by kernel_rfl) (by simp) ?_
   refine (AllReadyH.cons rfl (fun K hK => ?_) (AllReadyH.cons rfl (fun K hK => ?_) AllReadyH.nil))
   ·skip
    go_simp
    go_at_call 31
    refine (PCC.out r2 HR2.out).mono ?_
    rintro e r3 ⟨rfl, hb⟩
    have HR3 := Lib.hid (HR2.out.trans (hb.mono HR2.out.size))
    clear hb
    refine hK.out _ _ HR3.out (fun _ => ?_)
    clear hK K
    refine wpAnyH_take (i := 9) (v := ?_) rfl (by kernel_rfl) (by kernel_rfl) (by kernel_rfl) (fun _ _ _ h => h) (Or.inl ⟨by rfl, ?tq8⟩) HR3.out ?_
    case tq8 => (intro wq hq; obtain ⟨f0, f1, f2, f3, f4, f5, f6, f7⟩ := HCB.out wq hq; go_simp; first | done | with_reducible rfl)
    refine wpAnyH_take (i := 10) (v := ?_) rfl (by kernel_rfl) (by kernel_rfl) (by kernel_rfl) (fun _ _ _ h => h) (Or.inl ⟨by rfl, ?tq9⟩) HR3.out ?_
    case tq9 => (intro wq hq; obtain ⟨f0, f1, f2, f3, f4, f5, f6, f7⟩ := HCB.out wq hq; go_simp; first | done | with_reducible rfl)
    refine wpAnyH_ready (rs := [11]) (by kernel_rfl) (by simp) ?_
    refine (AllReadyH.cons rfl (fun K hK => ?_) AllReadyH.nil)
    ·skip
     go_simp
     obtain ⟨r4, hr⟩ : ∃ r, r = r3.alloc (.cells #[.int .i64 0, .int .i64 0, .int .i64 0, .int .i64 0] 59) := ⟨_, rfl⟩
     obtain ⟨y, hy⟩ : ∃ y, y = r3.heap.size := ⟨_, rfl⟩
     have hl : r4.heap[y]? = some (.cells #[.int .i64 0, .int .i64 0, .int .i64 0, .int .i64 0] 59) := by rw [hr, hy]; exact heap_new _ _
     have hb : Below r3.heap.size r3 r4 := by rw [hr]; exact (Below.refl _ _).alloc (Nat.le_refl _) _
     rw [← hr, ← hy]
     have hyW : w3.heap.size ≤ y := by have := HR3.out.size; omega
     have HR4 := Lib.hid (HR3.out.trans (hb.mono HR3.out.size))
     have HY := Lib.hid hl
     clear hl hb hr hy
     refine hK.out _ _ HR4.out (fun _ => ?_)
     clear hK K
     refine wpAnyH_ready (rs := [12]) (by kernel_rfl) (by simp) ?_
     refine (AllReadyH.cons rfl (fun K hK => ?_) AllReadyH.nil)
     have k0 := (row_cell HY.out 0).1
     have g0 := (row_cell HY.out 0).2
     have k1 := (row_cell HY.out 1).1
     have g1 := (row_cell HY.out 1).2
     have k2 := (row_cell HY.out 2).1
     have g2 := (row_cell HY.out 2).2
     have k3 := (row_cell HY.out 3).1
     have g3 := (row_cell HY.out 3).2
     simp only [List.getElem?_toArray, List.getElem?_cons_zero, List.getElem?_cons_succ] at k0 k1 k2 k3
     go_simp
     clear k0 k1 k2 k3 g0 g1 g2 g3
     have hl := (row_set (row_set (row_set (row_set HY.out 0 (.int .i64 15)) 1 (.int .i64 ia)) 2 (.int .i64 ib)) 3 (.int .i64 ic))
     simp only [List.setIfInBounds_toArray, List.set_cons_zero, List.set_cons_succ] at hl
     have hf : Fr (fun k => k = y) r4 _ := (((((Fr.refl (fun k => k = y) r4).setCell (p := ⟨y, 0, none⟩) (fun _ => rfl) (.int .i64 15)).setCell (p := ⟨y, 1, none⟩) (fun _ => rfl) (.int .i64 ia)).setCell (p := ⟨y, 2, none⟩) (fun _ => rfl) (.int .i64 ib)).setCell (p := ⟨y, 3, none⟩) (fun _ => rfl) (.int .i64 ic))
     generalize (((r4.setCell ⟨y, 0, none⟩ (.int .i64 15)).setCell ⟨y, 1, none⟩ (.int .i64 ia)).setCell ⟨y, 2, none⟩ (.int .i64 ib)).setCell ⟨y, 3, none⟩ (.int .i64 ic) = r5 at *
     have HR5 := Lib.hid (HR4.out.trans (hf.below HR4.out.size (fun k hk => by have e : k = y := hk; omega)))
     have HY := Lib.hid hl
     clear hl hf
     refine hK.out _ _ HR5.out (fun _ => ?_)
     clear hK K
     refine wpAnyH_done (by kernel_rfl) ?_ _
     refine NoPanic.normal ?_
     go_wp2_with fail
     go_meet
     case rel => exact ⟨y, rfl, HY.out, hyW, HR5.out⟩
   ·skip
    go_simp
    obtain ⟨r3, hr⟩ : ∃ r, r = r2.alloc (.cells #[.int .i64 0, .int .i64 0, .int .i64 0, .int .i64 0] 59) := ⟨_, rfl⟩
    obtain ⟨y, hy⟩ : ∃ y, y = r2.heap.size := ⟨_, rfl⟩
    have hl : r3.heap[y]? = some (.cells #[.int .i64 0, .int .i64 0, .int .i64 0, .int .i64 0] 59) := by rw [hr, hy]; exact heap_new _ _
    have hb : Below r2.heap.size r2 r3 := by rw [hr]; exact (Below.refl _ _).alloc (Nat.le_refl _) _
    rw [← hr, ← hy]
    have hyW : w3.heap.size ≤ y := by have := HR2.out.size; omega
    have HR3 := Lib.hid (HR2.out.trans (hb.mono HR2.out.size))
    have HY := Lib.hid hl
    clear hl hb hr hy
    refine hK.out _ _ HR3.out (fun _ => ?_)
    clear hK K
    refine wpAnyH_ready (rs := [8]) (by kernel_rfl) (by simp) ?_
    refine (AllReadyH.cons rfl (fun K hK => ?_) AllReadyH.nil)
    ·skip
     go_simp
     go_at_call 31
     refine (PCC.out r3 HR3.out).mono ?_
     rintro e r4 ⟨rfl, hb⟩
     have HR4 := Lib.hid (HR3.out.trans (hb.mono HR3.out.size))
     have HY := Lib.hid ((Fr.of_below hb (fun _ => False)).heap HY.out (fun h => h))
     clear hb
     refine hK.out _ _ HR4.out (fun _ => ?_)
     clear hK K
     refine wpAnyH_take (i := 9) (v := ?_) rfl (by kernel_rfl) (by kernel_rfl) (by kernel_rfl) (fun _ _ _ h => h) (Or.inl ⟨by rfl, ?tq10⟩) HR4.out ?_
     case tq10 => (intro wq hq; obtain ⟨f0, f1, f2, f3, f4, f5, f6, f7⟩ := HCB.out wq hq; go_simp; first | done | with_reducible rfl)
     refine wpAnyH_take (i := 10) (v := ?_) rfl (by kernel_rfl) (by kernel_rfl) (by kernel_rfl) (fun _ _ _ h => h) (Or.inl ⟨by rfl, ?tq11⟩) HR4.out ?_
     case tq11 => (intro wq hq; obtain ⟨f0, f1, f2, f3, f4, f5, f6, f7⟩ := HCB.out wq hq; go_simp; first | done | with_reducible rfl)
     refine wpAnyH_ready (rs := [12]) (by kernel_rfl) (by simp) ?_
     refine (AllReadyH.cons rfl (fun K hK => ?_) AllReadyH.nil)
     have k0 := (row_cell HY.out 0).1
     have g0 := (row_cell HY.out 0).2
     have k1 := (row_cell HY.out 1).1
     have g1 := (row_cell HY.out 1).2
     have k2 := (row_cell HY.out 2).1
     have g2 := (row_cell HY.out 2).2
     have k3 := (row_cell HY.out 3).1
     have g3 := (row_cell HY.out 3).2
     simp only [List.getElem?_toArray, List.getElem?_cons_zero, List.getElem?_cons_succ] at k0 k1 k2 k3
     go_simp
     clear k0 k1 k2 k3 g0 g1 g2 g3
     have hl := (row_set (row_set (row_set (row_set HY.out 0 (.int .i64 15)) 1 (.int .i64 ia)) 2 (.int .i64 ib)) 3 (.int .i64 ic))
     simp only [List.setIfInBounds_toArray, List.set_cons_zero, List.set_cons_succ] at hl
     have hf : Fr (fun k => k = y) r4 _ := (((((Fr.refl (fun k => k = y) r4).setCell (p := ⟨y, 0, none⟩) (fun _ => rfl) (.int .i64 15)).setCell (p := ⟨y, 1, none⟩) (fun _ => rfl) (.int .i64 ia)).setCell (p := ⟨y, 2, none⟩) (fun _ => rfl) (.int .i64 ib)).setCell (p := ⟨y, 3, none⟩) (fun _ => rfl) (.int .i64 ic))
     generalize (((r4.setCell ⟨y, 0, none⟩ (.int .i64 15)).setCell ⟨y, 1, none⟩ (.int .i64 ia)).setCell ⟨y, 2, none⟩ (.int .i64 ib)).setCell ⟨y, 3, none⟩ (.int .i64 ic) = r5 at *
     have HR5 := Lib.hid (HR4.out.trans (hf.below HR4.out.size (fun k hk => by have e : k = y := hk; omega)))
     have HY := Lib.hid hl
     clear hl hf
     refine hK.out _ _ HR5.out (fun _ => ?_)
     clear hK K
     refine wpAnyH_done (by kernel_rfl) ?_ _
     refine NoPanic.normal ?_
     go_wp2_with fail
     go_meet
     case rel => exact ⟨y, rfl, HY.out, hyW, HR5.out⟩
  ·skip
   go_simp
   obtain ⟨r2, hr⟩ : ∃ r, r = r1.alloc (.cells #[.int .i64 0, .int .i64 0, .int .i64 0, .int .i64 0] 59) := ⟨_, rfl⟩
   obtain ⟨y, hy⟩ : ∃ y, y = r1.heap.size := ⟨_, rfl⟩
   have hl : r2.heap[y]? = some (.cells #[.int .i64 0, .int .i64 0, .int .i64 0, .int .i64 0] 59) := by rw [hr, hy]; exact heap_new _ _
   have hb : Below r1.heap.size r1 r2 := by rw [hr]; exact (Below.refl _ _).alloc (Nat.le_refl _) _
   rw [← hr, ← hy]
   have hyW : w3.heap.size ≤ y := by have := HR1.out.size; omega
   have HR2 := Lib.hid (HR1.out.trans (hb.mono HR1.out.size))
   have HY := Lib.hid hl
   clear hl hb hr hy
   refine hK.out _ _ HR2.out (fun _ => ?_)
   clear hK K
   refine wpAnyH_ready (rs := [3]) (by kernel_rfl) (by simp) ?_
   refine (AllReadyH.cons rfl (fun K hK => ?_) AllReadyH.nil)
   ·skip
    go_simp
    go_at_call 38
    refine (FNC.out r2 HR2.out).mono ?_
    rintro e r3 ⟨rfl, hb⟩
    have HR3 := Lib.hid (HR2.out.trans (hb.mono HR2.out.size))
    have HY := Lib.hid ((Fr.of_below hb (fun _ => False)).heap HY.out (fun h => h))
    clear hb
    refine hK.out _ _ HR3.out (fun _ => ?_)
    clear hK K
    refine wpAnyH_take (i := 4) (v := ?_) rfl (by kernel_rfl) (by kernel_rfl) (by kernel_rfl) (fun _ _ _ h => h) (Or.inl ⟨by rfl, ?tq12⟩) HR3.out ?_
    case tq12 => (intro wq hq; obtain ⟨f0, f1, f2, f3, f4, f5, f6, f7⟩ := HCB.out wq hq; go_simp; first | done | with_reducible rfl)
    refine wpAnyH_take (i := 5) (v := ?_) rfl (by kernel_rfl) (by kernel_rfl) (by kernel_rfl) (fun _ _ _ h => h) (Or.inl ⟨by rfl, ?tq13⟩) HR3.out ?_
    case tq13 => (intro wq hq; obtain ⟨f0, f1, f2, f3, f4, f5, f6, f7⟩ := HCB.out wq hq; go_simp; first | done | with_reducible rfl)
    refine wpAnyH_take (i := 6) (v := ?_) rfl (by kernel_rfl) (by kernel_rfl) (by kernel_rfl) (fun _ _ _ h => h) (Or.inl ⟨by rfl, ?tq14⟩) HR3.out ?_
    case tq14 => (intro wq hq; obtain ⟨f0, f1, f2, f3, f4, f5, f6, f7⟩ := HCB.out wq hq; go_simp; first | done | with_reducible rfl)
    refine wpAnyH_ready (rs := [8]) (by kernel_rfl) (by simp) ?_
    refine (AllReadyH.cons rfl (fun K hK => ?_) AllReadyH.nil)
    ·skip
     go_simp
     go_at_call 31
     refine (PCC.out r3 HR3.out).mono ?_
     rintro e r4 ⟨rfl, hb⟩
     have HR4 := Lib.hid (HR3.out.trans (hb.mono HR3.out.size))
     have HY := Lib.hid ((Fr.of_below hb (fun _ => False)).heap HY.out (fun h => h))
     clear hb
     refine hK.out _ _ HR4.out (fun _ => ?_)
     clear hK K
     refine wpAnyH_take (i := 9) (v := ?_) rfl (by kernel_rfl) (by kernel_rfl) (by kernel_rfl) (fun _ _ _ h => h) (Or.inl ⟨by rfl, ?tq15⟩) HR4.out ?_
     case tq15 => (intro wq hq; obtain ⟨f0, f1, f2, f3, f4, f5, f6, f7⟩ := HCB.out wq hq; go_simp; first | done | with_reducible rfl)
     refine wpAnyH_take (i := 10) (v := ?_) rfl (by kernel_rfl) (by kernel_rfl) (by kernel_rfl) (fun _ _ _ h => h) (Or.inl ⟨by rfl, ?tq16⟩) HR4.out ?_
     case tq16 => (intro wq hq; obtain ⟨f0, f1, f2, f3, f4, f5, f6, f7⟩ := HCB.out wq hq; go_simp; first | done | with_reducible rfl)
     refine wpAnyH_ready (rs := [12]) (by kernel_rfl) (by simp) ?_
     refine (AllReadyH.cons rfl (fun K hK => ?_) AllReadyH.nil)
     have k0 := (row_cell HY.out 0).1
     have g0 := (row_cell HY.out 0).2
     have k1 := (row_cell HY.out 1).1
     have g1 := (row_cell HY.out 1).2
     have k2 := (row_cell HY.out 2).1
     have g2 := (row_cell HY.out 2).2
     have k3 := (row_cell HY.out 3).1
     have g3 := (row_cell HY.out 3).2
     simp only [List.getElem?_toArray, List.getElem?_cons_zero, List.getElem?_cons_succ] at k0 k1 k2 k3
     go_simp
     clear k0 k1 k2 k3 g0 g1 g2 g3
     have hl := (row_set (row_set (row_set (row_set HY.out 0 (.int .i64 15)) 1 (.int .i64 ia)) 2 (.int .i64 ib)) 3 (.int .i64 ic))
     simp only [List.setIfInBounds_toArray, List.set_cons_zero, List.set_cons_succ] at hl
     have hf : Fr (fun k => k = y) r4 _ := (((((Fr.refl (fun k => k = y) r4).setCell (p := ⟨y, 0, none⟩) (fun _ => rfl) (.int .i64 15)).setCell (p := ⟨y, 1, none⟩) (fun _ => rfl) (.int .i64 ia)).setCell (p := ⟨y, 2, none⟩) (fun _ => rfl) (.int .i64 ib)).setCell (p := ⟨y, 3, none⟩) (fun _ => rfl) (.int .i64 ic))
     generalize (((r4.setCell ⟨y, 0, none⟩ (.int .i64 15)).setCell ⟨y, 1, none⟩ (.int .i64 ia)).setCell ⟨y, 2, none⟩ (.int .i64 ib)).setCell ⟨y, 3, none⟩ (.int .i64 ic) = r5 at *
     have HR5 := Lib.hid (HR4.out.trans (hf.below HR4.out.size (fun k hk => by have e : k = y := hk; omega)))
     have HY := Lib.hid hl
     clear hl hf
     refine hK.out _ _ HR5.out (fun _ => ?_)
     clear hK K
     refine wpAnyH_done (by kernel_rfl) ?_ _
     refine NoPanic.normal ?_
     go_wp2_with fail
     go_meet
     case rel => exact ⟨y, rfl, HY.out, hyW, HR5.out⟩
 case rest =>
  obtain ⟨z, rfl, hz, hzl, hR⟩ := hcut
  have hbc := HB3.out.trans (hR.mono HB3.out.size)
  obtain ⟨k0, k1, k2, _⟩ := HCS.out _ hbc
  have z0 : wc.cell? ⟨z, 0, none⟩ = some (.int .i64 15) := (row_cell hz 0).1
  have z1 : wc.cell? ⟨z, 1, none⟩ = some (.int .i64 ia) := (row_cell hz 1).1
  have z2 : wc.cell? ⟨z, 2, none⟩ = some (.int .i64 ib) := (row_cell hz 2).1
  have z3 : wc.cell? ⟨z, 3, none⟩ = some (.int .i64 ic) := (row_cell hz 3).1
  have ha := (Below.refl wc.heap.size wc).alloc (Nat.le_refl _) (.cells #[.slice a0 pr.globals.length m0, .slice a1 pr.shapes.length m1, .slice (some ⟨bb, o, none⟩) pr.funcs.length m2, .pointer none, .pointer (some ⟨tb, 0, none⟩), .int .i64 15, .int .i64 ia, .int .i64 ib, .int .i64 ic] 124)
  have hra := heap_new wc (.cells #[.slice a0 pr.globals.length m0, .slice a1 pr.shapes.length m1, .slice (some ⟨bb, o, none⟩) pr.funcs.length m2, .pointer none, .pointer (some ⟨tb, 0, none⟩), .int .i64 15, .int .i64 ia, .int .i64 ib, .int .i64 ic] 124)
  obtain ⟨V, hV⟩ : ∃ V, V = wc.alloc (.cells #[.slice a0 pr.globals.length m0, .slice a1 pr.shapes.length m1, .slice (some ⟨bb, o, none⟩) pr.funcs.length m2, .pointer none, .pointer (some ⟨tb, 0, none⟩), .int .i64 15, .int .i64 ia, .int .i64 ib, .int .i64 ic] 124) := ⟨_, rfl⟩
  obtain ⟨y, hy⟩ : ∃ y, y = wc.heap.size := ⟨_, rfl⟩
  rw [← hV] at ha hra
  rw [← hy] at hra
  have hz' := (Fr.of_below ha (fun _ => False)).heap hz (fun h => h)
  have HVB := Lib.hid (hbc.trans (ha.mono hbc.size))
  have HV := Lib.hid hV
  have HY := Lib.hid hy
  have HZ := Lib.hid hz'
  have HRA := Lib.hid hra
  clear hz hR hbc hV hy hz' hra ha hzl hSd
  go_upto_region 5 with fail
  rw [← HV.out, ← HY.out]
  clear z0 z1 z2 z3 k0 k1 k2
  have z0 : V.cell? ⟨z, 0, none⟩ = some (.int .i64 15) := (row_cell HZ.out 0).1
  have z1 : V.cell? ⟨z, 1, none⟩ = some (.int .i64 ia) := (row_cell HZ.out 1).1
  have y0 : V.cell? ⟨y, 0, none⟩ = some (.slice a0 pr.globals.length m0) := (row_cell HRA.out 0).1
  have y1 : V.cell? ⟨y, 1, none⟩ = some (.slice a1 pr.shapes.length m1) := (row_cell HRA.out 1).1
  have y2 : V.cell? ⟨y, 2, none⟩ = some (.slice (some ⟨bb, o, none⟩) pr.funcs.length m2) := (row_cell HRA.out 2).1
  have y3 : V.cell? ⟨y, 3, none⟩ = some (.pointer none) := (row_cell HRA.out 3).1
  have y4 : V.cell? ⟨y, 4, none⟩ = some (.pointer (some ⟨tb, 0, none⟩)) := (row_cell HRA.out 4).1
  have y5 : V.cell? ⟨y, 5, none⟩ = some (.int .i64 15) := (row_cell HRA.out 5).1
  have y6 : V.cell? ⟨y, 6, none⟩ = some (.int .i64 ia) := (row_cell HRA.out 6).1
  have y7 : V.cell? ⟨y, 7, none⟩ = some (.int .i64 ib) := (row_cell HRA.out 7).1
  have y8 : V.cell? ⟨y, 8, none⟩ = some (.int .i64 ic) := (row_cell HRA.out 8).1
  have hbV := HBW.out.trans (HVB.out.mono HBW.out.size)
  have HBV := Lib.hid hbV
  clear hbV
  go_wp2_with fail
  refine (SETX.out V HBV.out).mono ?_
  rintro e w9 ⟨rfl, hT9, hf9⟩
  have hf := (Fr.of_below HBV.out F).trans hf9 (fun _ _ h => h)
  clear z0 z1 y0 y1 y2 y3 y4 y5 y6 y7 y8 hf9
  have HT9 := Lib.hid hT9; clear hT9
  have HF := Lib.hid hf; clear hf
  go_wp2_with fail
  go_ret
  exact ⟨rfl, HT9.out, HF.out⟩
set_option maxRecDepth 100000 in
set_option maxHeartbeats 3200000 in
theorem give_17 (w : World) (F : Nat → Prop) (tb : Nat) (p : TPrg) (T : Tk) (X : TB) (h : TaskAt w F tb p T X) (hn : T.parts.length ≤ 1000) (hm : nextN T.marks = 0) (hml : T.marks.length ≤ 10000) (P : List Part) (q : Part) (hP : T.parts = P ++ [q])
  (D : Nat → Prop) (hD : ∀ k, D k → ¬ F k ∧ k < w.heap.size) (pr : Prg) (c0 c1 c2 : Value) (hv : PrgVal w D pr c0 c1 c2) (j : Nat) (hj : j < pr.funcs.length) (hfj : q.fn = j) (pc : Nat) (hpc : q.pc = pc) (hpl : pc < pr.funcs[j].code.length) (ia ib ic : Int) (hi : pr.funcs[j].code[pc] = ⟨17, ia, ib, ic⟩)
  (T' : Tk) (v : Int) (SET : ∀ wr, Below w.heap.size w wr → Calls Tryz.prog 71 #[.agg (stepV c0 c1 c2 (.pointer none) tb 17 ia ib ic)] wr fun e w' => e = .returned (actV 0 0 0 0 0 false (.slice none 0 0)) ∧ TaskAt w' F tb p T' X ∧ Fr F wr w') :
  Calls Tryz.prog 35 #[.agg #[c0, c1, c2], .pointer (some ⟨tb, 0, none⟩), .int .i64 v] w fun e w' => e = .returned (.bool true) ∧ TaskAt w' F tb p T' X ∧ Fr F w w' := by
 have hv0 := hv
 obtain ⟨⟨a0, m0, rfl, _⟩, ⟨a1, m1, rfl, _⟩, a2, m2, rfl, hfn⟩ := hv
 have hb0 := ((Below.refl w.heap.size w).alloc (Nat.le_refl _) (.cells #[.slice a0 pr.globals.length m0, .slice a1 pr.shapes.length m1, .slice a2 pr.funcs.length m2] 27))
 have hr0 := heap_new w (.cells #[.slice a0 pr.globals.length m0, .slice a1 pr.shapes.length m1, .slice a2 pr.funcs.length m2] 27)
 obtain ⟨W, hW⟩ : ∃ W, W = (w.alloc (.cells #[.slice a0 pr.globals.length m0, .slice a1 pr.shapes.length m1, .slice a2 pr.funcs.length m2] 27)) := ⟨_, rfl⟩
 rw [← hW] at hb0 hr0
 have hT := h.below hb0
 have hl : T.parts.length = P.length + 1 := by rw [hP]; simp
 have e0 : (T.parts[P.length]'(by omega)) = q := by simp only [hP]; simp
 have nx := tkNext_any W F tb p T X hT hml
 have dp := depth_any W F tb p T X hT
 rw [hm] at nx
 rw [hl] at dp
 have hd0 : ((((P.length + 1 : Nat) : Int)) == 0) = false := by rw [beq_eq_false_iff_ne]; omega
 have fnc := fun wr (hw : Below w.heap.size w wr) => fn_some wr F tb p T X (h.below hw) hn P.length hl
 have pcc := fun wr (hw : Below w.heap.size w wr) => pc_some wr F tb p T X (h.below hw) hn P.length hl
 rw [e0, hfj] at fnc
 rw [e0, hpc] at pcc
 obtain ⟨bb, o, rfl, hdb, y0, y1, y2, y3, y4, g0, g1, g2, g3, g4, hfv⟩ := hfn j hj
 obtain ⟨_, _, _, _, ac, cc, rfl, hcode⟩ := hfv
 obtain ⟨cb, co, rfl, hdc, x0, x1, x2, x3⟩ := hcode pc hpl
 rw [hi] at x0 x1 x2 x3
 have hcs : ∀ wx, Below W.heap.size W wx → wx.cell? ⟨w.heap.size, 0, none⟩ = some (.slice a0 pr.globals.length m0) ∧ wx.cell? ⟨w.heap.size, 1, none⟩ = some (.slice a1 pr.shapes.length m1) ∧ wx.cell? ⟨w.heap.size, 2, none⟩ = some (.slice (some ⟨bb, o, none⟩) pr.funcs.length m2) ∧ wx.cell? ⟨bb, o + j * 5 + 4, none⟩ = some (.slice (some ⟨cb, co, none⟩) pr.funcs[j].code.length cc) ∧ wx.cell? ⟨cb, co + pc * 4, none⟩ = some (.int .i64 17) ∧ wx.cell? ⟨cb, co + pc * 4 + 1, none⟩ = some (.int .i64 ia) ∧ wx.cell? ⟨cb, co + pc * 4 + 2, none⟩ = some (.int .i64 ib) ∧ wx.cell? ⟨cb, co + pc * 4 + 3, none⟩ = some (.int .i64 ic) := fun wx hw => by
  have hk := (Fr.of_below hw (fun _ => False)).heap hr0 (fun h => h)
  have hw2 := hb0.trans (hw.mono hb0.size)
  exact ⟨(row_cell hk 0).1, (row_cell hk 1).1, (row_cell hk 2).1, below_cell hw2 g4, below_cell hw2 x0, below_cell hw2 x1, below_cell hw2 x2, below_cell hw2 x3⟩
 have hj0 : (0 : Int) ≤ (j : Int) := by omega
 have hj1 : (j : Int) < (pr.funcs.length : Int) := by omega
 have hp0 : (0 : Int) ≤ (pc : Int) := by omega
 have hp1 : (pc : Int) < (pr.funcs[j].code.length : Int) := by omega
 have HFLT := Lib.hid h.flt
 have HW := Lib.hid hW
 have HBW := Lib.hid hb0
 obtain ⟨k0, k1, k2, _⟩ := hcs W (Below.refl _ _)
 clear hb0 hW hT hl e0 h hn hm hml hP hfj hpc hi hv0 hfn g0 g1 g2 g3 g4 x0 x1 x2 x3 hdb hdc hD hpl
 generalize pr.funcs[j].code.length = cl at *
 generalize ((P.length + 1 : Nat) : Int) = dn at *
 have FNC := Lib.hid fnc; clear fnc
 have PCC := Lib.hid pcc; clear pcc
 have SETX := Lib.hid SET; clear SET
 have NX := Lib.hid nx; clear nx
 have DP := Lib.hid dp; clear dp
 have HR0 := Lib.hid hr0; clear hr0
 have HCS := Lib.hid hcs; clear hcs
 unfold stepV at SETX
 go_enter Tryz.func35, Tryz.ntmps35
 go_upto_region 1 with fail
 rw [← HW.out]
 go_wp2_with fail
 refine DP.out.mono ?_
 rintro e w3 ⟨rfl, rfl⟩
 go_wp2_with fail
 refine NX.out.mono ?_
 rintro e w3 ⟨rfl, hb3⟩
 have HB3 := Lib.hid hb3
 have hSd := HCS.out _ hb3.drew
 clear hb3 k0 k1 k2
 obtain ⟨k0, k1, k2, _⟩ := HCS.out _ HB3.out
 go_upto_region 3 with fail
 go_cut [7] (fun x wx => ∃ z : Nat, x = .pointer (some ⟨z, 0, none⟩) ∧ wx.heap[z]? = some (.cells #[.int .i64 17, .int .i64 ia, .int .i64 ib, .int .i64 ic] 59) ∧ w3.heap.size ≤ z ∧ Below w3.heap.size w3 wx)
 case first =>
  clear k0 k1 k2
  have HCB := Lib.hid (fun wx (hx : Below w3.heap.size w3 wx) => HCS.out wx (HB3.out.trans (hx.mono HB3.out.size)))
  have hto := fun wx (hx : Below w3.heap.size w3 wx) => HBW.out.trans ((HB3.out.trans (hx.mono HB3.out.size)).mono HBW.out.size)
  have fnc := fun wx (hx : Below w3.heap.size w3 wx) => (FNC.out wx (hto wx hx)).mono (fun e w' he => (show e = .returned (.int .i64 j) ∧ Below wx.heap.size wx w' from ⟨he.1, by obtain ⟨m, hm⟩ := he.2; rw [hm]; exact below_drewN (Below.refl _ _) m⟩))
  have pcc := fun wx (hx : Below w3.heap.size w3 wx) => (PCC.out wx (hto wx hx)).mono (fun e w' he => (show e = .returned (.int .i64 pc) ∧ Below wx.heap.size wx w' from ⟨he.1, by obtain ⟨m, hm⟩ := he.2; rw [hm]; exact below_drewN (Below.refl _ _) m⟩))
  clear hto hSd
  have FNC := Lib.hid fnc; clear fnc
  have PCC := Lib.hid pcc; clear pcc
  refine wp_region_noPanic ?_
  refine wp_region_held_drew (S := fun w' => Below w3.heap.size w3 w') (by kernel_rfl) (Below.refl _ _).drew (fun _ => ?_)
  have HR1 := Lib.hid (Below.refl w3.heap.size w3).drew
  generalize w3.drew = r1 at *
  refine wpAnyH_take (i := 0) (v := ?_) rfl (by kernel_rfl) (by kernel_rfl) (by kernel_rfl) (fun _ _ _ h => h) (Or.inl ⟨by rfl, ?tq1⟩) HR1.out ?_
  case tq1 => (intro wq hq; obtain ⟨f0, f1, f2, f3, f4, f5, f6, f7⟩ := HCB.out wq hq; go_simp; first | done | with_reducible rfl)
  refine wpAnyH_take (i := 1) (v := ?_) rfl (by kernel_rfl) (by kernel_rfl) (by kernel_rfl) (fun _ _ _ h => h) (Or.inl ⟨by rfl, ?tq2⟩) HR1.out ?_
  case tq2 => (intro wq hq; obtain ⟨f0, f1, f2, f3, f4, f5, f6, f7⟩ := HCB.out wq hq; go_simp; first | done | with_reducible rfl)
  refine wpAnyH_take (i := 2) (v := ?_) rfl (by kernel_rfl) (by kernel_rfl) (by kernel_rfl) (fun _ _ _ h => h) (Or.inl ⟨by rfl, ?tq3⟩) HR1.out ?_
  case tq3 => (intro wq hq; obtain ⟨f0, f1, f2, f3, f4, f5, f6, f7⟩ := HCB.out wq hq; go_simp; first | done | with_reducible rfl)
  refine wpAnyH_take (i := 7) (v := ?_) rfl (by kernel_rfl) (by kernel_rfl) (by kernel_rfl) (fun _ _ _ h => h) (Or.inl ⟨by rfl, ?tq4⟩) HR1.out ?_
  case tq4 => (intro wq hq; obtain ⟨f0, f1, f2, f3, f4, f5, f6, f7⟩ := HCB.out wq hq; go_simp; first | done | with_reducible rfl)
  refine wpAnyH_ready (rs := [3, 11]) (by kernel_rfl) (by simp) ?_
  refine (AllReadyH.cons rfl (fun K hK => ?_) (AllReadyH.cons rfl (fun K hK => ?_) AllReadyH.nil))
  ·skip
   go_simp
   go_at_call 38
   refine (FNC.out r1 HR1.out).mono ?_
   rintro e r2 ⟨rfl, hb⟩
   have HR2 := Lib.hid (HR1.out.trans (hb.mono HR1.out.size))
   clear hb
   refine hK.out _ _ HR2.out (fun _ => ?_)
   clear hK K
   refine wpAnyH_take (i := 4) (v := ?_) rfl (by kernel_rfl) (by kernel_rfl) (by kernel_rfl) (fun _ _ _ h => h) (Or.inl ⟨by rfl, ?tq5⟩) HR2.out ?_
   case tq5 => (intro wq hq; obtain ⟨f0, f1, f2, f3, f4, f5, f6, f7⟩ := HCB.out wq hq; go_simp; first | done | with_reducible rfl)
   refine wpAnyH_take (i := 5) (v := ?_) rfl (by kernel_rfl) (by kernel_rfl) (by kernel_rfl) (fun _ _ _ h => h) (Or.inl ⟨by rfl, ?tq6⟩) HR2.out ?_
   case tq6 => (intro wq hq; obtain ⟨f0, f1, f2, f3, f4, f5, f6, f7⟩ := HCB.out wq hq; go_simp; first | done | with_reducible rfl)
   refine wpAnyH_take (i := 6) (v := ?_) rfl (by kernel_rfl) (by kernel_rfl) (by kernel_rfl) (fun _ _ _ h => h) (Or.inl ⟨by rfl, ?tq7⟩) HR2.out ?_
   case tq7 => (intro wq hq; obtain ⟨f0, f1, f2, f3, f4, f5, f6, f7⟩ := HCB.out wq hq; go_simp; first | done | with_reducible rfl)
   refine wpAnyH_ready (rs := [8, 11]) (by kernel_rfl) (by simp) ?_
   refine (AllReadyH.cons rfl (fun K hK => ?_) (AllReadyH.cons rfl (fun K hK => ?_) AllReadyH.nil))
   ·skip
    go_simp
    go_at_call 31
    refine (PCC.out r2 HR2.out).mono ?_
    rintro e r3 ⟨rfl, hb⟩
    have HR3 := Lib.hid (HR2.out.trans (hb.mono HR2.out.size))
    clear hb
    refine hK.out _ _ HR3.out (fun _ => ?_)
    clear hK K
    refine wpAnyH_take (i := 9) (v := ?_) rfl (by kernel_rfl) (by kernel_rfl) (by kernel_rfl) (fun _ _ _ h => h) (Or.inl ⟨by rfl, ?tq8⟩) HR3.out ?_
    case tq8 => (intro wq hq; obtain ⟨f0, f1, f2, f3, f4, f5, f6, f7⟩ := HCB.out wq hq; go_simp; first | done | with_reducible rfl)
    refine wpAnyH_take (i := 10) (v := ?_) rfl (by kernel_rfl) (by kernel_rfl) (by kernel_rfl) (fun _ _ _ h => h) (Or.inl ⟨by rfl, ?tq9⟩) HR3.out ?_
    case tq9 => (intro wq hq; obtain ⟨f0, f1, f2, f3, f4, f5, f6, f7⟩ := HCB.out wq hq; go_simp; first | done | with_reducible rfl)
    refine wpAnyH_ready (rs := [11]) (by kernel_rfl) (by simp) ?_
    refine (AllReadyH.cons rfl (fun K hK => ?_) AllReadyH.nil)
    ·skip
     go_simp
     obtain ⟨r4, hr⟩ : ∃ r, r = r3.alloc (.cells #[.int .i64 0, .int .i64 0, .int .i64 0, .int .i64 0] 59) := ⟨_, rfl⟩
     obtain ⟨y, hy⟩ : ∃ y, y = r3.heap.size := ⟨_, rfl⟩
     have hl : r4.heap[y]? = some (.cells #[.int .i64 0, .int .i64 0, .int .i64 0, .int .i64 0] 59) := by rw [hr, hy]; exact heap_new _ _
     have hb : Below r3.heap.size r3 r4 := by rw [hr]; exact (Below.refl _ _).alloc (Nat.le_refl _) _
     rw [← hr, ← hy]
     have hyW : w3.heap.size ≤ y := by have := HR3.out.size; omega
     have HR4 := Lib.hid (HR3.out.trans (hb.mono HR3.out.size))
     have HY := Lib.hid hl
     clear hl hb hr hy
     refine hK.out _ _ HR4.out (fun _ => ?_)
     clear hK K
     refine wpAnyH_ready (rs := [12]) (by kernel_rfl) (by simp) ?_
     refine (AllReadyH.cons rfl (fun K hK => ?_) AllReadyH.nil)
     have k0 := (row_cell HY.out 0).1
     have g0 := (row_cell HY.out 0).2
     have k1 := (row_cell HY.out 1).1
     have g1 := (row_cell HY.out 1).2
     have k2 := (row_cell HY.out 2).1
     have g2 := (row_cell HY.out 2).2
     have k3 := (row_cell HY.out 3).1
     have g3 := (row_cell HY.out 3).2
     simp only [List.getElem?_toArray, List.getElem?_cons_zero, List.getElem?_cons_succ] at k0 k1 k2 k3
     go_simp
     clear k0 k1 k2 k3 g0 g1 g2 g3
     have hl := (row_set (row_set (row_set (row_set HY.out 0 (.int .i64 17)) 1 (.int .i64 ia)) 2 (.int .i64 ib)) 3 (.int .i64 ic))
     simp only [List.setIfInBounds_toArray, List.set_cons_zero, List.set_cons_succ] at hl
     have hf : Fr (fun k => k = y) r4 _ := (((((Fr.refl (fun k => k = y) r4).setCell (p := ⟨y, 0, none⟩) (fun _ => rfl) (.int .i64 17)).setCell (p := ⟨y, 1, none⟩) (fun _ => rfl) (.int .i64 ia)).setCell (p := ⟨y, 2, none⟩) (fun _ => rfl) (.int .i64 ib)).setCell (p := ⟨y, 3, none⟩) (fun _ => rfl) (.int .i64 ic))
     generalize (((r4.setCell ⟨y, 0, none⟩ (.int .i64 17)).setCell ⟨y, 1, none⟩ (.int .i64 ia)).setCell ⟨y, 2, none⟩ (.int .i64 ib)).setCell ⟨y, 3, none⟩ (.int .i64 ic) = r5 at *
     have HR5 := Lib.hid (HR4.out.trans (hf.below HR4.out.size (fun k hk => by have e : k = y := hk; omega)))
     have HY := Lib.hid hl
     clear hl hf
     refine hK.out _ _ HR5.out (fun _ => ?_)
     clear hK K
     refine wpAnyH_done (by kernel_rfl) ?_ _
     refine NoPanic.normal ?_
     go_wp2_with fail
     go_meet
     case rel => exact ⟨y, rfl, HY.out, hyW, HR5.out⟩
   ·skip
    go_simp
    obtain ⟨r3, hr⟩ : ∃ r, r = r2.alloc (.cells #[.int .i64 0, .int .i64 0, .int .i64 0, .int .i64 0] 59) := ⟨_, rfl⟩
    obtain ⟨y, hy⟩ : ∃ y, y = r2.heap.size := ⟨_, rfl⟩
    have hl : r3.heap[y]? = some (.cells #[.int .i64 0, .int .i64 0, .int .i64 0, .int .i64 0] 59) := by rw [hr, hy]; exact heap_new _ _
    have hb : Below r2.heap.size r2 r3 := by rw [hr]; exact (Below.refl _ _).alloc (Nat.le_refl _) _
    rw [← hr, ← hy]
    have hyW : w3.heap.size ≤ y := by have := HR2.out.size; omega
    have HR3 := Lib.hid (HR2.out.trans (hb.mono HR2.out.size))
    have HY := Lib.hid hl
    clear hl hb hr hy
    refine hK.out _ _ HR3.out (fun _ => ?_)
    clear hK K
    refine wpAnyH_ready (rs := [8]) (by kernel_rfl) (by simp) ?_
    refine (AllReadyH.cons rfl (fun K hK => ?_) AllReadyH.nil)
    ·skip
     go_simp
     go_at_call 31
     refine (PCC.out r3 HR3.out).mono ?_
     rintro e r4 ⟨rfl, hb⟩
     have HR4 := Lib.hid (HR3.out.trans (hb.mono HR3.out.size))
     have HY := Lib.hid ((Fr.of_below hb (fun _ => False)).heap HY.out (fun h => h))
     clear hb
     refine hK.out _ _ HR4.out (fun _ => ?_)
     clear hK K
     refine wpAnyH_take (i := 9) (v := ?_) rfl (by kernel_rfl) (by kernel_rfl) (by kernel_rfl) (fun _ _ _ h => h) (Or.inl ⟨by rfl, ?tq10⟩) HR4.out ?_
     case tq10 => (intro wq hq; obtain ⟨f0, f1, f2, f3, f4, f5, f6, f7⟩ := HCB.out wq hq; go_simp; first | done | with_reducible rfl)
     refine wpAnyH_take (i := 10) (v := ?_) rfl (by kernel_rfl) (by kernel_rfl) (by kernel_rfl) (fun _ _ _ h => h) (Or.inl ⟨by rfl, ?tq11⟩) HR4.out ?_
     case tq11 => (intro wq hq; obtain ⟨f0, f1, f2, f3, f4, f5, f6, f7⟩ := HCB.out wq hq; go_simp; first | done | with_reducible rfl)
     refine wpAnyH_ready (rs := [12]) (by kernel_rfl) (by simp) ?_
     refine (AllReadyH.cons rfl (fun K hK => ?_) AllReadyH.nil)
     have k0 := (row_cell HY.out 0).1
     have g0 := (row_cell HY.out 0).2
     have k1 := (row_cell HY.out 1).1
     have g1 := (row_cell HY.out 1).2
     have k2 := (row_cell HY.out 2).1
     have g2 := (row_cell HY.out 2).2
     have k3 := (row_cell HY.out 3).1
     have g3 := (row_cell HY.out 3).2
     simp only [List.getElem?_toArray, List.getElem?_cons_zero, List.getElem?_cons_succ] at k0 k1 k2 k3
     go_simp
     clear k0 k1 k2 k3 g0 g1 g2 g3
     have hl := (row_set (row_set (row_set (row_set HY.out 0 (.int .i64 17)) 1 (.int .i64 ia)) 2 (.int .i64 ib)) 3 (.int .i64 ic))
     simp only [List.setIfInBounds_toArray, List.set_cons_zero, List.set_cons_succ] at hl
     have hf : Fr (fun k => k = y) r4 _ := (((((Fr.refl (fun k => k = y) r4).setCell (p := ⟨y, 0, none⟩) (fun _ => rfl) (.int .i64 17)).setCell (p := ⟨y, 1, none⟩) (fun _ => rfl) (.int .i64 ia)).setCell (p := ⟨y, 2, none⟩) (fun _ => rfl) (.int .i64 ib)).setCell (p := ⟨y, 3, none⟩) (fun _ => rfl) (.int .i64 ic))
     generalize (((r4.setCell ⟨y, 0, none⟩ (.int .i64 17)).setCell ⟨y, 1, none⟩ (.int .i64 ia)).setCell ⟨y, 2, none⟩ (.int .i64 ib)).setCell ⟨y, 3, none⟩ (.int .i64 ic) = r5 at *
     have HR5 := Lib.hid (HR4.out.trans (hf.below HR4.out.size (fun k hk => by have e : k = y := hk; omega)))
     have HY := Lib.hid hl
     clear hl hf
     refine hK.out _ _ HR5.out (fun _ => ?_)
     clear hK K
     refine wpAnyH_done (by kernel_rfl) ?_ _
     refine NoPanic.normal ?_
     go_wp2_with fail
     go_meet
     case rel => exact ⟨y, rfl, HY.out, hyW, HR5.out⟩
  ·skip
   go_simp
   obtain ⟨r2, hr⟩ : ∃ r, r = r1.alloc (.cells #[.int .i64 0, .int .i64 0, .int .i64 0, .int .i64 0] 59) := ⟨_, rfl⟩
   obtain ⟨y, hy⟩ : ∃ y, y = r1.heap.size := ⟨_, rfl⟩
   have hl : r2.heap[y]? = some (.cells #[.int .i64 0, .int .i64 0, .int .i64 0, .int .i64 0] 59) := by rw [hr, hy]; exact heap_new _ _
   have hb : Below r1.heap.size r1 r2 := by rw [hr]; exact (Below.refl _ _).alloc (Nat.le_refl _) _
   rw [← hr, ← hy]
   have hyW : w3.heap.size ≤ y := by have := HR1.out.size; omega
   have HR2 := Lib.hid (HR1.out.trans (hb.mono HR1.out.size))
   have HY := Lib.hid hl
   clear hl hb hr hy
   refine hK.out _ _ HR2.out (fun _ => ?_)
   clear hK K
   refine wpAnyH_ready (rs := [3]) (by kernel_rfl) (by simp) ?_
   refine (AllReadyH.cons rfl (fun K hK => ?_) AllReadyH.nil)
   ·skip
    go_simp
    go_at_call 38
    refine (FNC.out r2 HR2.out).mono ?_
    rintro e r3 ⟨rfl, hb⟩
    have HR3 := Lib.hid (HR2.out.trans (hb.mono HR2.out.size))
    have HY := Lib.hid ((Fr.of_below hb (fun _ => False)).heap HY.out (fun h => h))
    clear hb
    refine hK.out _ _ HR3.out (fun _ => ?_)
    clear hK K
    refine wpAnyH_take (i := 4) (v := ?_) rfl (by kernel_rfl) (by kernel_rfl) (by kernel_rfl) (fun _ _ _ h => h) (Or.inl ⟨by rfl, ?tq12⟩) HR3.out ?_
    case tq12 => (intro wq hq; obtain ⟨f0, f1, f2, f3, f4, f5, f6, f7⟩ := HCB.out wq hq; go_simp; first | done | with_reducible rfl)
    refine wpAnyH_take (i := 5) (v := ?_) rfl (by kernel_rfl) (by kernel_rfl) (by kernel_rfl) (fun _ _ _ h => h) (Or.inl ⟨by rfl, ?tq13⟩) HR3.out ?_
    case tq13 => (intro wq hq; obtain ⟨f0, f1, f2, f3, f4, f5, f6, f7⟩ := HCB.out wq hq; go_simp; first | done | with_reducible rfl)
    refine wpAnyH_take (i := 6) (v := ?_) rfl (by kernel_rfl) (by kernel_rfl) (by kernel_rfl) (fun _ _ _ h => h) (Or.inl ⟨by rfl, ?tq14⟩) HR3.out ?_
    case tq14 => (intro wq hq; obtain ⟨f0, f1, f2, f3, f4, f5, f6, f7⟩ := HCB.out wq hq; go_simp; first | done | with_reducible rfl)
    refine wpAnyH_ready (rs := [8]) (by kernel_rfl) (by simp) ?_
    refine (AllReadyH.cons rfl (fun K hK => ?_) AllReadyH.nil)
    ·skip
     go_simp
     go_at_call 31
     refine (PCC.out r3 HR3.out).mono ?_
     rintro e r4 ⟨rfl, hb⟩
     have HR4 := Lib.hid (HR3.out.trans (hb.mono HR3.out.size))
     have HY := Lib.hid ((Fr.of_below hb (fun _ => False)).heap HY.out (fun h => h))
     clear hb
     refine hK.out _ _ HR4.out (fun _ => ?_)
     clear hK K
     refine wpAnyH_take (i := 9) (v := ?_) rfl (by kernel_rfl) (by kernel_rfl) (by kernel_rfl) (fun _ _ _ h => h) (Or.inl ⟨by rfl, ?tq15⟩) HR4.out ?_
     case tq15 => (intro wq hq; obtain ⟨f0, f1, f2, f3, f4, f5, f6, f7⟩ := HCB.out wq hq; go_simp; first | done | with_reducible rfl)
     refine wpAnyH_take (i := 10) (v := ?_) rfl (by kernel_rfl) (by kernel_rfl) (by kernel_rfl) (fun _ _ _ h => h) (Or.inl ⟨by rfl, ?tq16⟩) HR4.out ?_
     case tq16 => (intro wq hq; obtain ⟨f0, f1, f2, f3, f4, f5, f6, f7⟩ := HCB.out wq hq; go_simp; first | done | with_reducible rfl)
     refine wpAnyH_ready (rs := [12]) (by kernel_rfl) (by simp) ?_
     refine (AllReadyH.cons rfl (fun K hK => ?_) AllReadyH.nil)
     have k0 := (row_cell HY.out 0).1
     have g0 := (row_cell HY.out 0).2
     have k1 := (row_cell HY.out 1).1
     have g1 := (row_cell HY.out 1).2
     have k2 := (row_cell HY.out 2).1
     have g2 := (row_cell HY.out 2).2
     have k3 := (row_cell HY.out 3).1
     have g3 := (row_cell HY.out 3).2
     simp only [List.getElem?_toArray, List.getElem?_cons_zero, List.getElem?_cons_succ] at k0 k1 k2 k3
     go_simp
     clear k0 k1 k2 k3 g0 g1 g2 g3
     have hl := (row_set (row_set (row_set (row_set HY.out 0 (.int .i64 17)) 1 (.int .i64 ia)) 2 (.int .i64 ib)) 3 (.int .i64 ic))
     simp only [List.setIfInBounds_toArray, List.set_cons_zero, List.set_cons_succ] at hl
     have hf : Fr (fun k => k = y) r4 _ := (((((Fr.refl (fun k => k = y) r4).setCell (p := ⟨y, 0, none⟩) (fun _ => rfl) (.int .i64 17)).setCell (p := ⟨y, 1, none⟩) (fun _ => rfl) (.int .i64 ia)).setCell (p := ⟨y, 2, none⟩) (fun _ => rfl) (.int .i64 ib)).setCell (p := ⟨y, 3, none⟩) (fun _ => rfl) (.int .i64 ic))
     generalize (((r4.setCell ⟨y, 0, none⟩ (.int .i64 17)).setCell ⟨y, 1, none⟩ (.int .i64 ia)).setCell ⟨y, 2, none⟩ (.int .i64 ib)).setCell ⟨y, 3, none⟩ (.int .i64 ic) = r5 at *
     have HR5 := Lib.hid (HR4.out.trans (hf.below HR4.out.size (fun k hk => by have e : k = y := hk; omega)))
     have HY := Lib.hid hl
     clear hl hf
     refine hK.out _ _ HR5.out (fun _ => ?_)
     clear hK K
     refine wpAnyH_done (by kernel_rfl) ?_ _
     refine NoPanic.normal ?_
     go_wp2_with fail
     go_meet
     case rel => exact ⟨y, rfl, HY.out, hyW, HR5.out⟩
 case rest =>
  obtain ⟨z, rfl, hz, hzl, hR⟩ := hcut
  have hbc := HB3.out.trans (hR.mono HB3.out.size)
  obtain ⟨k0, k1, k2, _⟩ := HCS.out _ hbc
  have z0 : wc.cell? ⟨z, 0, none⟩ = some (.int .i64 17) := (row_cell hz 0).1
  have z1 : wc.cell? ⟨z, 1, none⟩ = some (.int .i64 ia) := (row_cell hz 1).1
  have z2 : wc.cell? ⟨z, 2, none⟩ = some (.int .i64 ib) := (row_cell hz 2).1
  have z3 : wc.cell? ⟨z, 3, none⟩ = some (.int .i64 ic) := (row_cell hz 3).1
  have ha := (Below.refl wc.heap.size wc).alloc (Nat.le_refl _) (.cells #[.slice a0 pr.globals.length m0, .slice a1 pr.shapes.length m1, .slice (some ⟨bb, o, none⟩) pr.funcs.length m2, .pointer none, .pointer (some ⟨tb, 0, none⟩), .int .i64 17, .int .i64 ia, .int .i64 ib, .int .i64 ic] 124)
  have hra := heap_new wc (.cells #[.slice a0 pr.globals.length m0, .slice a1 pr.shapes.length m1, .slice (some ⟨bb, o, none⟩) pr.funcs.length m2, .pointer none, .pointer (some ⟨tb, 0, none⟩), .int .i64 17, .int .i64 ia, .int .i64 ib, .int .i64 ic] 124)
  obtain ⟨V, hV⟩ : ∃ V, V = wc.alloc (.cells #[.slice a0 pr.globals.length m0, .slice a1 pr.shapes.length m1, .slice (some ⟨bb, o, none⟩) pr.funcs.length m2, .pointer none, .pointer (some ⟨tb, 0, none⟩), .int .i64 17, .int .i64 ia, .int .i64 ib, .int .i64 ic] 124) := ⟨_, rfl⟩
  obtain ⟨y, hy⟩ : ∃ y, y = wc.heap.size := ⟨_, rfl⟩
  rw [← hV] at ha hra
  rw [← hy] at hra
  have hz' := (Fr.of_below ha (fun _ => False)).heap hz (fun h => h)
  have HVB := Lib.hid (hbc.trans (ha.mono hbc.size))
  have HV := Lib.hid hV
  have HY := Lib.hid hy
  have HZ := Lib.hid hz'
  have HRA := Lib.hid hra
  clear hz hR hbc hV hy hz' hra ha hzl hSd
  go_upto_region 5 with fail
  rw [← HV.out, ← HY.out]
  clear z0 z1 z2 z3 k0 k1 k2
  have z0 : V.cell? ⟨z, 0, none⟩ = some (.int .i64 17) := (row_cell HZ.out 0).1
  have z1 : V.cell? ⟨z, 1, none⟩ = some (.int .i64 ia) := (row_cell HZ.out 1).1
  have y0 : V.cell? ⟨y, 0, none⟩ = some (.slice a0 pr.globals.length m0) := (row_cell HRA.out 0).1
  have y1 : V.cell? ⟨y, 1, none⟩ = some (.slice a1 pr.shapes.length m1) := (row_cell HRA.out 1).1
  have y2 : V.cell? ⟨y, 2, none⟩ = some (.slice (some ⟨bb, o, none⟩) pr.funcs.length m2) := (row_cell HRA.out 2).1
  have y3 : V.cell? ⟨y, 3, none⟩ = some (.pointer none) := (row_cell HRA.out 3).1
  have y4 : V.cell? ⟨y, 4, none⟩ = some (.pointer (some ⟨tb, 0, none⟩)) := (row_cell HRA.out 4).1
  have y5 : V.cell? ⟨y, 5, none⟩ = some (.int .i64 17) := (row_cell HRA.out 5).1
  have y6 : V.cell? ⟨y, 6, none⟩ = some (.int .i64 ia) := (row_cell HRA.out 6).1
  have y7 : V.cell? ⟨y, 7, none⟩ = some (.int .i64 ib) := (row_cell HRA.out 7).1
  have y8 : V.cell? ⟨y, 8, none⟩ = some (.int .i64 ic) := (row_cell HRA.out 8).1
  have hbV := HBW.out.trans (HVB.out.mono HBW.out.size)
  have HBV := Lib.hid hbV
  clear hbV
  go_wp2_with fail
  refine (SETX.out V HBV.out).mono ?_
  rintro e w9 ⟨rfl, hT9, hf9⟩
  have hf := (Fr.of_below HBV.out F).trans hf9 (fun _ _ h => h)
  clear z0 z1 y0 y1 y2 y3 y4 y5 y6 y7 y8 hf9
  have HT9 := Lib.hid hT9; clear hT9
  have HF := Lib.hid hf; clear hf
  go_wp2_with fail
  go_ret
  exact ⟨rfl, HT9.out, HF.out⟩
end Go.Proofs.YthkhgihjigmkoaaGreat.Tk
