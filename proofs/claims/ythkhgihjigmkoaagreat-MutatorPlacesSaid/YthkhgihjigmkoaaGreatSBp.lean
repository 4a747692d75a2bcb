/- Walks: what asks, local, calls do is what a step's run does. Walk: TaskNeeds, behind its first call. Walks: a program of one function is begun; If, Jump of its task. -/
import Derived.Test.YthkhgihjigmkoaaGreatSAq
import Derived.Test.YthkhgihjigmkoaaGreatSBo
import Derived.Test.YthkhgihjigmkoaaGreatSAo
import Derived.Test.YthkhgihjigmkoaaGreatSAa
set_option linter.unusedVariables false
set_option linter.unusedSimpArgs false
namespace Go.Proofs.YthkhgihjigmkoaaGreat.Tk
open Go.ChangeShapes Go.WideShapes Go.ChangeAt Go.RowKit Go.Maps
set_option maxRecDepth 100000 in
set_option maxHeartbeats 3200000 in
theorem run_18 (w : World) (F : Nat → Prop) (tb : Nat) (p : TPrg) (T : Tk) (X : TB) (h : TaskAt w F tb p T X) (c0 c1 c2 mp : Value) (ia ib ic : Int) (T' : Tk) (k a f v fn : Int) (bb : Bool) (r0 : Option Addr) (r1 r2 : Nat)
    (ASK : ∀ wr, Below w.heap.size w wr → Calls Tryz.prog 99 #[.agg (stepV c0 c1 c2 mp tb 18 ia ib ic)] wr (RunPost wr F tb p X T' (actV k a f v fn bb (.slice r0 r1 r2)))) :
    Calls Tryz.prog 69 #[.agg (stepV c0 c1 c2 mp tb 18 ia ib ic)] w (RunPost w F tb p X T' (actV k a f v fn bb (.slice r0 r1 r2))) := by
  have ASKX := Lib.hid ASK; clear ASK
  unfold stepV at ASKX
  have hb0 := ((Below.refl w.heap.size w).alloc (Nat.le_refl _) (.cells (stepV c0 c1 c2 mp tb 18 ia ib ic) 124))
  have hb1 := hb0.alloc hb0.size act0
  have hr0 := row_alloc (heap_new w (.cells (stepV c0 c1 c2 mp tb 18 ia ib ic) 124)) act0
  have hr1 := heap_new (w.alloc (.cells (stepV c0 c1 c2 mp tb 18 ia ib ic) 124)) act0
  rw [show (w.alloc (.cells (stepV c0 c1 c2 mp tb 18 ia ib ic) 124)).heap.size = w.heap.size + 1 from by simp] at hr1
  obtain ⟨W, hW⟩ : ∃ W, W = (w.alloc (.cells (stepV c0 c1 c2 mp tb 18 ia ib ic) 124)).alloc act0 := ⟨_, rfl⟩
  rw [← hW] at hb1 hr0 hr1
  have HFLT := Lib.hid h.flt
  have HOUT := Lib.hid (fun k (hk : X.D k) => (h.out k hk).2)
  have hwz : W.heap.size = w.heap.size + 2 := by rw [hW]; simp
  unfold act0 at hW hr1
  unfold stepV at hW hr0
  have HW := Lib.hid hW
  have k4 : W.cell? ⟨w.heap.size, 4, none⟩ = some (.pointer (some ⟨tb, 0, none⟩)) := (row_cell hr0 4).1
  have k5 : W.cell? ⟨w.heap.size, 5, none⟩ = some (.int .i64 18) := (row_cell hr0 5).1
  have k6 : W.cell? ⟨w.heap.size, 6, none⟩ = some (.int .i64 ia) := (row_cell hr0 6).1
  have k7 : W.cell? ⟨w.heap.size, 7, none⟩ = some (.int .i64 ib) := (row_cell hr0 7).1
  have k8 : W.cell? ⟨w.heap.size, 8, none⟩ = some (.int .i64 ic) := (row_cell hr0 8).1
  have HRR := Lib.hid (Below.refl W.heap.size W)
  clear hb0 hW
  have HB1 := Lib.hid hb1; clear hb1
  have HR1 := Lib.hid hr1; clear hr1
  have HR0 := Lib.hid hr0; clear hr0
  have HWZ := Lib.hid hwz; clear hwz
  unfold stepV
  go_enter Tryz.func69, Tryz.ntmps69
  go_upto_region 1 with fail
  rw [← HW.out]
  go_cut [3, 4] (fun x y wx => ∃ z : Nat, x = .pointer (some ⟨z, 0, none⟩) ∧ y = .pointer (some ⟨tb, 0, none⟩) ∧ wx.heap[z]? = some (.cells #[.int .i64 18, .int .i64 ia, .int .i64 ib, .int .i64 ic] 59) ∧ w.heap.size + 2 ≤ z ∧ Below W.heap.size W wx)
  case first =>
    have bs := World.block_lt k4
    dsimp only at bs
    go_region
    all_goals
      go_wp2_with fail
      go_meet
      case rel => exact ⟨_, rfl, rfl, heap_new _ _, by have := HWZ.out; omega, (HRR.out.drew).alloc (HRR.out.size) _⟩
  case rest =>
    obtain ⟨z, rfl, rfl, hz, hzl, hR⟩ := hcut
    have hbc := HB1.out.trans (hR.mono HB1.out.size)
    have hrb := (Fr.of_below hR (fun _ => False)).heap HR0.out (fun h => h)
    have hrc := (Fr.of_below hR (fun _ => False)).heap HR1.out (fun h => h)
    have HBC := Lib.hid hbc
    have HSZ := Lib.hid (show w.heap.size + 2 ≤ wc.heap.size from by have := hR.size; have := HWZ.out; omega)
    have HRW := Lib.hid (fun wx (hw : Below wc.heap.size wc wx) => (Fr.of_below hw (fun _ => False)).heap hrc (fun h => h))
    have HSS := Lib.hid (show ∀ wx, Below wc.heap.size wc wx → wx.cell? ⟨w.heap.size, 0, none⟩ = some (c0) ∧ wx.cell? ⟨w.heap.size, 1, none⟩ = some (c1) ∧ wx.cell? ⟨w.heap.size, 2, none⟩ = some (c2) ∧ wx.cell? ⟨w.heap.size, 3, none⟩ = some (mp) ∧ wx.cell? ⟨w.heap.size, 4, none⟩ = some (.pointer (some ⟨tb, 0, none⟩)) ∧ wx.cell? ⟨w.heap.size, 5, none⟩ = some (.int .i64 18) ∧ wx.cell? ⟨w.heap.size, 6, none⟩ = some (.int .i64 ia) ∧ wx.cell? ⟨w.heap.size, 7, none⟩ = some (.int .i64 ib) ∧ wx.cell? ⟨w.heap.size, 8, none⟩ = some (.int .i64 ic) ∧ wx.cell? ⟨z, 0, none⟩ = some (.int .i64 18) ∧ wx.cell? ⟨z, 1, none⟩ = some (.int .i64 ia) ∧ wx.cell? ⟨z, 2, none⟩ = some (.int .i64 ib) ∧ wx.cell? ⟨z, 3, none⟩ = some (.int .i64 ic) from fun wx hw => by
      have g1 := (Fr.of_below hw (fun _ => False)).heap hrb (fun h => h)
      have g2 := (Fr.of_below hw (fun _ => False)).heap hz (fun h => h)
      exact ⟨(row_cell g1 0).1, (row_cell g1 1).1, (row_cell g1 2).1, (row_cell g1 3).1, (row_cell g1 4).1, (row_cell g1 5).1, (row_cell g1 6).1, (row_cell g1 7).1, (row_cell g1 8).1, (row_cell g2 0).1, (row_cell g2 1).1, (row_cell g2 2).1, (row_cell g2 3).1⟩)
    have hSd := HSS.out wc.drew (Below.refl wc.heap.size wc).drew
    have HRC := Lib.hid (Below.refl wc.heap.size wc)
    have HRD := Lib.hid (Below.refl wc.heap.size wc).drew
    have z0 : wc.cell? ⟨z, 0, none⟩ = some (.int .i64 18) := (row_cell hz 0).1
    clear hR hrb hrc hz k4 k5 k6 k7 k8 hbc
    obtain ⟨y0, y1, y2, y3, y4, y5, y6, y7, y8, _, _, _, _⟩ := HSS.out _ HRC.out
    clear hSd
    go_upto_region 22 with fail
    go_wp2_with fail
    refine (ASKX.out _ HBC.out).mono ?_
    rintro e w5 ⟨rfl, F', X', hT5, hXD, hF', hf5⟩
    have HWD := HRC
    clear y0 y1 y2 y3 y4 y5 y6 y7 y8 z0
    have hsz5 : w.heap.size + 2 ≤ wc.heap.size := by have := HSZ.out; omega
    have hr5 := hf5.heap (HRW.out _ HWD.out) (fun e => by have := HFLT.out (w.heap.size + 1) e; omega)
    obtain ⟨⟨u0, u1, u2, u3, u4, u5, u6⟩, n0, n1, n2, n3, n4, n5, n6⟩ := seven_cells hr5
    have hfs := seven_fr w5 (.int .i64 k) (.int .i64 a) (.int .i64 f) (.int .i64 v) (.int .i64 fn) (.bool bb) (.slice r0 r1 r2) (w.heap.size + 1)
    have hrs := seven_row hr5 (.int .i64 k) (.int .i64 a) (.int .i64 f) (.int .i64 v) (.int .i64 fn) (.bool bb) (.slice r0 r1 r2)
    have hFz : ∀ q, F' q → q ≠ w.heap.size + 1 := fun q hq e => by
      rcases hF' q hq with h1 | h1
      · have := HFLT.out q h1; omega
      · have := HWD.out.size; omega
    have hT6 := hT5.fr hfs (fun q hq e => hFz q hq e) (fun q hq e => by rw [hXD] at hq; have := HOUT.out q hq; have e : q = w.heap.size + 1 := e; omega)
    have hfw := (Fr.of_below (HBC.out.trans (HWD.out.mono HBC.out.size)) F).trans hf5 (fun _ _ h => h)
    have hf6 := hfw.trans hfs (fun q hq e => by have e : q = w.heap.size + 1 := e; omega)
    have hF6 : ∀ q, F' q → F q ∨ w.heap.size ≤ q := fun q hq => (hF' q hq).imp id (fun h1 => by have := HWD.out.size; omega)
    have HPP := Lib.hid (show RunPost w F tb p X _ (actV k a f v fn bb (.slice r0 r1 r2)) _ _ from ⟨rfl, F', X', hT6, hXD, hF6, hf6⟩)
    clear hfs hr5 hT5 hT6 hfw hf6 hf5 hF6 hFz hF' hXD hsz5
    have HRS := Lib.hid hrs; clear hrs
    unfold actV
    go_wp2_with fail
    refine bodyPost_ret ?_ rfl HPP.out
    have k0 := (row_cell HRS.out 0).1; have k1 := (row_cell HRS.out 1).1; have k2 := (row_cell HRS.out 2).1; have k3 := (row_cell HRS.out 3).1; have k4 := (row_cell HRS.out 4).1; have k5 := (row_cell HRS.out 5).1; have k6 := (row_cell HRS.out 6).1; simp at k0 k1 k2 k3 k4 k5 k6; simp [results, Tryz.results69, go_sem, k0, k1, k2, k3, k4, k5, k6, actV]
set_option maxRecDepth 100000 in
set_option maxHeartbeats 3200000 in
theorem run_19 (w : World) (F : Nat → Prop) (tb : Nat) (p : TPrg) (T : Tk) (X : TB) (h : TaskAt w F tb p T X) (c0 c1 c2 mp : Value) (ia ib ic : Int) (T' : Tk) (k a f v fn : Int) (bb : Bool) (r0 : Option Addr) (r1 r2 : Nat)
    (ASK : ∀ wr, Below w.heap.size w wr → Calls Tryz.prog 99 #[.agg (stepV c0 c1 c2 mp tb 19 ia ib ic)] wr (RunPost wr F tb p X T' (actV k a f v fn bb (.slice r0 r1 r2)))) :
    Calls Tryz.prog 69 #[.agg (stepV c0 c1 c2 mp tb 19 ia ib ic)] w (RunPost w F tb p X T' (actV k a f v fn bb (.slice r0 r1 r2))) := by
  have ASKX := Lib.hid ASK; clear ASK
  unfold stepV at ASKX
  have hb0 := ((Below.refl w.heap.size w).alloc (Nat.le_refl _) (.cells (stepV c0 c1 c2 mp tb 19 ia ib ic) 124))
  have hb1 := hb0.alloc hb0.size act0
  have hr0 := row_alloc (heap_new w (.cells (stepV c0 c1 c2 mp tb 19 ia ib ic) 124)) act0
  have hr1 := heap_new (w.alloc (.cells (stepV c0 c1 c2 mp tb 19 ia ib ic) 124)) act0
  rw [show (w.alloc (.cells (stepV c0 c1 c2 mp tb 19 ia ib ic) 124)).heap.size = w.heap.size + 1 from by simp] at hr1
  obtain ⟨W, hW⟩ : ∃ W, W = (w.alloc (.cells (stepV c0 c1 c2 mp tb 19 ia ib ic) 124)).alloc act0 := ⟨_, rfl⟩
  rw [← hW] at hb1 hr0 hr1
  have HFLT := Lib.hid h.flt
  have HOUT := Lib.hid (fun k (hk : X.D k) => (h.out k hk).2)
  have hwz : W.heap.size = w.heap.size + 2 := by rw [hW]; simp
  unfold act0 at hW hr1
  unfold stepV at hW hr0
  have HW := Lib.hid hW
  have k4 : W.cell? ⟨w.heap.size, 4, none⟩ = some (.pointer (some ⟨tb, 0, none⟩)) := (row_cell hr0 4).1
  have k5 : W.cell? ⟨w.heap.size, 5, none⟩ = some (.int .i64 19) := (row_cell hr0 5).1
  have k6 : W.cell? ⟨w.heap.size, 6, none⟩ = some (.int .i64 ia) := (row_cell hr0 6).1
  have k7 : W.cell? ⟨w.heap.size, 7, none⟩ = some (.int .i64 ib) := (row_cell hr0 7).1
  have k8 : W.cell? ⟨w.heap.size, 8, none⟩ = some (.int .i64 ic) := (row_cell hr0 8).1
  have HRR := Lib.hid (Below.refl W.heap.size W)
  clear hb0 hW
  have HB1 := Lib.hid hb1; clear hb1
  have HR1 := Lib.hid hr1; clear hr1
  have HR0 := Lib.hid hr0; clear hr0
  have HWZ := Lib.hid hwz; clear hwz
  unfold stepV
  go_enter Tryz.func69, Tryz.ntmps69
  go_upto_region 1 with fail
  rw [← HW.out]
  go_cut [3, 4] (fun x y wx => ∃ z : Nat, x = .pointer (some ⟨z, 0, none⟩) ∧ y = .pointer (some ⟨tb, 0, none⟩) ∧ wx.heap[z]? = some (.cells #[.int .i64 19, .int .i64 ia, .int .i64 ib, .int .i64 ic] 59) ∧ w.heap.size + 2 ≤ z ∧ Below W.heap.size W wx)
  case first =>
    have bs := World.block_lt k4
    dsimp only at bs
    go_region
    all_goals
      go_wp2_with fail
      go_meet
      case rel => exact ⟨_, rfl, rfl, heap_new _ _, by have := HWZ.out; omega, (HRR.out.drew).alloc (HRR.out.size) _⟩
  case rest =>
    obtain ⟨z, rfl, rfl, hz, hzl, hR⟩ := hcut
    have hbc := HB1.out.trans (hR.mono HB1.out.size)
    have hrb := (Fr.of_below hR (fun _ => False)).heap HR0.out (fun h => h)
    have hrc := (Fr.of_below hR (fun _ => False)).heap HR1.out (fun h => h)
    have HBC := Lib.hid hbc
    have HSZ := Lib.hid (show w.heap.size + 2 ≤ wc.heap.size from by have := hR.size; have := HWZ.out; omega)
    have HRW := Lib.hid (fun wx (hw : Below wc.heap.size wc wx) => (Fr.of_below hw (fun _ => False)).heap hrc (fun h => h))
    have HSS := Lib.hid (show ∀ wx, Below wc.heap.size wc wx → wx.cell? ⟨w.heap.size, 0, none⟩ = some (c0) ∧ wx.cell? ⟨w.heap.size, 1, none⟩ = some (c1) ∧ wx.cell? ⟨w.heap.size, 2, none⟩ = some (c2) ∧ wx.cell? ⟨w.heap.size, 3, none⟩ = some (mp) ∧ wx.cell? ⟨w.heap.size, 4, none⟩ = some (.pointer (some ⟨tb, 0, none⟩)) ∧ wx.cell? ⟨w.heap.size, 5, none⟩ = some (.int .i64 19) ∧ wx.cell? ⟨w.heap.size, 6, none⟩ = some (.int .i64 ia) ∧ wx.cell? ⟨w.heap.size, 7, none⟩ = some (.int .i64 ib) ∧ wx.cell? ⟨w.heap.size, 8, none⟩ = some (.int .i64 ic) ∧ wx.cell? ⟨z, 0, none⟩ = some (.int .i64 19) ∧ wx.cell? ⟨z, 1, none⟩ = some (.int .i64 ia) ∧ wx.cell? ⟨z, 2, none⟩ = some (.int .i64 ib) ∧ wx.cell? ⟨z, 3, none⟩ = some (.int .i64 ic) from fun wx hw => by
      have g1 := (Fr.of_below hw (fun _ => False)).heap hrb (fun h => h)
      have g2 := (Fr.of_below hw (fun _ => False)).heap hz (fun h => h)
      exact ⟨(row_cell g1 0).1, (row_cell g1 1).1, (row_cell g1 2).1, (row_cell g1 3).1, (row_cell g1 4).1, (row_cell g1 5).1, (row_cell g1 6).1, (row_cell g1 7).1, (row_cell g1 8).1, (row_cell g2 0).1, (row_cell g2 1).1, (row_cell g2 2).1, (row_cell g2 3).1⟩)
    have hSd := HSS.out wc.drew (Below.refl wc.heap.size wc).drew
    have HRC := Lib.hid (Below.refl wc.heap.size wc)
    have HRD := Lib.hid (Below.refl wc.heap.size wc).drew
    have z0 : wc.cell? ⟨z, 0, none⟩ = some (.int .i64 19) := (row_cell hz 0).1
    clear hR hrb hrc hz k4 k5 k6 k7 k8 hbc
    obtain ⟨y0, y1, y2, y3, y4, y5, y6, y7, y8, _, _, _, _⟩ := HSS.out _ HRC.out
    clear hSd
    go_upto_region 22 with fail
    go_wp2_with fail
    refine (ASKX.out _ HBC.out).mono ?_
    rintro e w5 ⟨rfl, F', X', hT5, hXD, hF', hf5⟩
    have HWD := HRC
    clear y0 y1 y2 y3 y4 y5 y6 y7 y8 z0
    have hsz5 : w.heap.size + 2 ≤ wc.heap.size := by have := HSZ.out; omega
    have hr5 := hf5.heap (HRW.out _ HWD.out) (fun e => by have := HFLT.out (w.heap.size + 1) e; omega)
    obtain ⟨⟨u0, u1, u2, u3, u4, u5, u6⟩, n0, n1, n2, n3, n4, n5, n6⟩ := seven_cells hr5
    have hfs := seven_fr w5 (.int .i64 k) (.int .i64 a) (.int .i64 f) (.int .i64 v) (.int .i64 fn) (.bool bb) (.slice r0 r1 r2) (w.heap.size + 1)
    have hrs := seven_row hr5 (.int .i64 k) (.int .i64 a) (.int .i64 f) (.int .i64 v) (.int .i64 fn) (.bool bb) (.slice r0 r1 r2)
    have hFz : ∀ q, F' q → q ≠ w.heap.size + 1 := fun q hq e => by
      rcases hF' q hq with h1 | h1
      · have := HFLT.out q h1; omega
      · have := HWD.out.size; omega
    have hT6 := hT5.fr hfs (fun q hq e => hFz q hq e) (fun q hq e => by rw [hXD] at hq; have := HOUT.out q hq; have e : q = w.heap.size + 1 := e; omega)
    have hfw := (Fr.of_below (HBC.out.trans (HWD.out.mono HBC.out.size)) F).trans hf5 (fun _ _ h => h)
    have hf6 := hfw.trans hfs (fun q hq e => by have e : q = w.heap.size + 1 := e; omega)
    have hF6 : ∀ q, F' q → F q ∨ w.heap.size ≤ q := fun q hq => (hF' q hq).imp id (fun h1 => by have := HWD.out.size; omega)
    have HPP := Lib.hid (show RunPost w F tb p X _ (actV k a f v fn bb (.slice r0 r1 r2)) _ _ from ⟨rfl, F', X', hT6, hXD, hF6, hf6⟩)
    clear hfs hr5 hT5 hT6 hfw hf6 hf5 hF6 hFz hF' hXD hsz5
    have HRS := Lib.hid hrs; clear hrs
    unfold actV
    go_wp2_with fail
    refine bodyPost_ret ?_ rfl HPP.out
    have k0 := (row_cell HRS.out 0).1; have k1 := (row_cell HRS.out 1).1; have k2 := (row_cell HRS.out 2).1; have k3 := (row_cell HRS.out 3).1; have k4 := (row_cell HRS.out 4).1; have k5 := (row_cell HRS.out 5).1; have k6 := (row_cell HRS.out 6).1; simp at k0 k1 k2 k3 k4 k5 k6; simp [results, Tryz.results69, go_sem, k0, k1, k2, k3, k4, k5, k6, actV]
set_option maxRecDepth 100000 in
set_option maxHeartbeats 3200000 in
theorem run_20 (w : World) (F : Nat → Prop) (tb : Nat) (p : TPrg) (T : Tk) (X : TB) (h : TaskAt w F tb p T X) (c0 c1 c2 mp : Value) (ia ib ic : Int) (T' : Tk) (k a f v fn : Int) (bb : Bool) (r0 : Option Addr) (r1 r2 : Nat)
    (ASK : ∀ wr, Below w.heap.size w wr → Calls Tryz.prog 99 #[.agg (stepV c0 c1 c2 mp tb 20 ia ib ic)] wr (RunPost wr F tb p X T' (actV k a f v fn bb (.slice r0 r1 r2)))) :
    Calls Tryz.prog 69 #[.agg (stepV c0 c1 c2 mp tb 20 ia ib ic)] w (RunPost w F tb p X T' (actV k a f v fn bb (.slice r0 r1 r2))) := by
  have ASKX := Lib.hid ASK; clear ASK
  unfold stepV at ASKX
  have hb0 := ((Below.refl w.heap.size w).alloc (Nat.le_refl _) (.cells (stepV c0 c1 c2 mp tb 20 ia ib ic) 124))
  have hb1 := hb0.alloc hb0.size act0
  have hr0 := row_alloc (heap_new w (.cells (stepV c0 c1 c2 mp tb 20 ia ib ic) 124)) act0
  have hr1 := heap_new (w.alloc (.cells (stepV c0 c1 c2 mp tb 20 ia ib ic) 124)) act0
  rw [show (w.alloc (.cells (stepV c0 c1 c2 mp tb 20 ia ib ic) 124)).heap.size = w.heap.size + 1 from by simp] at hr1
  obtain ⟨W, hW⟩ : ∃ W, W = (w.alloc (.cells (stepV c0 c1 c2 mp tb 20 ia ib ic) 124)).alloc act0 := ⟨_, rfl⟩
  rw [← hW] at hb1 hr0 hr1
  have HFLT := Lib.hid h.flt
  have HOUT := Lib.hid (fun k (hk : X.D k) => (h.out k hk).2)
  have hwz : W.heap.size = w.heap.size + 2 := by rw [hW]; simp
  unfold act0 at hW hr1
  unfold stepV at hW hr0
  have HW := Lib.hid hW
  have k4 : W.cell? ⟨w.heap.size, 4, none⟩ = some (.pointer (some ⟨tb, 0, none⟩)) := (row_cell hr0 4).1
  have k5 : W.cell? ⟨w.heap.size, 5, none⟩ = some (.int .i64 20) := (row_cell hr0 5).1
  have k6 : W.cell? ⟨w.heap.size, 6, none⟩ = some (.int .i64 ia) := (row_cell hr0 6).1
  have k7 : W.cell? ⟨w.heap.size, 7, none⟩ = some (.int .i64 ib) := (row_cell hr0 7).1
  have k8 : W.cell? ⟨w.heap.size, 8, none⟩ = some (.int .i64 ic) := (row_cell hr0 8).1
  have HRR := Lib.hid (Below.refl W.heap.size W)
  clear hb0 hW
  have HB1 := Lib.hid hb1; clear hb1
  have HR1 := Lib.hid hr1; clear hr1
  have HR0 := Lib.hid hr0; clear hr0
  have HWZ := Lib.hid hwz; clear hwz
  unfold stepV
  go_enter Tryz.func69, Tryz.ntmps69
  go_upto_region 1 with fail
  rw [← HW.out]
  go_cut [3, 4] (fun x y wx => ∃ z : Nat, x = .pointer (some ⟨z, 0, none⟩) ∧ y = .pointer (some ⟨tb, 0, none⟩) ∧ wx.heap[z]? = some (.cells #[.int .i64 20, .int .i64 ia, .int .i64 ib, .int .i64 ic] 59) ∧ w.heap.size + 2 ≤ z ∧ Below W.heap.size W wx)
  case first =>
    have bs := World.block_lt k4
    dsimp only at bs
    go_region
    all_goals
      go_wp2_with fail
      go_meet
      case rel => exact ⟨_, rfl, rfl, heap_new _ _, by have := HWZ.out; omega, (HRR.out.drew).alloc (HRR.out.size) _⟩
  case rest =>
    obtain ⟨z, rfl, rfl, hz, hzl, hR⟩ := hcut
    have hbc := HB1.out.trans (hR.mono HB1.out.size)
    have hrb := (Fr.of_below hR (fun _ => False)).heap HR0.out (fun h => h)
    have hrc := (Fr.of_below hR (fun _ => False)).heap HR1.out (fun h => h)
    have HBC := Lib.hid hbc
    have HSZ := Lib.hid (show w.heap.size + 2 ≤ wc.heap.size from by have := hR.size; have := HWZ.out; omega)
    have HRW := Lib.hid (fun wx (hw : Below wc.heap.size wc wx) => (Fr.of_below hw (fun _ => False)).heap hrc (fun h => h))
    have HSS := Lib.hid (show ∀ wx, Below wc.heap.size wc wx → wx.cell? ⟨w.heap.size, 0, none⟩ = some (c0) ∧ wx.cell? ⟨w.heap.size, 1, none⟩ = some (c1) ∧ wx.cell? ⟨w.heap.size, 2, none⟩ = some (c2) ∧ wx.cell? ⟨w.heap.size, 3, none⟩ = some (mp) ∧ wx.cell? ⟨w.heap.size, 4, none⟩ = some (.pointer (some ⟨tb, 0, none⟩)) ∧ wx.cell? ⟨w.heap.size, 5, none⟩ = some (.int .i64 20) ∧ wx.cell? ⟨w.heap.size, 6, none⟩ = some (.int .i64 ia) ∧ wx.cell? ⟨w.heap.size, 7, none⟩ = some (.int .i64 ib) ∧ wx.cell? ⟨w.heap.size, 8, none⟩ = some (.int .i64 ic) ∧ wx.cell? ⟨z, 0, none⟩ = some (.int .i64 20) ∧ wx.cell? ⟨z, 1, none⟩ = some (.int .i64 ia) ∧ wx.cell? ⟨z, 2, none⟩ = some (.int .i64 ib) ∧ wx.cell? ⟨z, 3, none⟩ = some (.int .i64 ic) from fun wx hw => by
      have g1 := (Fr.of_below hw (fun _ => False)).heap hrb (fun h => h)
      have g2 := (Fr.of_below hw (fun _ => False)).heap hz (fun h => h)
      exact ⟨(row_cell g1 0).1, (row_cell g1 1).1, (row_cell g1 2).1, (row_cell g1 3).1, (row_cell g1 4).1, (row_cell g1 5).1, (row_cell g1 6).1, (row_cell g1 7).1, (row_cell g1 8).1, (row_cell g2 0).1, (row_cell g2 1).1, (row_cell g2 2).1, (row_cell g2 3).1⟩)
    have hSd := HSS.out wc.drew (Below.refl wc.heap.size wc).drew
    have HRC := Lib.hid (Below.refl wc.heap.size wc)
    have HRD := Lib.hid (Below.refl wc.heap.size wc).drew
    have z0 : wc.cell? ⟨z, 0, none⟩ = some (.int .i64 20) := (row_cell hz 0).1
    clear hR hrb hrc hz k4 k5 k6 k7 k8 hbc
    obtain ⟨y0, y1, y2, y3, y4, y5, y6, y7, y8, _, _, _, _⟩ := HSS.out _ HRC.out
    clear hSd
    go_upto_region 22 with fail
    go_wp2_with fail
    refine (ASKX.out _ HBC.out).mono ?_
    rintro e w5 ⟨rfl, F', X', hT5, hXD, hF', hf5⟩
    have HWD := HRC
    clear y0 y1 y2 y3 y4 y5 y6 y7 y8 z0
    have hsz5 : w.heap.size + 2 ≤ wc.heap.size := by have := HSZ.out; omega
    have hr5 := hf5.heap (HRW.out _ HWD.out) (fun e => by have := HFLT.out (w.heap.size + 1) e; omega)
    obtain ⟨⟨u0, u1, u2, u3, u4, u5, u6⟩, n0, n1, n2, n3, n4, n5, n6⟩ := seven_cells hr5
    have hfs := seven_fr w5 (.int .i64 k) (.int .i64 a) (.int .i64 f) (.int .i64 v) (.int .i64 fn) (.bool bb) (.slice r0 r1 r2) (w.heap.size + 1)
    have hrs := seven_row hr5 (.int .i64 k) (.int .i64 a) (.int .i64 f) (.int .i64 v) (.int .i64 fn) (.bool bb) (.slice r0 r1 r2)
    have hFz : ∀ q, F' q → q ≠ w.heap.size + 1 := fun q hq e => by
      rcases hF' q hq with h1 | h1
      · have := HFLT.out q h1; omega
      · have := HWD.out.size; omega
    have hT6 := hT5.fr hfs (fun q hq e => hFz q hq e) (fun q hq e => by rw [hXD] at hq; have := HOUT.out q hq; have e : q = w.heap.size + 1 := e; omega)
    have hfw := (Fr.of_below (HBC.out.trans (HWD.out.mono HBC.out.size)) F).trans hf5 (fun _ _ h => h)
    have hf6 := hfw.trans hfs (fun q hq e => by have e : q = w.heap.size + 1 := e; omega)
    have hF6 : ∀ q, F' q → F q ∨ w.heap.size ≤ q := fun q hq => (hF' q hq).imp id (fun h1 => by have := HWD.out.size; omega)
    have HPP := Lib.hid (show RunPost w F tb p X _ (actV k a f v fn bb (.slice r0 r1 r2)) _ _ from ⟨rfl, F', X', hT6, hXD, hF6, hf6⟩)
    clear hfs hr5 hT5 hT6 hfw hf6 hf5 hF6 hFz hF' hXD hsz5
    have HRS := Lib.hid hrs; clear hrs
    unfold actV
    go_wp2_with fail
    refine bodyPost_ret ?_ rfl HPP.out
    have k0 := (row_cell HRS.out 0).1; have k1 := (row_cell HRS.out 1).1; have k2 := (row_cell HRS.out 2).1; have k3 := (row_cell HRS.out 3).1; have k4 := (row_cell HRS.out 4).1; have k5 := (row_cell HRS.out 5).1; have k6 := (row_cell HRS.out 6).1; simp at k0 k1 k2 k3 k4 k5 k6; simp [results, Tryz.results69, go_sem, k0, k1, k2, k3, k4, k5, k6, actV]
end Go.Proofs.YthkhgihjigmkoaaGreat.Tk
namespace Go.Proofs.YthkhgihjigmkoaaGreat.Tk
open Go.ChangeShapes Go.WideShapes Go.ChangeAt Go.RowKit Go.Maps
theorem w10 : wordsN p1 (0 : Nat) = 7 := by decide
theorem w11 : wordsN p1 (1 : Nat) = 7 := by decide
end Go.Proofs.YthkhgihjigmkoaaGreat.Tk
namespace Go.Proofs.YthkhgihjigmkoaaGreat.Tk
open Go.ChangeShapes Go.WideShapes Go.ChangeAt Go.RowKit Go.Maps
theorem singleS (w : World) (sl : Nat) (code : List Ins) (cb co cc : Nat) (hcd : CellsAt w cb co (code.flatMap insE.enc)) (hn : code.length ≤ 1000) :
    Calls Tryz.prog 27 #[.int .i64 sl, .slice (some ⟨cb, co, none⟩) code.length cc] w fun e w' => ∃ a0 n0 m0 a1 m1 a2 m2, ∃ D : Nat → Prop, e = .returned (.agg #[.slice a0 n0 m0, .slice a1 1 m1, .slice a2 1 m2]) ∧ (∀ k, D k → k < w'.heap.size) ∧ PV w' D (qS sl) (.slice a0 n0 m0) (.slice a1 1 m1) (.slice a2 1 m2) ∧ PrgVal w' D (pS sl code) (.slice a0 n0 m0) (.slice a1 1 m1) (.slice a2 1 m2) ∧ Below w.heap.size w w' := by
  refine (single_any w sl code cb co cc hcd hn).mono ?_
  rintro e w' ⟨c0, c1, c2, rfl, hv, hg, hb⟩
  obtain ⟨a0, n0, m0, a1, m1, a2, m2, rfl, rfl, rfl⟩ := hv.three
  exact ⟨a0, n0, m0, a1, m1, a2, m2, _, rfl, fun k hk => hk.2, hv, hg, hb⟩
theorem boxS {w4 : World} {D : Nat → Prop} {sl : Nat} {code : List Ins} {a0 a1 a2 : Option Addr} {n0 m0 m1 m2 : Nat} {tb' : Nat → List (Option (List Int))} (hv : PV w4 D (qS sl) (.slice a0 n0 m0) (.slice a1 1 m1) (.slice a2 1 m2)) (hg : PrgVal w4 D (pS sl code) (.slice a0 n0 m0) (.slice a1 1 m1) (.slice a2 1 m2)) (hD : ∀ k, D k → k < w4.heap.size) (hs : sl ≤ 10) (hB : PrgB (pS sl code) ∧ PrgR (pS sl code)) (ht : TabOk (pS sl code) tb' ∧ (progS (pS sl code)).1 = 0) (W : World) (hW : W = w4.alloc (.cells #[.slice a0 n0 m0, .slice a1 1 m1, .slice a2 1 m2] 27)) :
    (∀ wx, Below W.heap.size W wx → wx.cell? ⟨w4.heap.size, 0, none⟩ = some (.slice a0 n0 m0) ∧ wx.cell? ⟨w4.heap.size, 1, none⟩ = some (.slice a1 1 m1) ∧ wx.cell? ⟨w4.heap.size, 2, none⟩ = some (.slice a2 1 m2) ∧ PrgVal wx D (pS sl code) (.slice a0 n0 m0) (.slice a1 1 m1) (.slice a2 1 m2)) ∧
    (∀ k, D k → k < W.heap.size) ∧ Below w4.heap.size w4 W ∧ Calls Tryz.prog 29 #[.agg #[.slice a0 n0 m0, .slice a1 1 m1, .slice a2 1 m2]] W (BegS W sl code tb') := by
  have hba := (Below.refl w4.heap.size w4).alloc (Nat.le_refl _) (.cells #[.slice a0 n0 m0, .slice a1 1 m1, .slice a2 1 m2] 27)
  have hra := heap_new w4 (.cells #[.slice a0 n0 m0, .slice a1 1 m1, .slice a2 1 m2] 27)
  rw [← hW] at hba hra
  have hg' := hg.fr (Fr.of_below hba (fun _ => False)) (fun _ _ h => h)
  have hD' : ∀ k, D k → k < W.heap.size := fun k hk => Nat.lt_of_lt_of_le (hD k hk) hba.size
  refine ⟨fun wx hw => ?_, hD', hba, beginS W D hD' sl hs code _ _ _ (hv.below hba) hg' hB ht.2 tb' ht.1⟩
  have g1 := (Fr.of_below hw (fun _ => False)).heap hra (fun h => h)
  exact ⟨(row_cell g1 0).1, (row_cell g1 1).1, (row_cell g1 2).1, hg'.fr (Fr.of_below hw (fun _ => False)) (fun _ _ h => h)⟩
end Go.Proofs.YthkhgihjigmkoaaGreat.Tk
