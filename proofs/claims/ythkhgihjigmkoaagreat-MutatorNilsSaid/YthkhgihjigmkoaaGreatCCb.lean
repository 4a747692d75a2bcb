import Derived.Test.YthkhgihjigmkoaaGreatCAy
import Derived.Test.YthkhgihjigmkoaaGreatCAu
import Derived.Test.YthkhgihjigmkoaaGreatCBx
import Derived.Test.YthkhgihjigmkoaaGreatCAv
set_option linter.unusedVariables false
set_option linter.unusedSimpArgs false
namespace Go.Proofs.YthkhgihjigmkoaaGreat.Tk
open Go.ChangeShapes Go.WideShapes Go.ChangeAt Go.RowKit Go.Maps
set_option maxRecDepth 100000 in
set_option maxHeartbeats 3200000 in
theorem run_X14 (w : World) (F : Nat → Prop) (tb : Nat) (p : TPrg) (T : Tk) (X : TB) (h : TaskAt w F tb p T X) (c0 c1 c2 mp : Value) (ia ib ic : Int) (X1 : TB) (hX1 : X1.D = X.D) (al : List Alarm) (kf : { x : Int × Int // i64B x.1 ∧ i64B x.2 } → Option Int) (T' : Tk) (k a f v fn : Int) (bb : Bool) (r0 : Option Addr) (r1 r2 : Nat)
  (ASK : ∀ wr, Below w.heap.size w wr → Calls Tryz.prog 100 #[.agg (stepV c0 c1 c2 mp tb 14 ia ib ic)] wr (RunPostG wr F tb p X1 T' al kf (actV k a f v fn bb (.slice r0 r1 r2)))) :
  Calls Tryz.prog 69 #[.agg (stepV c0 c1 c2 mp tb 14 ia ib ic)] w (RunPostG w F tb p X1 T' al kf (actV k a f v fn bb (.slice r0 r1 r2))) := by
 have ASKX := Lib.hid ASK; clear ASK
 unfold stepV at ASKX
 have hb0 := ((Below.refl w.heap.size w).alloc (Nat.le_refl _) (.cells (stepV c0 c1 c2 mp tb 14 ia ib ic) 124))
 have hb1 := hb0.alloc hb0.size act0
 have hr0 := row_alloc (heap_new w (.cells (stepV c0 c1 c2 mp tb 14 ia ib ic) 124)) act0
 have hr1 := heap_new (w.alloc (.cells (stepV c0 c1 c2 mp tb 14 ia ib ic) 124)) act0
 rw [show (w.alloc (.cells (stepV c0 c1 c2 mp tb 14 ia ib ic) 124)).heap.size = w.heap.size + 1 from by simp] at hr1
 obtain ⟨W, hW⟩ : ∃ W, W = (w.alloc (.cells (stepV c0 c1 c2 mp tb 14 ia ib ic) 124)).alloc act0 := ⟨_, rfl⟩
 rw [← hW] at hb1 hr0 hr1
 have HFLT := Lib.hid h.flt
 have HOUT := Lib.hid (fun k (hk : X.D k) => (h.out k hk).2)
 have hwz : W.heap.size = w.heap.size + 2 := by rw [hW]; simp
 unfold act0 at hW hr1
 unfold stepV at hW hr0
 have HW := Lib.hid hW
 have k4 : W.cell? ⟨w.heap.size, 4, none⟩ = some (.pointer (some ⟨tb, 0, none⟩)) := (row_cell hr0 4).1
 have k5 : W.cell? ⟨w.heap.size, 5, none⟩ = some (.int .i64 14) := (row_cell hr0 5).1
 have k6 : W.cell? ⟨w.heap.size, 6, none⟩ = some (.int .i64 ia) := (row_cell hr0 6).1
 have k7 : W.cell? ⟨w.heap.size, 7, none⟩ = some (.int .i64 ib) := (row_cell hr0 7).1
 have k8 : W.cell? ⟨w.heap.size, 8, none⟩ = some (.int .i64 ic) := (row_cell hr0 8).1
 have HRR := Lib.hid (Below.refl W.heap.size W)
 clear hb0 hW
 have HB1 := Lib.hid hb1; clear hb1
 have HR1 := Lib.hid hr1; clear hr1
 have HR0 := Lib.hid hr0; clear hr0
 have HWZ := Lib.hid hwz; clear hwz
 unfold stepV
 go_enter Tryz.func69, Tryz.ntmps69
 go_upto_region 1 with fail
 rw [← HW.out]
 go_cut [3, 4] (fun x y wx => ∃ z : Nat, x = .pointer (some ⟨z, 0, none⟩) ∧ y = .pointer (some ⟨tb, 0, none⟩) ∧ wx.heap[z]? = some (.cells #[.int .i64 14, .int .i64 ia, .int .i64 ib, .int .i64 ic] 59) ∧ w.heap.size + 2 ≤ z ∧ Below W.heap.size W wx)
 case first =>
  have bs := World.block_lt k4
  dsimp only at bs
  go_region
  all_goals
   go_wp2_with fail
   go_meet
   case rel => exact ⟨_, rfl, rfl, heap_new _ _, by have := HWZ.out; omega, (HRR.out.drew).alloc (HRR.out.size) _⟩
 case rest =>
  obtain ⟨z, rfl, rfl, hz, hzl, hR⟩ := hcut
  have hbc := HB1.out.trans (hR.mono HB1.out.size)
  have hrb := (Fr.of_below hR (fun _ => False)).heap HR0.out (fun h => h)
  have hrc := (Fr.of_below hR (fun _ => False)).heap HR1.out (fun h => h)
  have HBC := Lib.hid hbc
  have HSZ := Lib.hid (show w.heap.size + 2 ≤ wc.heap.size from by have := hR.size; have := HWZ.out; omega)
  have HRW := Lib.hid (fun wx (hw : Below wc.heap.size wc wx) => (Fr.of_below hw (fun _ => False)).heap hrc (fun h => h))
  have HSS := Lib.hid (show ∀ wx, Below wc.heap.size wc wx → wx.cell? ⟨w.heap.size, 0, none⟩ = some (c0) ∧ wx.cell? ⟨w.heap.size, 1, none⟩ = some (c1) ∧ wx.cell? ⟨w.heap.size, 2, none⟩ = some (c2) ∧ wx.cell? ⟨w.heap.size, 3, none⟩ = some (mp) ∧ wx.cell? ⟨w.heap.size, 4, none⟩ = some (.pointer (some ⟨tb, 0, none⟩)) ∧ wx.cell? ⟨w.heap.size, 5, none⟩ = some (.int .i64 14) ∧ wx.cell? ⟨w.heap.size, 6, none⟩ = some (.int .i64 ia) ∧ wx.cell? ⟨w.heap.size, 7, none⟩ = some (.int .i64 ib) ∧ wx.cell? ⟨w.heap.size, 8, none⟩ = some (.int .i64 ic) ∧ wx.cell? ⟨z, 0, none⟩ = some (.int .i64 14) ∧ wx.cell? ⟨z, 1, none⟩ = some (.int .i64 ia) ∧ wx.cell? ⟨z, 2, none⟩ = some (.int .i64 ib) ∧ wx.cell? ⟨z, 3, none⟩ = some (.int .i64 ic) from fun wx hw => by
   have g1 := (Fr.of_below hw (fun _ => False)).heap hrb (fun h => h)
   have g2 := (Fr.of_below hw (fun _ => False)).heap hz (fun h => h)
   exact ⟨(row_cell g1 0).1, (row_cell g1 1).1, (row_cell g1 2).1, (row_cell g1 3).1, (row_cell g1 4).1, (row_cell g1 5).1, (row_cell g1 6).1, (row_cell g1 7).1, (row_cell g1 8).1, (row_cell g2 0).1, (row_cell g2 1).1, (row_cell g2 2).1, (row_cell g2 3).1⟩)
  have hSd := HSS.out wc.drew (Below.refl wc.heap.size wc).drew
  have HRC := Lib.hid (Below.refl wc.heap.size wc)
  have HRD := Lib.hid (Below.refl wc.heap.size wc).drew
  have z0 : wc.cell? ⟨z, 0, none⟩ = some (.int .i64 14) := (row_cell hz 0).1
  clear hR hrb hrc hz k4 k5 k6 k7 k8 hbc
  obtain ⟨y0, y1, y2, y3, y4, y5, y6, y7, y8, _, _, _, _⟩ := HSS.out _ HRC.out
  clear hSd
  go_upto_region 28 with fail
  go_wp2_with fail
  refine (ASKX.out _ HBC.out).mono ?_
  rintro e w5 ⟨rfl, F', X', hT5, hXD, hF', hf5⟩
  have HWD := HRC
  clear y0 y1 y2 y3 y4 y5 y6 y7 y8 z0
  have hsz5 : w.heap.size + 2 ≤ wc.heap.size := by have := HSZ.out; omega
  have hr5 := hf5.heap (HRW.out _ HWD.out) (fun e => by have := HFLT.out (w.heap.size + 1) e; omega)
  obtain ⟨⟨u0, u1, u2, u3, u4, u5, u6⟩, n0, n1, n2, n3, n4, n5, n6⟩ := seven_cells hr5
  have hfs := seven_fr w5 (.int .i64 k) (.int .i64 a) (.int .i64 f) (.int .i64 v) (.int .i64 fn) (.bool bb) (.slice r0 r1 r2) (w.heap.size + 1)
  have hrs := seven_row hr5 (.int .i64 k) (.int .i64 a) (.int .i64 f) (.int .i64 v) (.int .i64 fn) (.bool bb) (.slice r0 r1 r2)
  have hFz : ∀ q, F' q → q ≠ w.heap.size + 1 := fun q hq e => by
   rcases hF' q hq with h1 | h1
   ·have := HFLT.out q h1; omega
   ·have := HWD.out.size; omega
  have hT6 := hT5.fr hfs (fun q hq e => hFz q hq e) (fun q hq e => by rw [hXD.1, hX1] at hq; have := HOUT.out q hq; have e : q = w.heap.size + 1 := e; omega)
  have hfw := (Fr.of_below (HBC.out.trans (HWD.out.mono HBC.out.size)) F).trans hf5 (fun _ _ h => h)
  have hf6 := hfw.trans hfs (fun q hq e => by have e : q = w.heap.size + 1 := e; omega)
  have hF6 : ∀ q, F' q → F q ∨ w.heap.size ≤ q := fun q hq => (hF' q hq).imp id (fun h1 => by have := HWD.out.size; omega)
  have HPP := Lib.hid (show RunPostG w F tb p X1 _ _ _ (actV k a f v fn bb (.slice r0 r1 r2)) _ _ from ⟨rfl, F', X', hT6, hXD, hF6, hf6⟩)
  clear hfs hr5 hT5 hT6 hfw hf6 hf5 hF6 hFz hF' hXD hsz5
  have HRS := Lib.hid hrs; clear hrs
  unfold actV
  go_wp2_with fail
  refine bodyPost_ret ?_ rfl HPP.out
  have k0 := (row_cell HRS.out 0).1; have k1 := (row_cell HRS.out 1).1; have k2 := (row_cell HRS.out 2).1; have k3 := (row_cell HRS.out 3).1; have k4 := (row_cell HRS.out 4).1; have k5 := (row_cell HRS.out 5).1; have k6 := (row_cell HRS.out 6).1; simp at k0 k1 k2 k3 k4 k5 k6; simp [results, Tryz.results69, go_sem, k0, k1, k2, k3, k4, k5, k6, actV]
set_option maxRecDepth 100000 in
set_option maxHeartbeats 3200000 in
theorem run_X15 (w : World) (F : Nat → Prop) (tb : Nat) (p : TPrg) (T : Tk) (X : TB) (h : TaskAt w F tb p T X) (c0 c1 c2 mp : Value) (ia ib ic : Int) (X1 : TB) (hX1 : X1.D = X.D) (al : List Alarm) (kf : { x : Int × Int // i64B x.1 ∧ i64B x.2 } → Option Int) (T' : Tk) (k a f v fn : Int) (bb : Bool) (r0 : Option Addr) (r1 r2 : Nat)
  (ASK : ∀ wr, Below w.heap.size w wr → Calls Tryz.prog 100 #[.agg (stepV c0 c1 c2 mp tb 15 ia ib ic)] wr (RunPostG wr F tb p X1 T' al kf (actV k a f v fn bb (.slice r0 r1 r2)))) :
  Calls Tryz.prog 69 #[.agg (stepV c0 c1 c2 mp tb 15 ia ib ic)] w (RunPostG w F tb p X1 T' al kf (actV k a f v fn bb (.slice r0 r1 r2))) := by
 have ASKX := Lib.hid ASK; clear ASK
 unfold stepV at ASKX
 have hb0 := ((Below.refl w.heap.size w).alloc (Nat.le_refl _) (.cells (stepV c0 c1 c2 mp tb 15 ia ib ic) 124))
 have hb1 := hb0.alloc hb0.size act0
 have hr0 := row_alloc (heap_new w (.cells (stepV c0 c1 c2 mp tb 15 ia ib ic) 124)) act0
 have hr1 := heap_new (w.alloc (.cells (stepV c0 c1 c2 mp tb 15 ia ib ic) 124)) act0
 rw [show (w.alloc (.cells (stepV c0 c1 c2 mp tb 15 ia ib ic) 124)).heap.size = w.heap.size + 1 from by simp] at hr1
 obtain ⟨W, hW⟩ : ∃ W, W = (w.alloc (.cells (stepV c0 c1 c2 mp tb 15 ia ib ic) 124)).alloc act0 := ⟨_, rfl⟩
 rw [← hW] at hb1 hr0 hr1
 have HFLT := Lib.hid h.flt
 have HOUT := Lib.hid (fun k (hk : X.D k) => (h.out k hk).2)
 have hwz : W.heap.size = w.heap.size + 2 := by rw [hW]; simp
 unfold act0 at hW hr1
 unfold stepV at hW hr0
 have HW := Lib.hid hW
 have k4 : W.cell? ⟨w.heap.size, 4, none⟩ = some (.pointer (some ⟨tb, 0, none⟩)) := (row_cell hr0 4).1
 have k5 : W.cell? ⟨w.heap.size, 5, none⟩ = some (.int .i64 15) := (row_cell hr0 5).1
 have k6 : W.cell? ⟨w.heap.size, 6, none⟩ = some (.int .i64 ia) := (row_cell hr0 6).1
 have k7 : W.cell? ⟨w.heap.size, 7, none⟩ = some (.int .i64 ib) := (row_cell hr0 7).1
 have k8 : W.cell? ⟨w.heap.size, 8, none⟩ = some (.int .i64 ic) := (row_cell hr0 8).1
 have HRR := Lib.hid (Below.refl W.heap.size W)
 clear hb0 hW
 have HB1 := Lib.hid hb1; clear hb1
 have HR1 := Lib.hid hr1; clear hr1
 have HR0 := Lib.hid hr0; clear hr0
 have HWZ := Lib.hid hwz; clear hwz
 unfold stepV
 go_enter Tryz.func69, Tryz.ntmps69
 go_upto_region 1 with fail
 rw [← HW.out]
 go_cut [3, 4] (fun x y wx => ∃ z : Nat, x = .pointer (some ⟨z, 0, none⟩) ∧ y = .pointer (some ⟨tb, 0, none⟩) ∧ wx.heap[z]? = some (.cells #[.int .i64 15, .int .i64 ia, .int .i64 ib, .int .i64 ic] 59) ∧ w.heap.size + 2 ≤ z ∧ Below W.heap.size W wx)
 case first =>
  have bs := World.block_lt k4
  dsimp only at bs
  go_region
  all_goals
   go_wp2_with fail
   go_meet
   case rel => exact ⟨_, rfl, rfl, heap_new _ _, by have := HWZ.out; omega, (HRR.out.drew).alloc (HRR.out.size) _⟩
 case rest =>
  obtain ⟨z, rfl, rfl, hz, hzl, hR⟩ := hcut
  have hbc := HB1.out.trans (hR.mono HB1.out.size)
  have hrb := (Fr.of_below hR (fun _ => False)).heap HR0.out (fun h => h)
  have hrc := (Fr.of_below hR (fun _ => False)).heap HR1.out (fun h => h)
  have HBC := Lib.hid hbc
  have HSZ := Lib.hid (show w.heap.size + 2 ≤ wc.heap.size from by have := hR.size; have := HWZ.out; omega)
  have HRW := Lib.hid (fun wx (hw : Below wc.heap.size wc wx) => (Fr.of_below hw (fun _ => False)).heap hrc (fun h => h))
  have HSS := Lib.hid (show ∀ wx, Below wc.heap.size wc wx → wx.cell? ⟨w.heap.size, 0, none⟩ = some (c0) ∧ wx.cell? ⟨w.heap.size, 1, none⟩ = some (c1) ∧ wx.cell? ⟨w.heap.size, 2, none⟩ = some (c2) ∧ wx.cell? ⟨w.heap.size, 3, none⟩ = some (mp) ∧ wx.cell? ⟨w.heap.size, 4, none⟩ = some (.pointer (some ⟨tb, 0, none⟩)) ∧ wx.cell? ⟨w.heap.size, 5, none⟩ = some (.int .i64 15) ∧ wx.cell? ⟨w.heap.size, 6, none⟩ = some (.int .i64 ia) ∧ wx.cell? ⟨w.heap.size, 7, none⟩ = some (.int .i64 ib) ∧ wx.cell? ⟨w.heap.size, 8, none⟩ = some (.int .i64 ic) ∧ wx.cell? ⟨z, 0, none⟩ = some (.int .i64 15) ∧ wx.cell? ⟨z, 1, none⟩ = some (.int .i64 ia) ∧ wx.cell? ⟨z, 2, none⟩ = some (.int .i64 ib) ∧ wx.cell? ⟨z, 3, none⟩ = some (.int .i64 ic) from fun wx hw => by
   have g1 := (Fr.of_below hw (fun _ => False)).heap hrb (fun h => h)
   have g2 := (Fr.of_below hw (fun _ => False)).heap hz (fun h => h)
   exact ⟨(row_cell g1 0).1, (row_cell g1 1).1, (row_cell g1 2).1, (row_cell g1 3).1, (row_cell g1 4).1, (row_cell g1 5).1, (row_cell g1 6).1, (row_cell g1 7).1, (row_cell g1 8).1, (row_cell g2 0).1, (row_cell g2 1).1, (row_cell g2 2).1, (row_cell g2 3).1⟩)
  have hSd := HSS.out wc.drew (Below.refl wc.heap.size wc).drew
  have HRC := Lib.hid (Below.refl wc.heap.size wc)
  have HRD := Lib.hid (Below.refl wc.heap.size wc).drew
  have z0 : wc.cell? ⟨z, 0, none⟩ = some (.int .i64 15) := (row_cell hz 0).1
  clear hR hrb hrc hz k4 k5 k6 k7 k8 hbc
  obtain ⟨y0, y1, y2, y3, y4, y5, y6, y7, y8, _, _, _, _⟩ := HSS.out _ HRC.out
  clear hSd
  go_upto_region 28 with fail
  go_wp2_with fail
  refine (ASKX.out _ HBC.out).mono ?_
  rintro e w5 ⟨rfl, F', X', hT5, hXD, hF', hf5⟩
  have HWD := HRC
  clear y0 y1 y2 y3 y4 y5 y6 y7 y8 z0
  have hsz5 : w.heap.size + 2 ≤ wc.heap.size := by have := HSZ.out; omega
  have hr5 := hf5.heap (HRW.out _ HWD.out) (fun e => by have := HFLT.out (w.heap.size + 1) e; omega)
  obtain ⟨⟨u0, u1, u2, u3, u4, u5, u6⟩, n0, n1, n2, n3, n4, n5, n6⟩ := seven_cells hr5
  have hfs := seven_fr w5 (.int .i64 k) (.int .i64 a) (.int .i64 f) (.int .i64 v) (.int .i64 fn) (.bool bb) (.slice r0 r1 r2) (w.heap.size + 1)
  have hrs := seven_row hr5 (.int .i64 k) (.int .i64 a) (.int .i64 f) (.int .i64 v) (.int .i64 fn) (.bool bb) (.slice r0 r1 r2)
  have hFz : ∀ q, F' q → q ≠ w.heap.size + 1 := fun q hq e => by
   rcases hF' q hq with h1 | h1
   ·have := HFLT.out q h1; omega
   ·have := HWD.out.size; omega
  have hT6 := hT5.fr hfs (fun q hq e => hFz q hq e) (fun q hq e => by rw [hXD.1, hX1] at hq; have := HOUT.out q hq; have e : q = w.heap.size + 1 := e; omega)
  have hfw := (Fr.of_below (HBC.out.trans (HWD.out.mono HBC.out.size)) F).trans hf5 (fun _ _ h => h)
  have hf6 := hfw.trans hfs (fun q hq e => by have e : q = w.heap.size + 1 := e; omega)
  have hF6 : ∀ q, F' q → F q ∨ w.heap.size ≤ q := fun q hq => (hF' q hq).imp id (fun h1 => by have := HWD.out.size; omega)
  have HPP := Lib.hid (show RunPostG w F tb p X1 _ _ _ (actV k a f v fn bb (.slice r0 r1 r2)) _ _ from ⟨rfl, F', X', hT6, hXD, hF6, hf6⟩)
  clear hfs hr5 hT5 hT6 hfw hf6 hf5 hF6 hFz hF' hXD hsz5
  have HRS := Lib.hid hrs; clear hrs
  unfold actV
  go_wp2_with fail
  refine bodyPost_ret ?_ rfl HPP.out
  have k0 := (row_cell HRS.out 0).1; have k1 := (row_cell HRS.out 1).1; have k2 := (row_cell HRS.out 2).1; have k3 := (row_cell HRS.out 3).1; have k4 := (row_cell HRS.out 4).1; have k5 := (row_cell HRS.out 5).1; have k6 := (row_cell HRS.out 6).1; simp at k0 k1 k2 k3 k4 k5 k6; simp [results, Tryz.results69, go_sem, k0, k1, k2, k3, k4, k5, k6, actV]
set_option maxRecDepth 100000 in
set_option maxHeartbeats 3200000 in
theorem run_setNil (w : World) (F : Nat → Prop) (tb : Nat) (p : TPrg) (T : Tk) (X : TB) (h : TaskAt w F tb p T X) (ht : TkOk T) (P : List Part) (q : Part) (hP : T.parts = P ++ [q]) (hq : 0 ≤ q.pc ∧ q.pc ≤ 100000) (j : Nat) (hj : j < p.funcs.length) (hfj : q.fn = j) (bn : Nat) (hbn : q.base = bn) (s : Nat) (hs : (s : Int) < p.funcs[j].slots) (hs2 : s ≤ 3000) (hin : bn + (2 + s) < T.words.length) (c0 c1 c2 mp : Value) (b c : Int) :
  Calls Tryz.prog 69 #[.agg (stepV c0 c1 c2 mp tb 11 s b c)] w (RunPost w F tb p X ⟨T.base, T.words.set (bn + (2 + s)) 0, P ++ [⟨q.fn, q.pc + 1, q.base, q.ret, q.ta, q.tn, q.tc⟩], T.marks⟩ (actV 0 0 0 0 0 false (.slice none 0 0))) := by
 have st := fun wr (hw : Below w.heap.size w wr) => stSet_any wr F tb p T X (h.below hw) ht P q hP hq j hj hfj bn hbn s hs hs2 hin 0 c0 c1 c2 mp 11 s b c
 unfold stepV at st
 have ST := Lib.hid st; clear st
 have hb0 := ((Below.refl w.heap.size w).alloc (Nat.le_refl _) (.cells (stepV c0 c1 c2 mp tb 11 s b c) 124))
 have hb1 := hb0.alloc hb0.size act0
 have hr0 := row_alloc (heap_new w (.cells (stepV c0 c1 c2 mp tb 11 s b c) 124)) act0
 have hr1 := heap_new (w.alloc (.cells (stepV c0 c1 c2 mp tb 11 s b c) 124)) act0
 rw [show (w.alloc (.cells (stepV c0 c1 c2 mp tb 11 s b c) 124)).heap.size = w.heap.size + 1 from by simp] at hr1
 obtain ⟨W, hW⟩ : ∃ W, W = (w.alloc (.cells (stepV c0 c1 c2 mp tb 11 s b c) 124)).alloc act0 := ⟨_, rfl⟩
 rw [← hW] at hb1 hr0 hr1
 have HFLT := Lib.hid h.flt
 have HOUT := Lib.hid (fun k (hk : X.D k) => (h.out k hk).2)
 have hwz : W.heap.size = w.heap.size + 2 := by rw [hW]; simp
 unfold act0 at hW hr1
 unfold stepV at hW hr0
 have HW := Lib.hid hW
 have k4 : W.cell? ⟨w.heap.size, 4, none⟩ = some (.pointer (some ⟨tb, 0, none⟩)) := (row_cell hr0 4).1
 have k5 : W.cell? ⟨w.heap.size, 5, none⟩ = some (.int .i64 11) := (row_cell hr0 5).1
 have k6 : W.cell? ⟨w.heap.size, 6, none⟩ = some (.int .i64 s) := (row_cell hr0 6).1
 have k7 : W.cell? ⟨w.heap.size, 7, none⟩ = some (.int .i64 b) := (row_cell hr0 7).1
 have k8 : W.cell? ⟨w.heap.size, 8, none⟩ = some (.int .i64 c) := (row_cell hr0 8).1
 have HRR := Lib.hid (Below.refl W.heap.size W)
 clear hb0 hW
 have HB1 := Lib.hid hb1; clear hb1
 have HR1 := Lib.hid hr1; clear hr1
 have HR0 := Lib.hid hr0; clear hr0
 have HWZ := Lib.hid hwz; clear hwz
 unfold stepV
 go_enter Tryz.func69, Tryz.ntmps69
 go_upto_region 1 with fail
 rw [← HW.out]
 go_cut [3, 4] (fun x y wx => ∃ z : Nat, x = .pointer (some ⟨z, 0, none⟩) ∧ y = .pointer (some ⟨tb, 0, none⟩) ∧ wx.heap[z]? = some (.cells #[.int .i64 11, .int .i64 s, .int .i64 b, .int .i64 c] 59) ∧ w.heap.size + 2 ≤ z ∧ Below W.heap.size W wx)
 case first =>
  have bs := World.block_lt k4
  dsimp only at bs
  go_region
  all_goals
   go_wp2_with fail
   go_meet
   case rel => exact ⟨_, rfl, rfl, heap_new _ _, by have := HWZ.out; omega, (HRR.out.drew).alloc (HRR.out.size) _⟩
 case rest =>
  obtain ⟨z, rfl, rfl, hz, hzl, hR⟩ := hcut
  have hbc := HB1.out.trans (hR.mono HB1.out.size)
  have hrb := (Fr.of_below hR (fun _ => False)).heap HR0.out (fun h => h)
  have hrc := (Fr.of_below hR (fun _ => False)).heap HR1.out (fun h => h)
  have HBC := Lib.hid hbc
  have HSZ := Lib.hid (show w.heap.size + 2 ≤ wc.heap.size from by have := hR.size; have := HWZ.out; omega)
  have HRW := Lib.hid (fun wx (hw : Below wc.heap.size wc wx) => (Fr.of_below hw (fun _ => False)).heap hrc (fun h => h))
  have HSS := Lib.hid (show ∀ wx, Below wc.heap.size wc wx → wx.cell? ⟨w.heap.size, 0, none⟩ = some (c0) ∧ wx.cell? ⟨w.heap.size, 1, none⟩ = some (c1) ∧ wx.cell? ⟨w.heap.size, 2, none⟩ = some (c2) ∧ wx.cell? ⟨w.heap.size, 3, none⟩ = some (mp) ∧ wx.cell? ⟨w.heap.size, 4, none⟩ = some (.pointer (some ⟨tb, 0, none⟩)) ∧ wx.cell? ⟨w.heap.size, 5, none⟩ = some (.int .i64 11) ∧ wx.cell? ⟨w.heap.size, 6, none⟩ = some (.int .i64 s) ∧ wx.cell? ⟨w.heap.size, 7, none⟩ = some (.int .i64 b) ∧ wx.cell? ⟨w.heap.size, 8, none⟩ = some (.int .i64 c) ∧ wx.cell? ⟨z, 0, none⟩ = some (.int .i64 11) ∧ wx.cell? ⟨z, 1, none⟩ = some (.int .i64 s) ∧ wx.cell? ⟨z, 2, none⟩ = some (.int .i64 b) ∧ wx.cell? ⟨z, 3, none⟩ = some (.int .i64 c) from fun wx hw => by
   have g1 := (Fr.of_below hw (fun _ => False)).heap hrb (fun h => h)
   have g2 := (Fr.of_below hw (fun _ => False)).heap hz (fun h => h)
   exact ⟨(row_cell g1 0).1, (row_cell g1 1).1, (row_cell g1 2).1, (row_cell g1 3).1, (row_cell g1 4).1, (row_cell g1 5).1, (row_cell g1 6).1, (row_cell g1 7).1, (row_cell g1 8).1, (row_cell g2 0).1, (row_cell g2 1).1, (row_cell g2 2).1, (row_cell g2 3).1⟩)
  have hSd := HSS.out wc.drew (Below.refl wc.heap.size wc).drew
  have HRC := Lib.hid (Below.refl wc.heap.size wc)
  have HRD := Lib.hid (Below.refl wc.heap.size wc).drew
  have z0 : wc.cell? ⟨z, 0, none⟩ = some (.int .i64 11) := (row_cell hz 0).1
  clear hR hrb hrc hz k4 k5 k6 k7 k8 hbc
  obtain ⟨y0, y1, y2, y3, y4, y5, y6, y7, y8, z0, z1, z2, z3⟩ := HSS.out _ HRC.out
  clear hSd
  go_upto_region 16 with fail
  go_wp2_with fail
  refine (ST.out _ HBC.out).mono ?_
  rintro e w5 ⟨rfl, hT5, hf5⟩
  obtain ⟨F', X', hT5, hXD, hF', hf5⟩ : ∃ F' X', TaskAt w5 F' tb p ⟨T.base, T.words.set (bn + (2 + s)) 0, P ++ [⟨q.fn, q.pc + 1, q.base, q.ret, q.ta, q.tn, q.tc⟩], T.marks⟩ X' ∧ X'.Q X X.al X.kf ∧ (∀ k, F' k → F k ∨ wc.heap.size ≤ k) ∧ Fr F wc w5 := ⟨F, X, hT5, ⟨rfl, rfl, rfl, rfl⟩, fun _ h => .inl h, hf5⟩
  have HWD := HRC
  clear y0 y1 y2 y3 y4 y5 y6 y7 y8 z0 z1 z2 z3
  have hsz5 : w.heap.size + 2 ≤ wc.heap.size := by have := HSZ.out; omega
  have hr5 := hf5.heap (HRW.out _ HWD.out) (fun e => by have := HFLT.out (w.heap.size + 1) e; omega)
  obtain ⟨⟨u0, u1, u2, u3, u4, u5, u6⟩, n0, n1, n2, n3, n4, n5, n6⟩ := seven_cells hr5
  have hfs := seven_fr w5 (.int .i64 0) (.int .i64 0) (.int .i64 0) (.int .i64 0) (.int .i64 0) (.bool false) (.slice none 0 0) (w.heap.size + 1)
  have hrs := seven_row hr5 (.int .i64 0) (.int .i64 0) (.int .i64 0) (.int .i64 0) (.int .i64 0) (.bool false) (.slice none 0 0)
  have hFz : ∀ q, F' q → q ≠ w.heap.size + 1 := fun q hq e => by
   rcases hF' q hq with h1 | h1
   ·have := HFLT.out q h1; omega
   ·have := HWD.out.size; omega
  have hT6 := hT5.fr hfs (fun q hq e => hFz q hq e) (fun q hq e => by rw [hXD.1] at hq; have := HOUT.out q hq; have e : q = w.heap.size + 1 := e; omega)
  have hfw := (Fr.of_below (HBC.out.trans (HWD.out.mono HBC.out.size)) F).trans hf5 (fun _ _ h => h)
  have hf6 := hfw.trans hfs (fun q hq e => by have e : q = w.heap.size + 1 := e; omega)
  have hF6 : ∀ q, F' q → F q ∨ w.heap.size ≤ q := fun q hq => (hF' q hq).imp id (fun h1 => by have := HWD.out.size; omega)
  have HPP := Lib.hid (show RunPostG w F tb p X _ _ _ (actV 0 0 0 0 0 false (.slice none 0 0)) _ _ from ⟨rfl, F', X', hT6, hXD, hF6, hf6⟩)
  clear hfs hr5 hT5 hT6 hfw hf6 hf5 hF6 hFz hF' hXD hsz5
  have HRS := Lib.hid hrs; clear hrs
  unfold actV
  go_wp2_with fail
  refine bodyPost_ret ?_ rfl HPP.out
  have k0 := (row_cell HRS.out 0).1; have k1 := (row_cell HRS.out 1).1; have k2 := (row_cell HRS.out 2).1; have k3 := (row_cell HRS.out 3).1; have k4 := (row_cell HRS.out 4).1; have k5 := (row_cell HRS.out 5).1; have k6 := (row_cell HRS.out 6).1; simp at k0 k1 k2 k3 k4 k5 k6; simp [results, Tryz.results69, go_sem, k0, k1, k2, k3, k4, k5, k6, actV]
set_option maxRecDepth 100000 in
set_option maxHeartbeats 3200000 in
theorem asks_loadN (w : World) (F : Nat → Prop) (tb : Nat) (p : TPrg) (T : Tk) (X : TB) (h : TaskAt w F tb p T X) (ht : TkOk T) (hml : T.marks.length ≤ 10000) (hal : X.al.length ≤ 10000) (P : List Part) (q : Part) (hP : T.parts = P ++ [q]) (j : Nat) (hj : j < p.funcs.length) (hfj : q.fn = j) (bn : Nat) (hbn : q.base = bn) (ia : Int) (sb : Nat) (ic : Int) (hs : (sb : Int) < p.funcs[j].slots) (hs2 : sb ≤ 3000) (hin : bn + (2 + sb) < T.words.length) (hx : T.words[bn + (2 + sb)]? = some 0) (c0 c1 c2 mp : Value) :
  Calls Tryz.prog 100 #[.agg (stepV c0 c1 c2 mp tb 14 ia sb ic)] w (RunPostG w F tb p X T (X.al ++ [⟨-1, 0, 0, false, false⟩]) X.kf (actV 0 0 0 0 0 false (.slice none 0 0))) := by
 have hl : T.parts.length = P.length + 1 := by rw [hP]; simp
 have e0 : (T.parts[P.length]'(by omega)) = q := by simp only [hP]; simp
 have sl := fun wr (hw : Below w.heap.size w wr) => slot_in wr F tb p T X (h.below hw) ht P.length hl j hj (by rw [e0]; exact hfj) bn (by rw [e0]; exact hbn) sb hs hs2 hin
 rw [List.getElem?_eq_getElem hin] at hx
 injection hx with hx
 rw [hx] at sl
 have pn := fun wr (hw : Below w.heap.size w wr) => tkPanic_any wr F tb p T X (h.below hw) hml hal (-1) 0
 clear hl e0 hs hin hx hml
 have SL := Lib.hid sl; clear sl
 have PN := Lib.hid pn; clear pn
 have hb0 := ((Below.refl w.heap.size w).alloc (Nat.le_refl _) (.cells (stepV c0 c1 c2 mp tb 14 ia sb ic) 124))
 have hb1 := hb0.alloc hb0.size act0
 have hr0 := row_alloc (heap_new w (.cells (stepV c0 c1 c2 mp tb 14 ia sb ic) 124)) act0
 have hr1 := heap_new (w.alloc (.cells (stepV c0 c1 c2 mp tb 14 ia sb ic) 124)) act0
 rw [show (w.alloc (.cells (stepV c0 c1 c2 mp tb 14 ia sb ic) 124)).heap.size = w.heap.size + 1 from by simp] at hr1
 obtain ⟨W, hW⟩ : ∃ W, W = (w.alloc (.cells (stepV c0 c1 c2 mp tb 14 ia sb ic) 124)).alloc act0 := ⟨_, rfl⟩
 rw [← hW] at hb1 hr0 hr1
 have HFLT := Lib.hid h.flt
 have HOUT := Lib.hid (fun k (hk : X.D k) => (h.out k hk).2)
 have hwz : W.heap.size = w.heap.size + 2 := by rw [hW]; simp
 unfold act0 at hW hr1
 unfold stepV at hW hr0
 have HW := Lib.hid hW
 have k4 : W.cell? ⟨w.heap.size, 4, none⟩ = some (.pointer (some ⟨tb, 0, none⟩)) := (row_cell hr0 4).1
 have k5 : W.cell? ⟨w.heap.size, 5, none⟩ = some (.int .i64 14) := (row_cell hr0 5).1
 have k6 : W.cell? ⟨w.heap.size, 6, none⟩ = some (.int .i64 ia) := (row_cell hr0 6).1
 have k7 : W.cell? ⟨w.heap.size, 7, none⟩ = some (.int .i64 sb) := (row_cell hr0 7).1
 have k8 : W.cell? ⟨w.heap.size, 8, none⟩ = some (.int .i64 ic) := (row_cell hr0 8).1
 have HRR := Lib.hid (Below.refl W.heap.size W)
 clear hb0 hW
 have HB1 := Lib.hid hb1; clear hb1
 have HR1 := Lib.hid hr1; clear hr1
 have HR0 := Lib.hid hr0; clear hr0
 have HWZ := Lib.hid hwz; clear hwz
 unfold stepV
 go_enter Tryz.func100, Tryz.ntmps100
 go_upto_region 1 with fail
 rw [← HW.out]
 go_cut [3, 4] (fun x y wx => ∃ z : Nat, x = .pointer (some ⟨z, 0, none⟩) ∧ y = .pointer (some ⟨tb, 0, none⟩) ∧ wx.heap[z]? = some (.cells #[.int .i64 14, .int .i64 ia, .int .i64 sb, .int .i64 ic] 59) ∧ w.heap.size + 2 ≤ z ∧ Below W.heap.size W wx)
 case first =>
  have bs := World.block_lt k4
  dsimp only at bs
  go_region
  all_goals
   go_wp2_with fail
   go_meet
   case rel => exact ⟨_, rfl, rfl, heap_new _ _, by have := HWZ.out; omega, (HRR.out.drew).alloc (HRR.out.size) _⟩
 case rest =>
  obtain ⟨z, rfl, rfl, hz, hzl, hR⟩ := hcut
  have hbc := HB1.out.trans (hR.mono HB1.out.size)
  have hrb := (Fr.of_below hR (fun _ => False)).heap HR0.out (fun h => h)
  have hrc := (Fr.of_below hR (fun _ => False)).heap HR1.out (fun h => h)
  have HBC := Lib.hid hbc
  have HSZ := Lib.hid (show w.heap.size + 2 ≤ wc.heap.size from by have := hR.size; have := HWZ.out; omega)
  have HRW := Lib.hid (fun wx (hw : Below wc.heap.size wc wx) => (Fr.of_below hw (fun _ => False)).heap hrc (fun h => h))
  have HSS := Lib.hid (show ∀ wx, Below wc.heap.size wc wx → wx.cell? ⟨w.heap.size, 0, none⟩ = some (c0) ∧ wx.cell? ⟨w.heap.size, 1, none⟩ = some (c1) ∧ wx.cell? ⟨w.heap.size, 2, none⟩ = some (c2) ∧ wx.cell? ⟨w.heap.size, 3, none⟩ = some (mp) ∧ wx.cell? ⟨w.heap.size, 4, none⟩ = some (.pointer (some ⟨tb, 0, none⟩)) ∧ wx.cell? ⟨w.heap.size, 5, none⟩ = some (.int .i64 14) ∧ wx.cell? ⟨w.heap.size, 6, none⟩ = some (.int .i64 ia) ∧ wx.cell? ⟨w.heap.size, 7, none⟩ = some (.int .i64 sb) ∧ wx.cell? ⟨w.heap.size, 8, none⟩ = some (.int .i64 ic) ∧ wx.cell? ⟨z, 0, none⟩ = some (.int .i64 14) ∧ wx.cell? ⟨z, 1, none⟩ = some (.int .i64 ia) ∧ wx.cell? ⟨z, 2, none⟩ = some (.int .i64 sb) ∧ wx.cell? ⟨z, 3, none⟩ = some (.int .i64 ic) from fun wx hw => by
   have g1 := (Fr.of_below hw (fun _ => False)).heap hrb (fun h => h)
   have g2 := (Fr.of_below hw (fun _ => False)).heap hz (fun h => h)
   exact ⟨(row_cell g1 0).1, (row_cell g1 1).1, (row_cell g1 2).1, (row_cell g1 3).1, (row_cell g1 4).1, (row_cell g1 5).1, (row_cell g1 6).1, (row_cell g1 7).1, (row_cell g1 8).1, (row_cell g2 0).1, (row_cell g2 1).1, (row_cell g2 2).1, (row_cell g2 3).1⟩)
  have hSd := HSS.out wc.drew (Below.refl wc.heap.size wc).drew
  have HRC := Lib.hid (Below.refl wc.heap.size wc)
  have HRD := Lib.hid (Below.refl wc.heap.size wc).drew
  have z0 : wc.cell? ⟨z, 0, none⟩ = some (.int .i64 14) := (row_cell hz 0).1
  clear hR hrb hrc hz k4 k5 k6 k7 k8 hbc
  obtain ⟨z1, z2, z3⟩ := (HSS.out _ HRC.out).2.2.2.2.2.2.2.2.2.2
  go_upto_region 9 with fail
  go_region_held3 (fun w' => w'.cell? ⟨z, 0, none⟩ = some (.int .i64 14) ∧ w'.cell? ⟨z, 1, none⟩ = some (.int .i64 ia) ∧ w'.cell? ⟨z, 2, none⟩ = some (.int .i64 sb) ∧ w'.cell? ⟨z, 3, none⟩ = some (.int .i64 ic)) (first | with_reducible exact hSd.2.2.2.2.2.2.2.2.2 | go_keep) (fail)
  clear hSd z0 z1 z2 z3
  go_wp2_with fail
  refine (SL.out _ HBC.out.drew).mono ?_
  rintro e w4 ⟨rfl, hb4⟩
  have HWD := Lib.hid ((Below.refl wc.heap.size wc).drew.trans hb4)
  clear hb4
  go_wp2_with fail
  refine (PN.out _ (HBC.out.trans (HWD.out.mono HBC.out.size))).mono ?_
  rintro e w5 ⟨rfl, F', X', hT5, hXD, hF', hf5⟩
  have hsz5 : w.heap.size + 2 ≤ wc.heap.size := by have := HSZ.out; omega
  have hr5 := hf5.heap (HRW.out _ HWD.out) (fun e => by have := HFLT.out (w.heap.size + 1) e; omega)
  obtain ⟨⟨u0, u1, u2, u3, u4, u5, u6⟩, n0, n1, n2, n3, n4, n5, n6⟩ := seven_cells hr5
  have hfs := seven_fr w5 (.int .i64 0) (.int .i64 0) (.int .i64 0) (.int .i64 0) (.int .i64 0) (.bool false) (.slice none 0 0) (w.heap.size + 1)
  have hrs := seven_row hr5 (.int .i64 0) (.int .i64 0) (.int .i64 0) (.int .i64 0) (.int .i64 0) (.bool false) (.slice none 0 0)
  have hFz : ∀ q, F' q → q ≠ w.heap.size + 1 := fun q hq e => by
   rcases hF' q hq with h1 | h1
   ·have := HFLT.out q h1; omega
   ·have := HWD.out.size; omega
  have hT6 := hT5.fr hfs (fun q hq e => hFz q hq e) (fun q hq e => by rw [hXD.1] at hq; have := HOUT.out q hq; have e : q = w.heap.size + 1 := e; omega)
  have hfw := (Fr.of_below (HBC.out.trans (HWD.out.mono HBC.out.size)) F).trans hf5 (fun _ _ h => h)
  have hf6 := hfw.trans hfs (fun q hq e => by have e : q = w.heap.size + 1 := e; omega)
  have hF6 : ∀ q, F' q → F q ∨ w.heap.size ≤ q := fun q hq => (hF' q hq).imp id (fun h1 => by have := HWD.out.size; omega)
  have HPP := Lib.hid (show RunPostG w F tb p X _ _ _ (actV 0 0 0 0 0 false (.slice none 0 0)) _ _ from ⟨rfl, F', X', hT6, hXD, hF6, hf6⟩)
  clear hfs hr5 hT5 hT6 hfw hf6 hf5 hF6 hFz hF' hXD hsz5
  have HRS := Lib.hid hrs; clear hrs
  unfold actV
  go_wp2_with fail
  refine bodyPost_ret ?_ rfl HPP.out
  have k0 := (row_cell HRS.out 0).1; have k1 := (row_cell HRS.out 1).1; have k2 := (row_cell HRS.out 2).1; have k3 := (row_cell HRS.out 3).1; have k4 := (row_cell HRS.out 4).1; have k5 := (row_cell HRS.out 5).1; have k6 := (row_cell HRS.out 6).1; simp at k0 k1 k2 k3 k4 k5 k6; simp [results, Tryz.results100, go_sem, k0, k1, k2, k3, k4, k5, k6, actV]
set_option maxRecDepth 100000 in
set_option maxHeartbeats 3200000 in
theorem asks_storeN (w : World) (F : Nat → Prop) (tb : Nat) (p : TPrg) (T : Tk) (X : TB) (h : TaskAt w F tb p T X) (ht : TkOk T) (hml : T.marks.length ≤ 10000) (hal : X.al.length ≤ 10000) (P : List Part) (q : Part) (hP : T.parts = P ++ [q]) (j : Nat) (hj : j < p.funcs.length) (hfj : q.fn = j) (bn : Nat) (hbn : q.base = bn) (sa : Nat) (ib ic : Int) (hs : (sa : Int) < p.funcs[j].slots) (hs2 : sa ≤ 3000) (hin : bn + (2 + sa) < T.words.length) (hx : T.words[bn + (2 + sa)]? = some 0) (c0 c1 c2 mp : Value) :
  Calls Tryz.prog 100 #[.agg (stepV c0 c1 c2 mp tb 15 sa ib ic)] w (RunPostG w F tb p X T (X.al ++ [⟨-1, 0, 0, false, false⟩]) X.kf (actV 0 0 0 0 0 false (.slice none 0 0))) := by
 have hl : T.parts.length = P.length + 1 := by rw [hP]; simp
 have e0 : (T.parts[P.length]'(by omega)) = q := by simp only [hP]; simp
 have sl := fun wr (hw : Below w.heap.size w wr) => slot_in wr F tb p T X (h.below hw) ht P.length hl j hj (by rw [e0]; exact hfj) bn (by rw [e0]; exact hbn) sa hs hs2 hin
 rw [List.getElem?_eq_getElem hin] at hx
 injection hx with hx
 rw [hx] at sl
 have pn := fun wr (hw : Below w.heap.size w wr) => tkPanic_any wr F tb p T X (h.below hw) hml hal (-1) 0
 clear hl e0 hs hin hx hml
 have SL := Lib.hid sl; clear sl
 have PN := Lib.hid pn; clear pn
 have hb0 := ((Below.refl w.heap.size w).alloc (Nat.le_refl _) (.cells (stepV c0 c1 c2 mp tb 15 sa ib ic) 124))
 have hb1 := hb0.alloc hb0.size act0
 have hr0 := row_alloc (heap_new w (.cells (stepV c0 c1 c2 mp tb 15 sa ib ic) 124)) act0
 have hr1 := heap_new (w.alloc (.cells (stepV c0 c1 c2 mp tb 15 sa ib ic) 124)) act0
 rw [show (w.alloc (.cells (stepV c0 c1 c2 mp tb 15 sa ib ic) 124)).heap.size = w.heap.size + 1 from by simp] at hr1
 obtain ⟨W, hW⟩ : ∃ W, W = (w.alloc (.cells (stepV c0 c1 c2 mp tb 15 sa ib ic) 124)).alloc act0 := ⟨_, rfl⟩
 rw [← hW] at hb1 hr0 hr1
 have HFLT := Lib.hid h.flt
 have HOUT := Lib.hid (fun k (hk : X.D k) => (h.out k hk).2)
 have hwz : W.heap.size = w.heap.size + 2 := by rw [hW]; simp
 unfold act0 at hW hr1
 unfold stepV at hW hr0
 have HW := Lib.hid hW
 have k4 : W.cell? ⟨w.heap.size, 4, none⟩ = some (.pointer (some ⟨tb, 0, none⟩)) := (row_cell hr0 4).1
 have k5 : W.cell? ⟨w.heap.size, 5, none⟩ = some (.int .i64 15) := (row_cell hr0 5).1
 have k6 : W.cell? ⟨w.heap.size, 6, none⟩ = some (.int .i64 sa) := (row_cell hr0 6).1
 have k7 : W.cell? ⟨w.heap.size, 7, none⟩ = some (.int .i64 ib) := (row_cell hr0 7).1
 have k8 : W.cell? ⟨w.heap.size, 8, none⟩ = some (.int .i64 ic) := (row_cell hr0 8).1
 have HRR := Lib.hid (Below.refl W.heap.size W)
 clear hb0 hW
 have HB1 := Lib.hid hb1; clear hb1
 have HR1 := Lib.hid hr1; clear hr1
 have HR0 := Lib.hid hr0; clear hr0
 have HWZ := Lib.hid hwz; clear hwz
 unfold stepV
 go_enter Tryz.func100, Tryz.ntmps100
 go_upto_region 1 with fail
 rw [← HW.out]
 go_cut [3, 4] (fun x y wx => ∃ z : Nat, x = .pointer (some ⟨z, 0, none⟩) ∧ y = .pointer (some ⟨tb, 0, none⟩) ∧ wx.heap[z]? = some (.cells #[.int .i64 15, .int .i64 sa, .int .i64 ib, .int .i64 ic] 59) ∧ w.heap.size + 2 ≤ z ∧ Below W.heap.size W wx)
 case first =>
  have bs := World.block_lt k4
  dsimp only at bs
  go_region
  all_goals
   go_wp2_with fail
   go_meet
   case rel => exact ⟨_, rfl, rfl, heap_new _ _, by have := HWZ.out; omega, (HRR.out.drew).alloc (HRR.out.size) _⟩
 case rest =>
  obtain ⟨z, rfl, rfl, hz, hzl, hR⟩ := hcut
  have hbc := HB1.out.trans (hR.mono HB1.out.size)
  have hrb := (Fr.of_below hR (fun _ => False)).heap HR0.out (fun h => h)
  have hrc := (Fr.of_below hR (fun _ => False)).heap HR1.out (fun h => h)
  have HBC := Lib.hid hbc
  have HSZ := Lib.hid (show w.heap.size + 2 ≤ wc.heap.size from by have := hR.size; have := HWZ.out; omega)
  have HRW := Lib.hid (fun wx (hw : Below wc.heap.size wc wx) => (Fr.of_below hw (fun _ => False)).heap hrc (fun h => h))
  have HSS := Lib.hid (show ∀ wx, Below wc.heap.size wc wx → wx.cell? ⟨w.heap.size, 0, none⟩ = some (c0) ∧ wx.cell? ⟨w.heap.size, 1, none⟩ = some (c1) ∧ wx.cell? ⟨w.heap.size, 2, none⟩ = some (c2) ∧ wx.cell? ⟨w.heap.size, 3, none⟩ = some (mp) ∧ wx.cell? ⟨w.heap.size, 4, none⟩ = some (.pointer (some ⟨tb, 0, none⟩)) ∧ wx.cell? ⟨w.heap.size, 5, none⟩ = some (.int .i64 15) ∧ wx.cell? ⟨w.heap.size, 6, none⟩ = some (.int .i64 sa) ∧ wx.cell? ⟨w.heap.size, 7, none⟩ = some (.int .i64 ib) ∧ wx.cell? ⟨w.heap.size, 8, none⟩ = some (.int .i64 ic) ∧ wx.cell? ⟨z, 0, none⟩ = some (.int .i64 15) ∧ wx.cell? ⟨z, 1, none⟩ = some (.int .i64 sa) ∧ wx.cell? ⟨z, 2, none⟩ = some (.int .i64 ib) ∧ wx.cell? ⟨z, 3, none⟩ = some (.int .i64 ic) from fun wx hw => by
   have g1 := (Fr.of_below hw (fun _ => False)).heap hrb (fun h => h)
   have g2 := (Fr.of_below hw (fun _ => False)).heap hz (fun h => h)
   exact ⟨(row_cell g1 0).1, (row_cell g1 1).1, (row_cell g1 2).1, (row_cell g1 3).1, (row_cell g1 4).1, (row_cell g1 5).1, (row_cell g1 6).1, (row_cell g1 7).1, (row_cell g1 8).1, (row_cell g2 0).1, (row_cell g2 1).1, (row_cell g2 2).1, (row_cell g2 3).1⟩)
  have hSd := HSS.out wc.drew (Below.refl wc.heap.size wc).drew
  have HRC := Lib.hid (Below.refl wc.heap.size wc)
  have HRD := Lib.hid (Below.refl wc.heap.size wc).drew
  have z0 : wc.cell? ⟨z, 0, none⟩ = some (.int .i64 15) := (row_cell hz 0).1
  clear hR hrb hrc hz k4 k5 k6 k7 k8 hbc
  obtain ⟨z1, z2, z3⟩ := (HSS.out _ HRC.out).2.2.2.2.2.2.2.2.2.2
  go_upto_region 9 with fail
  go_region_held3 (fun w' => w'.cell? ⟨z, 0, none⟩ = some (.int .i64 15) ∧ w'.cell? ⟨z, 1, none⟩ = some (.int .i64 sa) ∧ w'.cell? ⟨z, 2, none⟩ = some (.int .i64 ib) ∧ w'.cell? ⟨z, 3, none⟩ = some (.int .i64 ic)) (first | with_reducible exact hSd.2.2.2.2.2.2.2.2.2 | go_keep) (fail)
  clear z0 z1 z2 z3
  have hRd := (Below.refl wc.heap.size wc).drew
  obtain ⟨wd, hwd⟩ : ∃ wd, wd = wc.drew := ⟨_, rfl⟩
  rw [← hwd] at hSd hRd ⊢
  obtain ⟨z0, z1, z2, z3⟩ := hSd.2.2.2.2.2.2.2.2.2
  have HRD := Lib.hid hRd
  clear hwd hSd hRd
  have hSe := HSS.out _ HRD.out.drew
  go_upto_region 11 with fail
  go_region_held3 (fun w' => w'.cell? ⟨z, 0, none⟩ = some (.int .i64 15) ∧ w'.cell? ⟨z, 1, none⟩ = some (.int .i64 sa) ∧ w'.cell? ⟨z, 2, none⟩ = some (.int .i64 ib) ∧ w'.cell? ⟨z, 3, none⟩ = some (.int .i64 ic)) (first | with_reducible exact hSe.2.2.2.2.2.2.2.2.2 | go_keep) (fail)
  clear z0 z1 z2 z3 hSe
  go_wp2_with fail
  refine (SL.out _ (HBC.out.trans (HRD.out.drew.mono HBC.out.size))).mono ?_
  rintro e w4 ⟨rfl, hb4⟩
  have HWD := Lib.hid (HRD.out.drew.trans (hb4.mono HRD.out.drew.size))
  clear hb4
  go_wp2_with fail
  refine (PN.out _ (HBC.out.trans (HWD.out.mono HBC.out.size))).mono ?_
  rintro e w5 ⟨rfl, F', X', hT5, hXD, hF', hf5⟩
  have hsz5 : w.heap.size + 2 ≤ wc.heap.size := by have := HSZ.out; omega
  have hr5 := hf5.heap (HRW.out _ HWD.out) (fun e => by have := HFLT.out (w.heap.size + 1) e; omega)
  obtain ⟨⟨u0, u1, u2, u3, u4, u5, u6⟩, n0, n1, n2, n3, n4, n5, n6⟩ := seven_cells hr5
  have hfs := seven_fr w5 (.int .i64 0) (.int .i64 0) (.int .i64 0) (.int .i64 0) (.int .i64 0) (.bool false) (.slice none 0 0) (w.heap.size + 1)
  have hrs := seven_row hr5 (.int .i64 0) (.int .i64 0) (.int .i64 0) (.int .i64 0) (.int .i64 0) (.bool false) (.slice none 0 0)
  have hFz : ∀ q, F' q → q ≠ w.heap.size + 1 := fun q hq e => by
   rcases hF' q hq with h1 | h1
   ·have := HFLT.out q h1; omega
   ·have := HWD.out.size; omega
  have hT6 := hT5.fr hfs (fun q hq e => hFz q hq e) (fun q hq e => by rw [hXD.1] at hq; have := HOUT.out q hq; have e : q = w.heap.size + 1 := e; omega)
  have hfw := (Fr.of_below (HBC.out.trans (HWD.out.mono HBC.out.size)) F).trans hf5 (fun _ _ h => h)
  have hf6 := hfw.trans hfs (fun q hq e => by have e : q = w.heap.size + 1 := e; omega)
  have hF6 : ∀ q, F' q → F q ∨ w.heap.size ≤ q := fun q hq => (hF' q hq).imp id (fun h1 => by have := HWD.out.size; omega)
  have HPP := Lib.hid (show RunPostG w F tb p X _ _ _ (actV 0 0 0 0 0 false (.slice none 0 0)) _ _ from ⟨rfl, F', X', hT6, hXD, hF6, hf6⟩)
  clear hfs hr5 hT5 hT6 hfw hf6 hf5 hF6 hFz hF' hXD hsz5
  have HRS := Lib.hid hrs; clear hrs
  unfold actV
  go_wp2_with fail
  refine bodyPost_ret ?_ rfl HPP.out
  have k0 := (row_cell HRS.out 0).1; have k1 := (row_cell HRS.out 1).1; have k2 := (row_cell HRS.out 2).1; have k3 := (row_cell HRS.out 3).1; have k4 := (row_cell HRS.out 4).1; have k5 := (row_cell HRS.out 5).1; have k6 := (row_cell HRS.out 6).1; simp at k0 k1 k2 k3 k4 k5 k6; simp [results, Tryz.results100, go_sem, k0, k1, k2, k3, k4, k5, k6, actV]
end Go.Proofs.YthkhgihjigmkoaaGreat.Tk
